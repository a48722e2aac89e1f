/-
  Texts laid together, part 4 of 7: laws of a walk over data, contracts of functions, each whole by itself.
-/
import Derived.Test.YtaaogcnjfkgnoaaMgc
set_option maxRecDepth 100000
set_option linter.unusedVariables false
set_option linter.unusedSimpArgs false
namespace Go.Proofs.Ytaaogcnjfkgnoaa
open Go.RowKit
section
variable {P : Program} {G : Gl} {n d : Nat} {w w' w0 : World} {S S' S0 : SS} {μ μ' μ0 : List Value} {H H' H0 : List AObj}
def IPost (l : Nat) (r : Loop) (w : World) (S : SS) (μ : List Value) (H : List AObj) (Q : Exit → List AObj → Prop) (w' : World) : Prop :=
 ∃ w2 S' μ' H' x,Q x H' ∧ Rel w2 S' μ' H' ∧ Step H.length w S μ H w2 S' μ' H' ∧ w2.heap[l]? = some (.loop r) ∧ ((x = .normal ∧ w' = w2) ∨ (∃ c,zr2 x = some c ∧ w' = w2.putObj l (.loop { r with state := .done,pending := some c })))
def RPost (N : Nat) (T : Tm) (w : World) (S : SS) (μ : List Value) (H : List AObj) (Q : Exit → List AObj → Prop) (e : Exit) (a' : Act) (w' : World) : Prop :=
 ∃ S' μ' H',Q e H' ∧ Rel w' S' μ' H' ∧ Step H.length w S μ H w' S' μ' H' ∧ Fr S' μ' ⟨N,[⟨.collected w.heap.size,#[]⟩]⟩ T a' ∧ w'.heap[w.heap.size]? = some (.deferred (some [])) ∧ w.heap.size < w'.heap.size
theorem ztL {x : AV} {v : Value} (h : rep0 S μ x v) : rep S μ x v := by
 match x,h with
 |.nil,_=>trivial
 |.held (.inl u),h=>exact h
 |.held (.inr (.inl (i,o))),h=>exact h
 |.ptr d,h=>exact h
theorem znY {g : Operand} {ps : List Nat} {assign body : Code} {a : Act} {N : Nat} {T : Tm} {f : FuncId} {caps : List AV} {q2 : Nat} {Q : Exit → List AObj → Prop}
    (hr : Rel w S μ H) (hf : Fr S μ (F0 N) T a) (hg : GOk G S) (hgv : ev G T g = .slice caps [.held (.inl (.func (.func f) #[] #[])), .held (.inr (.inl (0, q2)))]) (hc : ze3 P f = true)
    (hit : ∀ (l D fn : Nat) (w1 : World) (us : List Value), Rel w1 S μ H → w1.heap[l]? = some (.loop ⟨.ready, none, fn, a.tmps, ps.toArray, assign, body, D⟩) → us.length = caps.length → (∀ (j : Nat) (x : AV) (u : Value), caps[j]? = some x → us[j]? = some u → rep S μ x u) →
      CallsIn Fence.wide d P f (.func (.yield l) #[] #[] :: us).toArray w1 fun e w' => ∃ v, e = .returned v ∧ IPost l ⟨.ready, none, fn, a.tmps, ps.toArray, assign, body, D⟩ w1 S μ H Q w') :
    (Code.rangeFunc g ps.toArray assign body).wpIn Fence.wide (d + 1) P (RPost N T w S μ H Q) a w := by
  have hnl : ∀ r cs t p, (Obj.loop r) ≠ .cells cs t p := fun _ _ _ _ e => by cases e
  have hnd : ∀ r cs t p, (Obj.deferred r) ≠ .cells cs t p := fun _ _ _ _ e => by cases e
  have hro : Fence.wide.round = none := rfl
  have hv := hf.ev hg g
  rw [hgv] at hv
  obtain ⟨us, hu, hul, hur⟩ := hv
  have hu : a.eval g = .func (.func f) #[] us.toArray := by rw [hu]; simp
  refine wpIn_rangeFunc ?_
  intro fn hfn
  rw [hro]
  obtain ⟨wa, hwa⟩ : ∃ wa, w.alloc (.deferred (some [])) = wa := ⟨_, rfl⟩
  have hsa : wa.heap.size = w.heap.size + 1 := by rw [← hwa]; simp
  obtain ⟨r, hrr⟩ : ∃ r : Loop, (⟨.ready, none, fn, a.tmps, ps.toArray, assign, body, w.heap.size⟩ : Loop) = r := ⟨_, rfl⟩
  obtain ⟨w1, hw1⟩ : ∃ w1, wa.alloc (.loop r) = w1 := ⟨_, rfl⟩
  have hs1 : w1.heap.size = w.heap.size + 2 := by rw [← hw1]; simp [hsa]
  have hra : Rel wa S μ H := by rw [← hwa]; exact hr.touch _ (zpm w) (zcn w _)
  have hr1 : Rel w1 S μ H := by rw [← hw1]; exact hra.touch _ (zpm wa) (zcn wa _)
  have hst1 : Step H.length w S μ H w1 S μ H := by
    have h1 : Step H.length w S μ H wa S μ H := by rw [← hwa]; exact (Step.refl _ w S μ H).touch (Nat.le_refl _) rfl rfl rfl (by simp) (zcn w _)
    rw [← hw1]
    exact h1.touch (l := wa.heap.size) (by omega) rfl rfl rfl (by simp) (zcn wa _)
  have hl1 : w1.heap[w.heap.size + 1]? = some (.loop r) := by rw [← hw1, ← hsa]; exact World.alloc_heap_new wa _
  have hD1 : w1.heap[w.heap.size]? = some (.deferred (some [])) := by
    rw [← hw1, zcn wa _ _ (by omega) (by omega), ← hwa]
    exact World.alloc_heap_new w _
  have hcall := hit (w.heap.size + 1) w.heap.size fn w1 us hr1 (by rw [hrr]; exact hl1) hul fun j x u hx hu => ztL (hur j x u hx hu)
  rw [hrr] at hcall
  have hcf : ∃ fnn, P.funcs[f]? = some fnn ∧ (fnn.name == "runtime.NumGoroutine") = false ∧ fnn.body.isNone = false := by
    unfold ze3 at hc
    cases h : P.funcs[f]? with
    | none => rw [h] at hc; cases hc
    | some fnn =>
      rw [h] at hc
      simp only [Bool.and_eq_true, Bool.not_eq_true', Option.isSome_iff_ne_none] at hc
      obtain ⟨h1, h2⟩ := hc
      exact ⟨fnn, rfl, h1, by cases hb : fnn.body with | none => exact absurd hb h2 | some _ => rfl⟩
  obtain ⟨fnn, hf1, hf2, hf3⟩ := hcf
  refine ⟨w.heap.size + 1, [{ target := .collected w.heap.size, args := #[] }], w1, { target := .fn (.func f) us.toArray, args := #[.func (.yield (w.heap.size + 1)) #[] #[]] }, w1, f, #[.func (.yield (w.heap.size + 1)) #[] #[]] ++ us.toArray, w1, ?_, ?_, fun _ _ => trivial, ?_, fun q => (by cases q), ?_⟩
  · rw [run_enterLoop_outer, hwa, hrr, hw1]
  · simp only [resolve, rangeCall, hu, Deferred.ofValue, Sem.run_bind, Sem.run_pure, Result.andThen_ok]
    simp [Sem.run_pure, Act.eval]
  · simp only [invoke, callFunc, Sem.run_bind, Sem.run_pure, Result.andThen_ok, run_program, hf1, hf2, hf3]
    simp [Sem.run_pure]
  · have e0 : (#[.func (.yield (w.heap.size + 1)) #[] #[]] ++ us.toArray : Array Value) = (.func (.yield (w.heap.size + 1)) #[] #[] :: us).toArray := by simp
    rw [e0]
    refine CallsIn.mono hcall ?_
    rintro e w' ⟨v, rfl, w2, S', μ', H', x, hq, hr2, hs2, hl2, hx⟩
    have hst2 := hst1.trans hs2
    have hD2 := hs2.keeps hr1 hD1 (hnd _)
    have hll2 := (Array.getElem?_eq_some_iff.1 hl2).1
    have hfr : Fr S' μ' ⟨N, [⟨.collected w.heap.size, #[]⟩]⟩ T { a with defers := [{ target := .collected w.heap.size, args := #[] }] ++ a.defers } := by
      have h := hf.ext (hst2.toExt hr)
      exact ⟨h.size, by rw [h.nodef]; rfl, h.slot⟩
    have fin : ∀ o, w2.heap.size = (w2.putObj (w.heap.size + 1) o).heap.size ∧ Rel (w2.putObj (w.heap.size + 1) o) S' μ' H' ∧ Step H.length w S μ H (w2.putObj (w.heap.size + 1) o) S' μ' H' ∧ (w2.putObj (w.heap.size + 1) o).heap[w.heap.size]? = some (.deferred (some [])) := fun o =>
      ⟨(z8d _ _ _).symm, hr2.touch _ (zcy.of hl2 (hnl _)) (z9N _ _ _), hst2.touch (l := w.heap.size + 1) (by omega) rfl rfl rfl (by rw [z8d]; exact Nat.le_refl _) (z9N _ _ _), by rw [World.putObj_heap_other (by omega)]; exact hD2⟩
    have hsz : w.heap.size < w2.heap.size := by omega
    rcases hx with ⟨rfl, rfl⟩ | ⟨c, hj, rfl⟩
    · have hend := run_endLoop (P := P) hl2 (by rw [← hrr]; simp)
      refine ⟨none, _, by rw [hend, ← hrr], ?_⟩
      rw [hrr]
      obtain ⟨f0, f1, f2, f3⟩ := fin (.loop { r with state := .exhausted })
      exact ⟨S', μ', H', hq, f1, f2, hfr, f3, by rw [← f0]; exact hsz⟩
    · have hl3 : (w2.putObj (w.heap.size + 1) (.loop { r with state := .done, pending := some c })).heap[w.heap.size + 1]? = some (.loop { r with state := .done, pending := some c }) := World.putObj_heap_same hll2
      have hend := run_endLoop (P := P) hl3 (by simp)
      refine ⟨some c, _, hend, ?_⟩
      have hpp : ∀ o o' : Obj, (w2.putObj (w.heap.size + 1) o).putObj (w.heap.size + 1) o' = w2.putObj (w.heap.size + 1) o' := fun o o' => by
        unfold World.putObj
        simp [Array.setIfInBounds_setIfInBounds]
      rw [hpp]
      obtain ⟨f0, f1, f2, f3⟩ := fin (.loop { r with state := .exhausted, pending := some c })
      cases x with
      | ret =>
        cases hj
        exact wpIn_ret ⟨S', μ', H', hq, f1, f2, hfr, f3, by rw [← f0]; exact hsz⟩
      | exit id =>
        cases hj
        exact wpIn_exit ⟨S', μ', H', hq, f1, f2, hfr, f3, by rw [← f0]; exact hsz⟩
      | normal => cases hj
      | goto t => cases hj
      | panic ch => cases hj
      | outgrown => cases hj
theorem zmc {lo : Option Nat} {N : FS} {ops : Array Oper} {L : List Oper} {K : ASt → Prop} {Q : Exit → Act → World → Prop} {l2 : List Oper} {w0 : World} {S0 : SS} {μ0 : List Value} {H0 : List AObj} (hl0 : μ0.length = H0.length)
  (hK : ∀ s w S μ a,K s → Rel w S μ s.H → Fr S μ N s.T a → GOk G S → Step H0.length w0 S0 μ0 H0 w S μ s.H → wpListIn (FL lo) d P ops Q l2 a w) : ∀ (l : List Oper) (s : ASt),(l.all fun o=>o.guard.isNone) = true → zcI P G L l s K → fits N l = true →
  ∀ w S μ a,Rel w S μ s.H → Fr S μ N s.T a → GOk G S → Step H0.length w0 S0 μ0 H0 w S μ s.H → wpListIn (FL lo) d P ops Q (l ++ l2) a w
 |[],s,_,h,_,w,S,μ,a,hr,hf,hg,hs=>hK s w S μ a h hr hf hg hs
 |o :: r,s,hgu,h,hfit,w,S,μ,a,hr,hf,hg,hs=>by
  simp only [fits,List.all_cons,Bool.and_eq_true] at hfit hgu
  have hd : ∀ i,o.dst = some i → i < N := fun i e=>by have := hfit.1;rw [e] at this;simpa using this
  have hgd : o.guard = none := by simpa using hgu.1
  unfold zcI at h
  rw [hgd] at h
  dsimp only at h
  show wpListIn (FL lo) d P ops Q (o :: (r ++ l2)) a w
  unfold wpListIn
  rw [if_pos (by simp [Region.wanted,hgd])]
  refine op_in (zj6 h) (_root_.Go.Proofs.Ytaaogcnjfkgnoaa.Oper.wp_next (zff h hr hf hg Q) fun a' w'=>?_)
  rintro ⟨x,u,H',S',μ',hrest,rfl,hrep,hr',hs',_⟩
  have hst := (hf.ext (hs'.toExt hr)).put o.dst hd hrep
  have hn' : H0.length ≤ s.H.length := by
   have := hs.objs
   rcases Nat.lt_or_ge s.H.length H0.length with hlt|hge
   ·have hlm : s.H.length < μ0.length := by omega
    obtain ⟨x',hx',_⟩ := hs.objs s.H.length μ0[s.H.length] hlt (List.getElem?_eq_getElem hlm)
    have := (List.getElem?_eq_some_iff.1 hx').1
    rw [hr.len] at this;omega
   ·exact hge
  exact zmc hl0 hK r _ hgu.2 hrest hfit.2 w' S' μ' _ hr' hst (hg.ext hs'.still) (hs.trans (hs'.less hn'))
theorem zkq {R : Type} {E : Env} {M : Nat} {N : FS} (hE : EnvOk P G E) (hp : E.any isPan = false) {r : R} {id : Nat} {ops : List Oper} {h : Hint} {s : ASt} {k : KO R} (hx : exec P G E M N (.region id ops.toArray false) h s k = some r) :
  fits N ops = true ∧ zcI P G ops ops s (Aft (fun s=>k .normal s) r) := by
 obtain ⟨h1,h2⟩ := z03 (show whenE (fits N ops) (match panQ E ops with
  |true=>runP P G E ops s (fun s=>k .normal s) (fun u s=>k (.panic (pch u)) s)
  |false=>runE P G E false ops [] ops s fun s=>k .normal s) = some r from hx)
 have hq : panQ E ops = false := by unfold panQ;rw [hp];rfl
 rw [hq] at h2
 exact ⟨h1,zgJ hE (TEq.refl s.T) SkOk.nil h2⟩
def zmU (n : Nat) (H : List AObj) (X : AV) : RO := whenE (decide (n ≤ H.length) && (H.take n).all (ltO n)) (some (X,H.take n))
noncomputable abbrev rndFK (n : Nat) : KO (AV × List AObj) := fun e s=>match e with
 |.normal=>zmU n s.H (V (.bool true))
 |.ret=>zmU n s.H (V (.bool false))
 |.exit i=>zmU n s.H (V (.int .i64 i))
 |_=>none
theorem rndX (P : Program) (G : Gl) (E : Env) (M : Nat) (N : FS) (n : Nat) (c : Code) (h : Hint) (s : ASt) : exec P G E M N c h s (rndFK n) = execK P G E M N c h s (rndFK n) := (z8U c h s _).symm
theorem zu7 {X : AV} : zmU n H X = whenE (decide (n ≤ H.length) && (H.take n).all (ltO n)) (some (X,H.take n)) := _root_.id rfl
attribute [go_sem] zu7
def xA : Exit → AV
 |.normal=>V (.bool true)
 |.ret=>V (.bool false)
 |.exit i=>V (.int .i64 i)
 |_=>.nil
theorem zt7 {e : Exit} {s : ASt} {X : AV} (h : rndFK n e s = some (X,H')) : (e = .normal ∨ ∃ c,zr2 e = some c) ∧ X = xA e ∧ n ≤ s.H.length ∧ H' = s.H.take n ∧ (s.H.take n).all (ltO n) = true := by
 have key : ∀ Y,zmU n s.H Y = some (X,H') → X = Y ∧ n ≤ s.H.length ∧ H' = s.H.take n ∧ (s.H.take n).all (ltO n) = true := fun Y q=>by
  obtain ⟨h1,h2⟩ := z03 q
  simp only [Bool.and_eq_true,decide_eq_true_eq] at h1
  cases h2
  exact ⟨rfl,h1.1,rfl,h1.2⟩
 cases e with
 |normal=>exact ⟨.inl rfl,key _ h⟩
 |ret=>exact ⟨.inr ⟨_,rfl⟩,key _ h⟩
 |exit i=>exact ⟨.inr ⟨_,rfl⟩,key _ h⟩
 |goto l=>cases h
 |panic ch=>cases h
 |outgrown=>cases h
def rfS : Code → Code|.rangeFunc _ _ a b=>.seq a b|c=>c
def regP (k : Nat) : Code → Code|.region id ops dr=>.region id (ops.toList.take k).toArray dr|c=>c
def regD (k : Nat) : Code → Code|.region id ops dr=>.region id (ops.toList.drop k).toArray dr|c=>c
theorem zm2 {E : Env} {M : Nat} (hE : EnvOk P G E) (hp : E.any isPan = false) {l fn D N : Nat} {tm : Array Value} {ps : List Nat} {id : Nat} {ops : List Oper} {body : Code} {T : Tm} {xs : List AV} {vs : List Value} {h : Hint} {X : AV}
  (hr : Rel w S μ H) (hf : Fr S μ (F0 N) T ⟨tm,[]⟩) (hg : GOk G S) (hps : ∀ p ∈ ps,p < N) (hl : w.heap[l]? = some (.loop ⟨.ready,none,fn,tm,ps.toArray, .region id ops.toArray false,body,D⟩)) (h1 : vs.length = xs.length) (h2 : xs.length = ps.length)
  (hv : ∀ (j : Nat) (x : AV) (v : Value),xs[j]? = some x → vs[j]? = some v → rep S μ x v) (hfl : flatC body = true) (hJ : h.J = none)
  (hx : exec P G E M (F0 N) (.seq (.region id ops.toArray false) body) h ⟨H,setPs ps xs T⟩ (rndFK H.length) = some (X,H')) :
  YieldAt Fence.wide d P l vs.toArray w (YPost l ⟨.ready,none,fn,tm,ps.toArray, .region id ops.toArray false,body,D⟩ w S μ H fun x H2=>X = xA x ∧ H2 = H') := by
 have hx' : exec P G E M (F0 N) (.region id ops.toArray false) h.l ⟨H,setPs ps xs T⟩ (fun e s'=>match e with|.normal=>exec P G E M (F0 N) body h.r (ghJ h.gho (joinS h.J s')) (rndFK H.length)|e=>rndFK H.length e s') = some (X,H') := hx
 obtain ⟨f1,f2⟩ := zkq hE hp hx'
 have hgn : h.gho = none := Hint.gho_none hJ
 refine zuf (Q := fun e s=>rndFK H.length e s = some (X,H')) hr hf hg hps hl h1 h2 hv ?_ ?_
 ·have q := zlU (lo := some l) (d := d) (n := H.length) (id := id) (s := ⟨H,setPs ps xs T⟩) (G := G) (Q := fun e s'=>e = .normal ∧ Aft (fun s'=>exec P G E M (F0 N) body h.r (ghJ h.gho (joinS h.J s')) (rndFK H.length)) (X,H') s') f1 (Nat.le_refl _) (zaP (fun s q=>⟨rfl,q⟩) f2)
  refine AWi.mono (AWi.len q (Nat.le_refl _)) fun e s' q=>?_
  obtain ⟨⟨rfl,T2,ht,q⟩,hl⟩ := q
  rw [hgn,hJ] at q
  exact AWi.text ht (zjk hE hp body h.r ⟨s'.H,T2⟩ _ hfl hl q)
 ·intro e s q
  obtain ⟨q1,q2,q3,q4,q5⟩ := zt7 q
  have hl : (s.H.take H.length).length = H.length := by rw [List.length_take];omega
  exact ⟨q1,s.H.take H.length,HLe.take _ _,by rw [hl];exact q5,by rw [hl];exact Nat.le_refl _,q2,q4.symm⟩
theorem zmp {o : Oper} {a : Act} {t : Tmp} {args : Array Operand} {ts : Array TypeId} {l : Nat} {x : Next} {w' : World} {lo : Option Nat} (ho : o.op = .call { callee := .value (.tmp t),args := args,argTypes := ts }) (ht : a.eval (.tmp t) = .func (.yield l) #[] #[])
  (hy : (Instr.yield l (args.map a.eval)).run P w = .ok x w') : (Oper.semAt lo a.eval o).run P w = .ok x w' := by
 have e : Oper.semAt lo a.eval o = execOp a.eval o := by
  cases lo with
  |none=>exact Oper.semAt_none _ _
  |some l=>exact Oper.semAt_some _ _ _ (fun c q=>by rw [ho] at q;cases q)
 rw [e]
 unfold execOp
 rw [ho]
 simp only [resolve,ht,Deferred.ofValue,Sem.run_bind,Sem.run_pure,Result.andThen_ok,invoke]
 simp [hy]
theorem ztG {o : Oper} {a : Act} {t : Tmp} {args : Array Operand} {ts : Array TypeId} {l : Nat} {R : Ending → World → Prop} {next : Act → World → Prop} {Q : Exit → Act → World → Prop} (ho : o.op = .call { callee := .value (.tmp t),args := args,argTypes := ts }) (ht : a.eval (.tmp t) = .func (.yield l) #[] #[])
  (hy : YieldAt Fence.wide (d - 1) P l (args.map a.eval) w R) (h : ∀ e w',R e w' → ∃ v,e = .returned v ∧ next (a.put o.dst v) w') : o.wpIn (FL none) d P a w next Q := by
 refine ⟨fun _ _=>trivial,?_⟩
 obtain ⟨fn,tmps,asg,bd,h1,h2⟩ := hy
 rw [zmp ho ht h1]
 refine ⟨fun q=>(by cases q),RoundIn.mono h2 ?_⟩
 intro e w' hR
 obtain ⟨v,rfl,hn⟩ := h e w' hR
 exact hn
end
end Go.Proofs.Ytaaogcnjfkgnoaa

namespace Go.Proofs.Ytaaogcnjfkgnoaa
open Go.RowKit
section
variable {P : Program} {G : Gl} {n d : Nat} {N : FS} {w w' w0 : World} {S S' S0 : SS} {μ μ' μ0 : List Value} {H H' H0 : List AObj} {E : Env} {M : Nat}
theorem zn5 {T2 : Tm} : ∀ {rs : List Tmp} {ds : List AV},(TU ds : AV) = TU (sltK T2 rs) → ∀ i,get (rs.zip ds) i = get T2 i ∨ get (rs.zip ds) i = .nil := by
 intro rs ds h
 rw [zrU] at h
 simp only [DataW.iface.injEq,DataW.agg.injEq,true_and] at h
 subst h
 induction rs with
 |nil=>exact fun i=>.inr rfl
 |cons t r ih =>
  intro i
  simp only [List.map_cons,List.zip_cons_cons,_root_.Go.Proofs.Ytaaogcnjfkgnoaa.get]
  split
  ·rename_i e;subst e;exact .inl rfl
  ·exact ih i
theorem Fr.less {T T' : Tm} {a : Act} (hf : Fr S μ N T a) (h : ∀ i,get T' i = get T i ∨ get T' i = .nil) : Fr S μ N T' a :=
 ⟨hf.size,hf.nodef,fun i=>by
  rcases h i with e|e
  ·rw [e];exact hf.slot i
  ·rw [e];exact zmn _ _ _⟩
theorem Fr.some {T T' : Tm} {a : Act} (hf : Fr S μ N T a) (h : ∀ p ∈ T',get T p.1 = p.2) : Fr S μ N T' a := hf.less (by
 intro i
 induction T' with
 |nil=>exact .inr rfl
 |cons p r ih =>
  obtain ⟨j,x⟩ := p
  simp only [_root_.Go.Proofs.Ytaaogcnjfkgnoaa.get]
  split
  ·rename_i e
   subst e
   exact .inl (h (j,x) (List.mem_cons_self ..)).symm
  ·exact ih fun p hp=>h p (List.mem_cons_of_mem _ hp))
theorem znn {rs : List Tmp} {e : Exit} {s : ASt} {X : AV} (h : nslFK rs e s = some (X,H')) : e = .normal ∧ X = TU (sltK s.T rs) ∧ s.H = H' := by
 cases e with
 |normal=>cases h;exact ⟨rfl,rfl,rfl⟩
 |exit id=>cases h
 |goto l=>cases h
 |ret=>cases h
 |panic ch=>cases h
 |outgrown=>cases h
def PartP (G : Gl) (N : FS) (rs : List Tmp) (ds : List AV) (w : World) (S : SS) (μ : List Value) (H H' : List AObj) (a' : Act) (w' : World) : Prop :=
 ∃ S' μ',Rel w' S' μ' H' ∧ Fr S' μ' N (rs.zip ds) a' ∧ GOk G S' ∧ Step H.length w S μ H w' S' μ' H'
theorem zl5 (hm : P.follows .mixedOrders = true) (hE : EnvOk P G E) {c : Code} {h : Hint} {s : ASt} {rs : List Tmp} {ds : List AV} {a : Act} (hx : exec P G E M N c h s (nslFK rs) = some (TU ds,H')) (hr : Rel w S μ s.H) (hf : Fr S μ N s.T a) (hg : GOk G S) :
  c.wpIn (FL none) d P (fun e a' w'=>e = .normal ∧ PartP G N rs ds w S μ s.H H' a' w') a w := by
 refine wpIn_wide.2 (wp_mono (zb0 (n := s.H.length) hm hE c h s _ (Nat.le_refl _) hx w S μ a hr hf hg) ?_)
 rintro e a' w' ⟨s',S',μ',hq,hr',hf',hst⟩
 obtain ⟨rfl,e2,rfl⟩ := znn hq
 exact ⟨rfl,S',μ',hr',hf'.less (zn5 e2),hg.ext hst.still,hst⟩
theorem zqn (hE : EnvOk P G E) (hp : E.any isPan = false) {id : Nat} {l : List Oper} {h : Hint} {s : ASt} {rs : List Tmp} {ds : List AV} {a : Act} {ops : Array Oper} {l2 : List Oper} {Q : Exit → Act → World → Prop} (hgu : (l.all fun o=>o.guard.isNone) = true) (hx : exec P G E M N (.region id l.toArray false) h s (nslFK rs) = some (TU ds,H'))
  (hr : Rel w S μ s.H) (hf : Fr S μ N s.T a) (hg : GOk G S) (hK : ∀ a' w',PartP G N rs ds w S μ s.H H' a' w' → wpListIn (FL none) d P ops Q l2 a' w') : wpListIn (FL none) d P ops Q (l ++ l2) a w := by
 obtain ⟨f1,f2⟩ := zkq hE hp hx
 refine zmc (L := l) (N := N) hr.len ?_ l s hgu f2 f1 w S μ a hr hf hg (Step.refl _ _ _ _ _)
 rintro s' w' S' μ' a' ⟨T2,ht,hk⟩ hr' hf' hg' hst
 obtain ⟨_,e2,e3⟩ := znn (s := ⟨s'.H,T2⟩) hk
 dsimp only at e2 e3
 subst e3
 exact hK a' w' ⟨S',μ',hr',(hf'.less fun i=>.inl (ht i).symm).less (zn5 e2),hg',hst⟩
theorem ztn (hE : EnvOk P G E) (hp : E.any isPan = false) {id : Nat} {l : List Oper} {h : Hint} {s : ASt} {rs : List Tmp} {ds : List AV} {a : Act} {ops : Array Oper} {Q : Exit → Act → World → Prop} (hgu : (l.all fun o=>o.guard.isNone) = true) (hx : exec P G E M N (.region id l.toArray false) h s (nslFK rs) = some (TU ds,H'))
  (hr : Rel w S μ s.H) (hf : Fr S μ N s.T a) (hg : GOk G S) (hK : ∀ a' w',PartP G N rs ds w S μ s.H H' a' w' → Q .normal a' w') : wpListIn (FL none) d P ops Q l a w := by
 have key := zqn (d := d) (ops := ops) (l2 := []) (Q := Q) hE hp hgu hx hr hf hg fun a' w' q=>wpListIn_nil (hK a' w' q)
 rwa [List.append_nil] at key
theorem ziQ (hm : P.follows .mixedOrders = true) (hE : EnvOk P G E) {rs : List Tmp} {ds : List AV} {Q : Exit → Act → World → Prop} : ∀ (m : Nat) (c : Code) (h : Hint) (s : ASt) {w : World} {S : SS} {μ : List Value} {a : Act},deepC m c = true → exec P G E M N (farC m c .skip) h s (nslFK rs) = some (TU ds,H') →
  Rel w S μ s.H → Fr S μ N s.T a → GOk G S →
  (∀ a' w',(∃ S' μ',n ≤ H'.length ∧ Rel w' S' μ' H' ∧ Fr S' μ' N (rs.zip ds) a' ∧ GOk G S' ∧ Step n w S μ s.H w' S' μ' H') → (endC m c).wpIn (FL none) d P Q a' w') → n ≤ s.H.length → c.wpIn (FL none) d P Q a w
 |0,c,h,s,w,S,μ,a,hd,hx,hr,hf,hg,hK,hn=>by
  have hx : nslFK rs .normal s = some (TU ds,H') := hx
  obtain ⟨_,e2,e3⟩ := znn hx
  subst e3
  exact hK a w ⟨S,μ,hn,hr,hf.less (zn5 e2),hg,Step.refl _ _ _ _ _⟩
 |m + 1, .seq x y,h,s,w,S,μ,a,hd,hx,hr,hf,hg,hK,hn=>by
  refine wpIn_seq (wpIn_mono (wpIn_wide.2 (AWp.len (zb0 (n := n) hm hE x h.l s _ hn hx) hn w S μ a hr hf hg)) ?_)
  rintro e a' w' ⟨s',S',μ',⟨hq,hl⟩,hr',hf',hst⟩
  cases e with
  |normal =>
   have q : exec P G E M N (farC m y .skip) h.r (ghJ h.gho (joinS h.J s')) (nslFK rs) = some (TU ds,H') := hq
   have key : ∀ (T3 : Tm),(∀ i,get T3 i = get s'.T i ∨ get T3 i = .nil) → exec P G E M N (farC m y .skip) h.r (ghJ h.gho ⟨s'.H,T3⟩) (nslFK rs) = some (TU ds,H') → y.wpIn (FL none) d P Q a' w' := by
    intro T3 h3 q
    have gh : ∀ g,∃ μ2,Rel w' S' μ2 (ghJ g ⟨s'.H,T3⟩).H ∧ Fr S' μ2 N (ghJ g ⟨s'.H,T3⟩).T a' ∧ Step n w' S' μ' s'.H w' S' μ2 (ghJ g ⟨s'.H,T3⟩).H := by
     intro g
     have triv : ∃ μ2,Rel w' S' μ2 s'.H ∧ Fr S' μ2 N T3 a' ∧ Step n w' S' μ' s'.H w' S' μ2 s'.H := ⟨μ',hr',hf'.less h3,Step.refl _ _ _ _ _⟩
     cases g with
     |none=>exact triv
     |some g =>
      obtain ⟨i,off,e,z⟩ := g
      show ∃ μ2,Rel w' S' μ2 (ghS i off e z ⟨s'.H,T3⟩).H ∧ Fr S' μ2 N (ghS i off e z ⟨s'.H,T3⟩).T a' ∧ Step n w' S' μ' s'.H w' S' μ2 (ghS i off e z ⟨s'.H,T3⟩).H
      unfold ghS
      split
      ·rename_i j hi
       split
       ·rename_i ob hj
        split
        ·rename_i hk hc
         obtain ⟨h1,h2⟩ := hr'.nilRow none e z
         have hjl : j < s'.H.length := (List.getElem?_eq_some_iff.1 hj).1
         obtain ⟨h3',h4⟩ := h1.recell (off := off) (d' := OW s'.H.length 0) (by rw [List.getElem?_append_left hjl];exact hj) hk hc (fun u hu=>⟨none,0,0,none,0,by rw [← hr'.len];simp,Nat.le_refl _,hu.1,fun _=>⟨rfl,rfl⟩⟩)
         rw [List.set_append_left _ _ hjl] at h3' h4
         have hx : Ext S' μ' S' (μ' ++ [.slice none 0 0]) := zkA S' μ' _
         exact ⟨_,h3',(hf'.less h3).ext hx,(h2.less hl).trans (h4.less (by simp only [List.length_append];omega))⟩
        ·exact triv
       ·exact triv
      ·exact triv
    obtain ⟨μ2,g1,g2,g3⟩ := gh h.gho
    have hl2 : n ≤ (ghJ h.gho ⟨s'.H,T3⟩).H.length := Nat.le_trans hl (zmk h.gho ⟨s'.H,T3⟩)
    refine ziQ hm hE m y h.r (ghJ h.gho ⟨s'.H,T3⟩) hd q g1 g2 (hg.ext hst.still) ?_ hl2
    rintro a2 w2 ⟨S2,μ3,b1,b2,b3,b4,b5⟩
    exact hK a2 w2 ⟨S2,μ3,b1,b2,b3,b4,(hst.trans g3).trans b5⟩
   cases hj : h.J with
   |none=>rw [hj] at q;exact key s'.T (fun i=>.inl rfl) q
   |some L=>rw [hj] at q;exact key (keepT L s'.T) (zf6 L s'.T) q
  |exit id=>cases hq
  |goto l=>cases hq
  |ret=>cases hq
  |panic ch=>cases hq
  |outgrown=>cases hq
end
end Go.Proofs.Ytaaogcnjfkgnoaa

namespace Go.Proofs.Ytaaogcnjfkgnoaa
open Go.RowKit
def z0b : TypeId := 54
def z00 : TypeId := 30
def z01 : TypeId := 41
def z7o : TypeId := 3
def z0U : List AV := [(V (.int .i64 0)),(V (.int .i64 0)),(V (.int .i64 0)),(V (.string ⟨#[]⟩)),(V (.slice none 0 0))]
def z09 : List AV := [(V (.int .i64 0)),(V (.int .i64 0)),(V (.int .i64 0)),(V (.int .i64 0)),(V (.int .i64 0))]
noncomputable def z8l : Code := (Try.f80.body).getD .skip
def z8k : Hint := (.two .n (.join [] (.two .n (.one (.lp [] [5,6,7] [2] (.two .n (.two (.two .n .n) (.join [5,6,7] (.one (.two .n (.join [5,6,7,16] .n (.two (.two .n .n) .n)))) .n)))))) (.two .n .n)))
noncomputable def z7E (m : Nat) : Env := []
noncomputable abbrev zc1 : KO (AV × List AObj) := z3Y Try.prog [.tmp 2]
noncomputable def zdw (m : Nat) (n0 : Nat) (kc : ASt → RO) (kx : KO (AV × List AObj)) (s : ASt) : RO := joinW Try.prog GG (z7E m) m ⟨18,[]⟩ (cdR (cdR (cdR (cdL (cdL (cdR (cdL (cdR z8l)))))))) z8k.r.l.r.c.c.r.r.r s (backW n0 [5,6,7] [2] kc kx)
noncomputable def zcU (m : Nat) (n0 : Nat) (kc : ASt → RO) (kx : KO (AV × List AObj)) (s : ASt) : RO := joinW Try.prog GG (z7E m) m ⟨18,[]⟩ (cdR (cdR (cdL (cdL (cdR (cdR (cdL (cdL (cdR (cdL (cdR z8l))))))))))) z8k.r.l.r.c.c.r.r.l.c.r.r s (z41 1 (seqX (fun s=>zdw m n0 kc kx ⟨s.H,[(5,gt s.T 5),(6,gt s.T 6),(7,gt s.T 7)]⟩) (backW n0 [5,6,7] [2] kc kx)))
noncomputable def zgH (m : Nat) (s : ASt) : RO := joinW Try.prog GG (z7E m) m ⟨18,[]⟩ (cdR (cdR z8l)) z8k.r.r s (zc1)
noncomputable def zgQ (m : Nat) (s : ASt) (kc : ASt → RO) (kx : KO (AV × List AObj)) : RO := bodyW Try.prog GG (z7E m) m ⟨18,[]⟩ (cdL (cdL (cdR (cdL (cdR z8l))))) z8k.r.l.r.c.c [5,6,7] [2] s kc kx
noncomputable def zaM (m : Nat) (t0 : AV) : RO := exec Try.prog GG (z7E m) m ⟨18,[]⟩ z8l z8k ⟨[],argsT 0 [t0]⟩ (zc1)
theorem z7K (m : Nat) (n0 : Nat) (kc : ASt → RO) (kx : KO (AV × List AObj)) (H : List AObj) (t5 t6 t7 : AV) : zdw m n0 kc kx ⟨H,[(5,t5),(6,t6),(7,t7)]⟩ =
 binE none false false .add t7 (V (.int .i64 1)) fun t17 =>
 backE n0 H [(5,t5),(6,t6),(7,t17)] kc := by
 refine (z04 _ _ _ _ _ _ _ _ _).trans ?_
 kernel_rfl
theorem z7L (m : Nat) (n0 : Nat) (kc : ASt → RO) (kx : KO (AV × List AObj)) (H : List AObj) (t5 t6 t7 t16 : AV) : zcU m n0 kc kx ⟨H,[(5,t5),(6,t6),(7,t7),(16,t16)]⟩ =
 condE t16 (
  kx .ret ⟨H,[(2,(V (.bool false)))]⟩) (
  zdw m n0 kc kx ⟨H,[(5,t5),(6,t6),(7,t7)]⟩) := by
 refine (z04 _ _ _ _ _ _ _ _ _).trans ?_
 kernel_rfl
theorem z7I (m : Nat) (H : List AObj) : zgH m ⟨H,[]⟩ =
 tellK H (ro H (V (.bool true))) := by
 refine (z04 _ _ _ _ _ _ _ _ _).trans ?_
 kernel_rfl
theorem ziw (m : Nat) (H : List AObj) (t5 t6 t7 : AV) (kc : ASt → RO) (kx : KO (AV × List AObj)) : zgQ m ⟨H,[(5,t5),(6,t6),(7,t7)]⟩ kc kx =
 binE none false false .lss t7 t6 fun t8 =>
 condE t8 (
  idxSE 1 H t5 t7 fun t9 =>
  loadE 1 H t9 fun t10 =>
  binE none false false .lss t10 (V (.int .i64 0)) fun t12 =>
  condE t12 (
   zcU m H.length kc kx ⟨H,[(5,t5),(6,t6),(7,t7),(16,(V (.bool true)))]⟩) (
   binE none false false .gtr t10 (V (.int .i64 2147483647)) fun t15 =>
   zcU m H.length kc kx ⟨H,[(5,t5),(6,t6),(7,t7),(16,t15)]⟩)) (
  kx (.exit 0) ⟨H,[(2, .nil)]⟩) := by
 refine (z2r _ _ _ _ _ _ _ _ _ _ _ _).trans ?_
 kernel_rfl
theorem zkY (m : Nat) (t0 : AV) : zaM m t0 =
 lenE false true [] t0 fun t6 =>
 iterC m (zgQ m) ⟨[],[(5,t0),(6,t6),(7,(V (.int .i64 0)))]⟩ (z41 0 (seqX (fun s=>zgH m ⟨s.H,[]⟩) (zc1))) := by
 refine (tellX _ _ _ _ _ _ _ _ _).trans ?_
 kernel_rfl
noncomputable def za5 (m : Nat) : List AV → RO|[t0]=>zaM m t0|_=>none
theorem zd3 (m : Nat) : ∀ args X H',za5 m args = some (X,H') → ACp Try.prog GG 80 args X := by
 intro args X H' h
 unfold za5 at h
 split at h
 ·exact z0G MIX (by intro f e h;cases h) (f := 80) (c := z8l) Try.func80 rfl (by kernel_rfl) _ rfl Try.ntmps80 (Nat.le_of_ble_eq_true rfl) z8k h
 ·cases h
noncomputable def zjC : Code := (Try.f79.body).getD .skip
def zjo : Hint := (.two .n (.two .n .n))
noncomputable def zkZ (m : Nat) : Env := []
noncomputable abbrev zlx : KO (AV × List AObj) := z3Y Try.prog [.tmp 2]
noncomputable def zeo (m : Nat) (t0 : AV) : RO := exec Try.prog GG (zkZ m) m ⟨9,[]⟩ zjC zjo ⟨[],argsT 0 [t0]⟩ (zlx)
theorem zmF (m : Nat) (t0 : AV) : zeo m t0 =
 binE none false false .geq t0 (V (.int .i64 0)) fun t4 =>
 condE t4 (
  binE none false false .lss t0 (V (.int .i64 64)) fun t7 =>
  tellK [] (ro [] t7)) (
  tellK [] (ro [] (V (.bool false)))) := by
 refine (tellX _ _ _ _ _ _ _ _ _).trans ?_
 kernel_rfl
noncomputable def zd7 (m : Nat) : List AV → RO|[t0]=>zeo m t0|_=>none
theorem zii (m : Nat) : ∀ args X H',zd7 m args = some (X,H') → ACp Try.prog GG 79 args X := by
 intro args X H' h
 unfold zd7 at h
 split at h
 ·exact z0G MIX (by intro f e h;cases h) (f := 79) (c := zjC) Try.func79 rfl (by kernel_rfl) _ rfl Try.ntmps79 (Nat.le_of_ble_eq_true rfl) zjo h
 ·cases h
noncomputable def zkV : Code := (Try.f82.body).getD .skip
def zkF : Hint := (.two .n (.two .n .n))
noncomputable def zil (m : Nat) : Env := [(79, .tell (zd7 m)),(80, .tell (za5 m))]
noncomputable abbrev zmG : KO (AV × List AObj) := z3Y Try.prog [.tmp 2]
noncomputable def ziR (m : Nat) (t0 : AV) : RO := exec Try.prog GG (zil m) m ⟨18,[]⟩ zkV zkF ⟨[],argsT 0 [t0]⟩ (zmG)
theorem zmV (m : Nat) (t0 : AV) : ziR m t0 =
 boxE z01 [] t0 fun t1 H1 =>
 z02 (some (0,1)) t1 fun t3 =>
 loadE 1 H1 t3 fun t4 =>
 tellE (zeo m (ro H1 t4)) [(ro H1 t4)] fun t5 =>
 condE t5 (
  z02 (some (1,1)) t1 fun t7 =>
  loadE 1 H1 t7 fun t8 =>
  z02 (some (2,1)) t1 fun t9 =>
  loadE 1 H1 t9 fun t10 =>
  z02 (some (3,1)) t1 fun t11 =>
  loadE 1 H1 t11 fun t12 =>
  z02 (some (4,1)) t1 fun t13 =>
  loadE 1 H1 t13 fun t14 =>
  z1g (some (z7o,1)) 4 [(0,t8),(1,t10),(2,t12),(3,t14)] fun t15 =>
  tellE (zaM m (ro H1 t15)) [(ro H1 t15)] fun t16 =>
  tellK H1 (ro H1 t16)) (
  tellK H1 (ro H1 (V (.bool false)))) := by
 refine (tellX _ _ _ _ _ _ _ _ _).trans ?_
 kernel_rfl
noncomputable def zcm (m : Nat) : List AV → RO|[t0]=>ziR m t0|_=>none
theorem zn6 (m : Nat) : ∀ args X H',zcm m args = some (X,H') → ACp Try.prog GG 82 args X := by
 intro args X H' h
 unfold zcm at h
 split at h
 ·exact z0G MIX (by
  intro f e h
  simp only [zil,Prod.mk.injEq,List.mem_cons,List.not_mem_nil,or_false] at h
  rcases h with ⟨rfl,rfl⟩|⟨rfl,rfl⟩
  ·exact zii m
  ·exact zd3 m) (f := 82) (c := zkV) Try.func82 rfl (by kernel_rfl) _ rfl Try.ntmps82 (Nat.le_of_ble_eq_true rfl) zkF h
 ·cases h
noncomputable def z8B : Code := (Try.f81.body).getD .skip
def z8S : Hint := (.two .n (.two (.two .n (.two (.two .n .n) .n)) (.join [] (.two .n (.one (.lp [] [1,10,11,12] [4] (.two .n (.two (.two .n .n) (.two (.one (.two .n (.two .n (.two (.two .n .n) .n)))) .n)))))) (.two .n .n))))
noncomputable def z4c (m : Nat) : Env := [(82, .tell (zcm m))]
noncomputable abbrev z9A : KO (AV × List AObj) := z3Y Try.prog [.tmp 4]
noncomputable def zdM (m : Nat) (s : ASt) : RO := joinW Try.prog GG (z4c m) m ⟨21,[]⟩ (cdR (cdR (cdR z8B))) z8S.r.r.r s (z9A)
noncomputable def zdD (m : Nat) (s : ASt) (kc : ASt → RO) (kx : KO (AV × List AObj)) : RO := bodyW Try.prog GG (z4c m) m ⟨21,[]⟩ (cdL (cdL (cdR (cdL (cdR (cdR z8B)))))) z8S.r.r.l.r.c.c [1,10,11,12] [4] s kc kx
noncomputable def z9a (m : Nat) (t0 t1 : AV) : RO := exec Try.prog GG (z4c m) m ⟨21,[]⟩ z8B z8S ⟨[],argsT 0 [t0,t1]⟩ (z9A)
theorem z7X (m : Nat) (H : List AObj) : zdM m ⟨H,[]⟩ =
 tellK H (ro H (V (.bool true))) := by
 refine (z04 _ _ _ _ _ _ _ _ _).trans ?_
 kernel_rfl
theorem zgb (m : Nat) (H : List AObj) (t1 t10 t11 t12 : AV) (kc : ASt → RO) (kx : KO (AV × List AObj)) : zdD m ⟨H,[(1,t1),(10,t10),(11,t11),(12,t12)]⟩ kc kx =
 binE none false false .lss t12 t11 fun t13 =>
 condE t13 (
  idxSE 7 H t10 t12 fun t14 =>
  loadE 7 H t14 fun t15 =>
  z5a (some z09) z01 H fun t6 H2 =>
  z1p 7 H2 t6 t15 fun H3 =>
  loadE 7 H3 t6 fun t17 =>
  zeD (z4c m) t1 [t17] H3 fun t18 H4 =>
  unE .not t18 fun t19 =>
  condE t19 (
   kx .ret ⟨H4,[(4,(V (.bool false)))]⟩) (
   binE none false false .add t12 (V (.int .i64 1)) fun t20 =>
   backE H.length H4 [(1,t1),(10,t10),(11,t11),(12,t20)] kc)) (
  kx (.exit 0) ⟨H,[(4, .nil)]⟩) := by
 refine (z2r _ _ _ _ _ _ _ _ _ _ _ _).trans ?_
 kernel_rfl
theorem ziI (m : Nat) (t0 t1 : AV) : z9a m t0 t1 =
 lenE false true [] t0 fun t8 =>
 binE none false false .gtr t8 (V (.int .i64 64)) fun t9 =>
 condE t9 (
  tellK [] (ro [] (V (.bool false)))) (
  lenE false true [] t0 fun t11 =>
  iterC m (zdD m) ⟨[],[(1,t1),(10,t0),(11,t11),(12,(V (.int .i64 0)))]⟩ (z41 0 (seqX (fun s=>zdM m ⟨s.H,[]⟩) (z9A)))) := by
 refine (tellX _ _ _ _ _ _ _ _ _).trans ?_
 kernel_rfl
noncomputable def z92 (m : Nat) : List AV → RO|[t0,t1]=>z9a m t0 t1|_=>none
theorem zdy (m : Nat) : ∀ args X H',z92 m args = some (X,H') → ACp Try.prog GG 81 args X := by
 intro args X H' h
 unfold z92 at h
 split at h
 ·exact z0G MIX (by
  intro f e h
  simp only [z4c,Prod.mk.injEq,List.mem_cons,List.not_mem_nil,or_false] at h
  obtain ⟨rfl,rfl⟩ := h
  ·exact zn6 m) (f := 81) (c := z8B) Try.func81 rfl (by kernel_rfl) _ rfl Try.ntmps81 (Nat.le_of_ble_eq_true rfl) z8S h
 ·cases h
noncomputable def zkN : Code := (Try.f84.body).getD .skip
def zkL : Hint := (.two .n (.two .n .n))
noncomputable def zig (m : Nat) : Env := [(80, .tell (za5 m)),(81, .tell (z92 m))]
noncomputable abbrev zm6 : KO (AV × List AObj) := z3Y Try.prog [.tmp 2]
noncomputable def ziT (m : Nat) (t0 : AV) : RO := exec Try.prog GG (zig m) m ⟨22,[]⟩ zkN zkL ⟨[],argsT 0 [t0]⟩ (zm6)
theorem zmP (m : Nat) (t0 : AV) : ziT m t0 =
 boxE z0b [] t0 fun t1 H1 =>
 z02 (some (0,1)) t1 fun t3 =>
 loadE 1 H1 t3 fun t4 =>
 z02 (some (1,1)) t1 fun t5 =>
 loadE 1 H1 t5 fun t6 =>
 z02 (some (2,1)) t1 fun t7 =>
 loadE 1 H1 t7 fun t8 =>
 z1g (some (z7o,1)) 3 [(0,t4),(1,t6),(2,t8)] fun t9 =>
 tellE (zaM m (ro H1 t9)) [(ro H1 t9)] fun t10 =>
 condE t10 (
  z02 (some (3,1)) t1 fun t12 =>
  loadE 1 H1 t12 fun t13 =>
  lenE true false H1 t13 fun t14 =>
  binE none false false .leq t14 (V (.int .i64 65536)) fun t15 =>
  condE t15 (
  z02 (some (4,1)) t1 fun t18 =>
  loadE 1 H1 t18 fun t19 =>
  tellE (z9a m (ro H1 t19) (ro H1 (V (.func (.func 82) #[] #[])))) [(ro H1 t19),(ro H1 (V (.func (.func 82) #[] #[])))] fun t20 =>
  tellK H1 (ro H1 t20)) (
  tellK H1 (ro H1 (V (.bool false))))) (
  tellK H1 (ro H1 (V (.bool false)))) := by
 refine (tellX _ _ _ _ _ _ _ _ _).trans ?_
 kernel_rfl
noncomputable def zcM (m : Nat) : List AV → RO|[t0]=>ziT m t0|_=>none
theorem zmM (m : Nat) : ∀ args X H',zcM m args = some (X,H') → ACp Try.prog GG 84 args X := by
 intro args X H' h
 unfold zcM at h
 split at h
 ·exact z0G MIX (by
  intro f e h
  simp only [zig,Prod.mk.injEq,List.mem_cons,List.not_mem_nil,or_false] at h
  rcases h with ⟨rfl,rfl⟩|⟨rfl,rfl⟩
  ·exact zd3 m
  ·exact zdy m) (f := 84) (c := zkN) Try.func84 rfl (by kernel_rfl) _ rfl Try.ntmps84 (Nat.le_of_ble_eq_true rfl) zkL h
 ·cases h
noncomputable def z8A : Code := (Try.f83.body).getD .skip
def z8J : Hint := (.two .n (.two (.two .n (.two (.two .n .n) .n)) (.join [] (.two .n (.one (.lp [] [1,10,11,12] [4] (.two .n (.two (.two .n .n) (.two (.one (.two .n (.two .n (.two (.two .n .n) .n)))) .n)))))) (.two .n .n))))
noncomputable def z4b (m : Nat) : Env := [(84, .tell (zcM m))]
noncomputable abbrev z9P : KO (AV × List AObj) := z3Y Try.prog [.tmp 4]
noncomputable def zdE (m : Nat) (s : ASt) : RO := joinW Try.prog GG (z4b m) m ⟨21,[]⟩ (cdR (cdR (cdR z8A))) z8J.r.r.r s (z9P)
noncomputable def zdJ (m : Nat) (s : ASt) (kc : ASt → RO) (kx : KO (AV × List AObj)) : RO := bodyW Try.prog GG (z4b m) m ⟨21,[]⟩ (cdL (cdL (cdR (cdL (cdR (cdR z8A)))))) z8J.r.r.l.r.c.c [1,10,11,12] [4] s kc kx
noncomputable def zaI (m : Nat) (t0 t1 : AV) : RO := exec Try.prog GG (z4b m) m ⟨21,[]⟩ z8A z8J ⟨[],argsT 0 [t0,t1]⟩ (z9P)
theorem z7V (m : Nat) (H : List AObj) : zdE m ⟨H,[]⟩ =
 tellK H (ro H (V (.bool true))) := by
 refine (z04 _ _ _ _ _ _ _ _ _).trans ?_
 kernel_rfl
theorem zfX (m : Nat) (H : List AObj) (t1 t10 t11 t12 : AV) (kc : ASt → RO) (kx : KO (AV × List AObj)) : zdJ m ⟨H,[(1,t1),(10,t10),(11,t11),(12,t12)]⟩ kc kx =
 binE none false false .lss t12 t11 fun t13 =>
 condE t13 (
  idxSE 7 H t10 t12 fun t14 =>
  loadE 7 H t14 fun t15 =>
  z5a (some z0U) z0b H fun t6 H2 =>
  z1p 7 H2 t6 t15 fun H3 =>
  loadE 7 H3 t6 fun t17 =>
  zeD (z4b m) t1 [t17] H3 fun t18 H4 =>
  unE .not t18 fun t19 =>
  condE t19 (
   kx .ret ⟨H4,[(4,(V (.bool false)))]⟩) (
   binE none false false .add t12 (V (.int .i64 1)) fun t20 =>
   backE H.length H4 [(1,t1),(10,t10),(11,t11),(12,t20)] kc)) (
  kx (.exit 0) ⟨H,[(4, .nil)]⟩) := by
 refine (z2r _ _ _ _ _ _ _ _ _ _ _ _).trans ?_
 kernel_rfl
theorem ziH (m : Nat) (t0 t1 : AV) : zaI m t0 t1 =
 lenE false true [] t0 fun t8 =>
 binE none false false .gtr t8 (V (.int .i64 64)) fun t9 =>
 condE t9 (
  tellK [] (ro [] (V (.bool false)))) (
  lenE false true [] t0 fun t11 =>
  iterC m (zdJ m) ⟨[],[(1,t1),(10,t0),(11,t11),(12,(V (.int .i64 0)))]⟩ (z41 0 (seqX (fun s=>zdE m ⟨s.H,[]⟩) (z9P)))) := by
 refine (tellX _ _ _ _ _ _ _ _ _).trans ?_
 kernel_rfl
noncomputable def zb2 (m : Nat) : List AV → RO|[t0,t1]=>zaI m t0 t1|_=>none
theorem ziP (m : Nat) : ∀ args X H',zb2 m args = some (X,H') → ACp Try.prog GG 83 args X := by
 intro args X H' h
 unfold zb2 at h
 split at h
 ·exact z0G MIX (by
  intro f e h
  simp only [z4b,Prod.mk.injEq,List.mem_cons,List.not_mem_nil,or_false] at h
  obtain ⟨rfl,rfl⟩ := h
  ·exact zmM m) (f := 83) (c := z8A) Try.func83 rfl (by kernel_rfl) _ rfl Try.ntmps83 (Nat.le_of_ble_eq_true rfl) z8J h
 ·cases h
noncomputable def zia : Code := (Try.f60.body).getD .skip
def zij : Hint := (.two .n (.two .n .n))
noncomputable def zfN (m : Nat) : Env := [(79, .tell (zd7 m)),(80, .tell (za5 m)),(81, .tell (z92 m)),(83, .tell (zb2 m))]
noncomputable abbrev zkc : KO (AV × List AObj) := z3Y Try.prog [.tmp 2]
noncomputable def zf7 (m : Nat) (t0 : AV) : RO := exec Try.prog GG (zfN m) m ⟨26,[]⟩ zia zij ⟨[],argsT 0 [t0]⟩ (zkc)
theorem zlw (m : Nat) (t0 : AV) : zf7 m t0 =
 boxE z00 [] t0 fun t1 H1 =>
 z02 (some (0,1)) t1 fun t3 =>
 loadE 1 H1 t3 fun t4 =>
 tellE (zeo m (ro H1 t4)) [(ro H1 t4)] fun t5 =>
 condE t5 (
  z02 (some (1,1)) t1 fun t7 =>
  loadE 1 H1 t7 fun t8 =>
  z02 (some (2,1)) t1 fun t9 =>
  loadE 1 H1 t9 fun t10 =>
  z02 (some (3,1)) t1 fun t11 =>
  loadE 1 H1 t11 fun t12 =>
  z1g (some (z7o,1)) 3 [(0,t8),(1,t10),(2,t12)] fun t13 =>
  tellE (zaM m (ro H1 t13)) [(ro H1 t13)] fun t14 =>
  condE t14 (
  z02 (some (4,1)) t1 fun t17 =>
  loadE 1 H1 t17 fun t18 =>
  tellE (z9a m (ro H1 t18) (ro H1 (V (.func (.func 82) #[] #[])))) [(ro H1 t18),(ro H1 (V (.func (.func 82) #[] #[])))] fun t19 =>
  condE t19 (
  z02 (some (5,1)) t1 fun t22 =>
  loadE 1 H1 t22 fun t23 =>
  tellE (zaI m (ro H1 t23) (ro H1 (V (.func (.func 84) #[] #[])))) [(ro H1 t23),(ro H1 (V (.func (.func 84) #[] #[])))] fun t24 =>
  tellK H1 (ro H1 t24)) (
  tellK H1 (ro H1 (V (.bool false))))) (
  tellK H1 (ro H1 (V (.bool false))))) (
  tellK H1 (ro H1 (V (.bool false)))) := by
 refine (tellX _ _ _ _ _ _ _ _ _).trans ?_
 kernel_rfl
noncomputable def zep (m : Nat) : List AV → RO|[t0]=>zf7 m t0|_=>none
theorem zlj (m : Nat) : ∀ args X H',zep m args = some (X,H') → ACp Try.prog GG 60 args X := by
 intro args X H' h
 unfold zep at h
 split at h
 ·exact z0G MIX (by
  intro f e h
  simp only [zfN,Prod.mk.injEq,List.mem_cons,List.not_mem_nil,or_false] at h
  rcases h with ⟨rfl,rfl⟩|⟨rfl,rfl⟩|⟨rfl,rfl⟩|⟨rfl,rfl⟩
  ·exact zii m
  ·exact zd3 m
  ·exact zdy m
  ·exact ziP m) (f := 60) (c := zia) Try.func60 rfl (by kernel_rfl) _ rfl Try.ntmps60 (Nat.le_of_ble_eq_true rfl) zij h
 ·cases h
end Go.Proofs.Ytaaogcnjfkgnoaa

namespace Go.Proofs.Ytaaogcnjfkgnoaa
open Go.RowKit
def z2P : TypeId := 5
def z0s : TypeId := 124
def zgw : List AV := [(V (.slice none 0 0))]
def zgr : List (Nat × Nat) := [(0,1)]
noncomputable def z6X : Code := (Try.f85.body).getD .skip
def z6S : Hint := (.two .n (.one (.lp [] [0,6,7,8] [] (.two .n (.two (.two .n .n) (.two (.one (.two .n .n)) .n))))))
noncomputable def z5v (m : Nat) : Env := [(95, .add (z6q m))]
noncomputable abbrev zaS (n0 : Nat) : KO (AV × List AObj) := z7z Try.prog n0 []
noncomputable def zbw (m : Nat) (s : ASt) (kc : ASt → RO) (kx : KO (AV × List AObj)) : RO := bodyW Try.prog GG (z5v m) m ⟨24,[]⟩ (cdL (cdL (cdR z6X))) z6S.r.c.c [0,6,7,8] [] s kc kx
noncomputable def z2y (m : Nat) (t0 t1 : AV) (H : List AObj) : RO := exec Try.prog GG (z5v m) m ⟨24,[]⟩ z6X z6S ⟨H,argsT 0 [t0,t1]⟩ (zaS H.length)
theorem zej (m : Nat) (H : List AObj) (t0 t6 t7 t8 : AV) (kc : ASt → RO) (kx : KO (AV × List AObj)) : zbw m ⟨H,[(0,t0),(6,t6),(7,t7),(8,t8)]⟩ kc kx =
 binE none false false .lss t8 t7 fun t9 =>
 condE t9 (
  idxSE 1 H t6 t8 fun t10 =>
  loadE 1 H t10 fun t11 =>
  nilE t0 fun t14 =>
  z02 (some (0,1)) t14 fun t15 =>
  loadE 1 H t15 fun t16 =>
  convE false (some .u64) true false false (ro H t11) fun t18 =>
  addE (z6q m [(ro H t18)] H.length) H fun t19 H2 =>
  appE (some (z2P,1)) H2 t16 t19 fun t20 H3 =>
  nilE t0 fun t21 =>
  z02 (some (0,1)) t21 fun t22 =>
  z1p 1 H3 t22 t20 fun H4 =>
  binE none false false .add t8 (V (.int .i64 1)) fun t23 =>
  backE H.length H4 [(0,t0),(6,t6),(7,t7),(8,t23)] kc) (
  kx (.exit 0) ⟨H,[]⟩) := by
 refine (z2r _ _ _ _ _ _ _ _ _ _ _ _).trans ?_
 kernel_rfl
theorem zgE (m : Nat) (t0 t1 : AV) (H : List AObj) : z2y m t0 t1 H =
 lenE false true H t1 fun t7 =>
 iterC m (zbw m) ⟨H,[(0,t0),(6,t1),(7,t7),(8,(V (.int .i64 0)))]⟩ (z41 0 (zaS H.length)) := by
 refine (keepX Try.prog GG (z5v m) m ⟨24,[]⟩ H.length z6X z6S ⟨H,argsT 0 [t0,t1]⟩ []).trans ?_
 kernel_rfl
noncomputable def z2t (m : Nat) : List AV → List AObj → RO|[t0,t1],H=>z2y m t0 t1 H|_,_=>none
theorem z3t (m : Nat) : ∀ args H X H',z2t m args H = some (X,H') → AC Try.prog GG 85 args H (Is X H') := by
 intro args H X H' h
 unfold z2t at h
 split at h
 ·exact z2K MIX (by
  intro f e h
  simp only [z5v,Prod.mk.injEq,List.mem_cons,List.not_mem_nil,or_false] at h
  obtain ⟨rfl,rfl⟩ := h
  ·exact zmH m) (f := 85) (c := z6X) Try.func85 rfl (by kernel_rfl) _ rfl Try.ntmps85 (Nat.le_of_ble_eq_true rfl) z6S h
 ·cases h
noncomputable def z9r : Code := (Try.f96.body).getD .skip
def z9y : Hint := (.two .n .n)
noncomputable def z7W (m : Nat) : Env := [(85, .keep (z2t m))]
noncomputable abbrev zfU (n0 : Nat) : KO (AV × List AObj) := z7z Try.prog n0 []
noncomputable def z8z (m : Nat) (t0 t1 : AV) (H : List AObj) : RO := exec Try.prog GG (z7W m) m ⟨18,[]⟩ z9r z9y ⟨H,argsT 0 [t0,t1]⟩ (zfU H.length)
theorem zgG (m : Nat) (t0 t1 : AV) (H : List AObj) : z8z m t0 t1 H =
 lenE true false H t1 fun t6 =>
 z1g (some (z7o,1)) 1 [(0,t6)] fun t7 =>
 keepE (z2y m (ro H t0) (ro H t7) H) fun t8 H2 =>
 nilE t0 fun t11 =>
 z02 (some (0,1)) t11 fun t12 =>
 loadE 1 H2 t12 fun t13 =>
 appSE (some (z2P,1)) H2 t13 t1 fun t15 H3 =>
 nilE t0 fun t16 =>
 z02 (some (0,1)) t16 fun t17 =>
 z1p 1 H3 t17 t15 fun H4 =>
 keepK H.length H4 (ro H4 (TU [])) := by
 refine (keepX Try.prog GG (z7W m) m ⟨18,[]⟩ H.length z9r z9y ⟨H,argsT 0 [t0,t1]⟩ []).trans ?_
 kernel_rfl
noncomputable def z9O (m : Nat) : List AV → List AObj → RO|[t0,t1],H=>z8z m t0 t1 H|_,_=>none
theorem zgR (m : Nat) : ∀ args H X H',z9O m args H = some (X,H') → AC Try.prog GG 96 args H (Is X H') := by
 intro args H X H' h
 unfold z9O at h
 split at h
 ·exact z2K MIX (by
  intro f e h
  simp only [z7W,Prod.mk.injEq,List.mem_cons,List.not_mem_nil,or_false] at h
  obtain ⟨rfl,rfl⟩ := h
  ·exact z3t m) (f := 96) (c := z9r) Try.func96 rfl (by kernel_rfl) _ rfl Try.ntmps96 (Nat.le_of_ble_eq_true rfl) z9y h
 ·cases h
noncomputable def z9E : Code := (Try.f87.body).getD .skip
def z9q : Hint := (.two .n .n)
noncomputable def z7R (m : Nat) : Env := [(85, .keep (z2t m))]
noncomputable abbrev zfT (n0 : Nat) : KO (AV × List AObj) := z7z Try.prog n0 []
noncomputable def z8x (m : Nat) (t0 t1 : AV) (H : List AObj) : RO := exec Try.prog GG (z7R m) m ⟨17,[]⟩ z9E z9q ⟨H,argsT 0 [t0,t1]⟩ (zfT H.length)
theorem zgC (m : Nat) (t0 t1 : AV) (H : List AObj) : z8x m t0 t1 H =
 boxE z01 H t1 fun t3 H2 =>
 z02 (some (0,1)) t3 fun t5 =>
 loadE 1 H2 t5 fun t6 =>
 z02 (some (1,1)) t3 fun t7 =>
 loadE 1 H2 t7 fun t8 =>
 z02 (some (2,1)) t3 fun t9 =>
 loadE 1 H2 t9 fun t10 =>
 z02 (some (3,1)) t3 fun t11 =>
 loadE 1 H2 t11 fun t12 =>
 z02 (some (4,1)) t3 fun t13 =>
 loadE 1 H2 t13 fun t14 =>
 z1g (some (z7o,1)) 5 [(0,t6),(1,t8),(2,t10),(3,t12),(4,t14)] fun t15 =>
 keepE (z2y m (ro H2 t0) (ro H2 t15) H2) fun t16 H3 =>
 keepK H.length H3 (ro H3 (TU [])) := by
 refine (keepX Try.prog GG (z7R m) m ⟨17,[]⟩ H.length z9E z9q ⟨H,argsT 0 [t0,t1]⟩ []).trans ?_
 kernel_rfl
noncomputable def z59 (m : Nat) : List AV → List AObj → RO|[t0,t1],H=>z8x m t0 t1 H|_,_=>none
theorem zgm (m : Nat) : ∀ args H X H',z59 m args H = some (X,H') → AC Try.prog GG 87 args H (Is X H') := by
 intro args H X H' h
 unfold z59 at h
 split at h
 ·exact z2K MIX (by
  intro f e h
  simp only [z7R,Prod.mk.injEq,List.mem_cons,List.not_mem_nil,or_false] at h
  obtain ⟨rfl,rfl⟩ := h
  ·exact z3t m) (f := 87) (c := z9E) Try.func87 rfl (by kernel_rfl) _ rfl Try.ntmps87 (Nat.le_of_ble_eq_true rfl) z9q h
 ·cases h
noncomputable def z90 : Code := (Try.f86.body).getD .skip
def z8P : Hint := (.two .n (.two .n (.one (.lp [] [2,13,14,15] [] (.two .n (.two (.two .n .n) (.two (.one (.two .n .n)) .n)))))))
noncomputable def z4e (m : Nat) : Env := [(85, .keep (z2t m)),(87, .keep (z59 m))]
noncomputable abbrev zcz (n0 : Nat) : KO (AV × List AObj) := z7z Try.prog n0 []
noncomputable def zdB (m : Nat) (s : ASt) (kc : ASt → RO) (kx : KO (AV × List AObj)) : RO := bodyW Try.prog GG (z4e m) m ⟨23,[]⟩ (cdL (cdL (cdR (cdR z90)))) z8P.r.r.c.c [2,13,14,15] [] s kc kx
noncomputable def z8O (m : Nat) (t0 t1 t2 : AV) (H : List AObj) : RO := exec Try.prog GG (z4e m) m ⟨23,[]⟩ z90 z8P ⟨H,argsT 0 [t0,t1,t2]⟩ (zcz H.length)
theorem zg1 (m : Nat) (H : List AObj) (t2 t13 t14 t15 : AV) (kc : ASt → RO) (kx : KO (AV × List AObj)) : zdB m ⟨H,[(2,t2),(13,t13),(14,t14),(15,t15)]⟩ kc kx =
 binE none false false .lss t15 t14 fun t16 =>
 condE t16 (
  idxSE 7 H t13 t15 fun t17 =>
  loadE 7 H t17 fun t18 =>
  z5a (some z09) z01 H fun t7 H2 =>
  z1p 7 H2 t7 t18 fun H3 =>
  loadE 7 H3 t7 fun t20 =>
  zeD (z4e m) t2 [t20] H3 fun t21 H4 =>
  binE none false false .add t15 (V (.int .i64 1)) fun t22 =>
  backE H.length H4 [(2,t2),(13,t13),(14,t14),(15,t22)] kc) (
  kx (.exit 0) ⟨H,[]⟩) := by
 refine (z2r _ _ _ _ _ _ _ _ _ _ _ _).trans ?_
 kernel_rfl
theorem ziu (m : Nat) (t0 t1 t2 : AV) (H : List AObj) : z8O m t0 t1 t2 H =
 lenE false true H t1 fun t10 =>
 z1g (some (z7o,1)) 1 [(0,t10)] fun t11 =>
 keepE (z2y m (ro H t0) (ro H t11) H) fun t12 H2 =>
 lenE false true H2 t1 fun t14 =>
 iterC m (zdB m) ⟨H2,[(2,t2),(13,t1),(14,t14),(15,(V (.int .i64 0)))]⟩ (z41 0 (zcz H.length)) := by
 refine (keepX Try.prog GG (z4e m) m ⟨23,[]⟩ H.length z90 z8P ⟨H,argsT 0 [t0,t1,t2]⟩ []).trans ?_
 kernel_rfl
noncomputable def z93 (m : Nat) : List AV → List AObj → RO|[t0,t1,t2],H=>z8O m t0 t1 t2 H|_,_=>none
theorem zdN (m : Nat) : ∀ args H X H',z93 m args H = some (X,H') → AC Try.prog GG 86 args H (Is X H') := by
 intro args H X H' h
 unfold z93 at h
 split at h
 ·exact z2K MIX (by
  intro f e h
  simp only [z4e,Prod.mk.injEq,List.mem_cons,List.not_mem_nil,or_false] at h
  rcases h with ⟨rfl,rfl⟩|⟨rfl,rfl⟩
  ·exact z3t m
  ·exact zgm m) (f := 86) (c := z90) Try.func86 rfl (by kernel_rfl) _ rfl Try.ntmps86 (Nat.le_of_ble_eq_true rfl) z8P h
 ·cases h
noncomputable def z9L : Code := (Try.f89.body).getD .skip
def z9t : Hint := (.two .n (.two .n (.two .n .n)))
noncomputable def z7U (m : Nat) : Env := [(85, .keep (z2t m)),(96, .keep (z9O m)),(86, .keep (z93 m))]
noncomputable abbrev zgi (n0 : Nat) : KO (AV × List AObj) := z7z Try.prog n0 []
noncomputable def z8G (m : Nat) (t0 t1 : AV) (H : List AObj) : RO := exec Try.prog GG (z7U m) m ⟨23,[]⟩ z9L z9t ⟨H,argsT 0 [t0,t1]⟩ (zgi H.length)
theorem zgs (m : Nat) (t0 t1 : AV) (H : List AObj) : z8G m t0 t1 H =
 boxE z0b H t1 fun t3 H2 =>
 z02 (some (0,1)) t3 fun t5 =>
 loadE 1 H2 t5 fun t6 =>
 z02 (some (1,1)) t3 fun t7 =>
 loadE 1 H2 t7 fun t8 =>
 z02 (some (2,1)) t3 fun t9 =>
 loadE 1 H2 t9 fun t10 =>
 z1g (some (z7o,1)) 3 [(0,t6),(1,t8),(2,t10)] fun t11 =>
 keepE (z2y m (ro H2 t0) (ro H2 t11) H2) fun t12 H3 =>
 z02 (some (3,1)) t3 fun t14 =>
 loadE 1 H3 t14 fun t15 =>
 keepE (z8z m (ro H3 t0) (ro H3 t15) H3) fun t16 H4 =>
 z02 (some (4,1)) t3 fun t18 =>
 loadE 1 H4 t18 fun t19 =>
 whenE (([t0] : List AV).all cap0) (
 keepE (z8O m (ro H4 t0) (ro H4 t19) (ro H4 (CL (.func 87) 1 [t0])) H4) fun t22 H5 =>
 keepK H.length H5 (ro H5 (TU []))) := by
 refine (keepX Try.prog GG (z7U m) m ⟨23,[]⟩ H.length z9L z9t ⟨H,argsT 0 [t0,t1]⟩ []).trans ?_
 kernel_rfl
noncomputable def z57 (m : Nat) : List AV → List AObj → RO|[t0,t1],H=>z8G m t0 t1 H|_,_=>none
theorem zgD (m : Nat) : ∀ args H X H',z57 m args H = some (X,H') → AC Try.prog GG 89 args H (Is X H') := by
 intro args H X H' h
 unfold z57 at h
 split at h
 ·exact z2K MIX (by
  intro f e h
  simp only [z7U,Prod.mk.injEq,List.mem_cons,List.not_mem_nil,or_false] at h
  rcases h with ⟨rfl,rfl⟩|⟨rfl,rfl⟩|⟨rfl,rfl⟩
  ·exact z3t m
  ·exact zgR m
  ·exact zdN m) (f := 89) (c := z9L) Try.func89 rfl (by kernel_rfl) _ rfl Try.ntmps89 (Nat.le_of_ble_eq_true rfl) z9t h
 ·cases h
noncomputable def z8u : Code := (Try.f88.body).getD .skip
def z8r : Hint := (.two .n (.two .n (.one (.lp [] [2,13,14,15] [] (.two .n (.two (.two .n .n) (.two (.one (.two .n .n)) .n)))))))
noncomputable def z4d (m : Nat) : Env := [(85, .keep (z2t m)),(89, .keep (z57 m))]
noncomputable abbrev zcD (n0 : Nat) : KO (AV × List AObj) := z7z Try.prog n0 []
noncomputable def zdR (m : Nat) (s : ASt) (kc : ASt → RO) (kx : KO (AV × List AObj)) : RO := bodyW Try.prog GG (z4d m) m ⟨23,[]⟩ (cdL (cdL (cdR (cdR z8u)))) z8r.r.r.c.c [2,13,14,15] [] s kc kx
noncomputable def zaH (m : Nat) (t0 t1 t2 : AV) (H : List AObj) : RO := exec Try.prog GG (z4d m) m ⟨23,[]⟩ z8u z8r ⟨H,argsT 0 [t0,t1,t2]⟩ (zcD H.length)
theorem zfP (m : Nat) (H : List AObj) (t2 t13 t14 t15 : AV) (kc : ASt → RO) (kx : KO (AV × List AObj)) : zdR m ⟨H,[(2,t2),(13,t13),(14,t14),(15,t15)]⟩ kc kx =
 binE none false false .lss t15 t14 fun t16 =>
 condE t16 (
  idxSE 7 H t13 t15 fun t17 =>
  loadE 7 H t17 fun t18 =>
  z5a (some z0U) z0b H fun t7 H2 =>
  z1p 7 H2 t7 t18 fun H3 =>
  loadE 7 H3 t7 fun t20 =>
  zeD (z4d m) t2 [t20] H3 fun t21 H4 =>
  binE none false false .add t15 (V (.int .i64 1)) fun t22 =>
  backE H.length H4 [(2,t2),(13,t13),(14,t14),(15,t22)] kc) (
  kx (.exit 0) ⟨H,[]⟩) := by
 refine (z2r _ _ _ _ _ _ _ _ _ _ _ _).trans ?_
 kernel_rfl
theorem ziG (m : Nat) (t0 t1 t2 : AV) (H : List AObj) : zaH m t0 t1 t2 H =
 lenE false true H t1 fun t10 =>
 z1g (some (z7o,1)) 1 [(0,t10)] fun t11 =>
 keepE (z2y m (ro H t0) (ro H t11) H) fun t12 H2 =>
 lenE false true H2 t1 fun t14 =>
 iterC m (zdR m) ⟨H2,[(2,t2),(13,t1),(14,t14),(15,(V (.int .i64 0)))]⟩ (z41 0 (zcD H.length)) := by
 refine (keepX Try.prog GG (z4d m) m ⟨23,[]⟩ H.length z8u z8r ⟨H,argsT 0 [t0,t1,t2]⟩ []).trans ?_
 kernel_rfl
noncomputable def zb9 (m : Nat) : List AV → List AObj → RO|[t0,t1,t2],H=>zaH m t0 t1 t2 H|_,_=>none
theorem ziF (m : Nat) : ∀ args H X H',zb9 m args H = some (X,H') → AC Try.prog GG 88 args H (Is X H') := by
 intro args H X H' h
 unfold zb9 at h
 split at h
 ·exact z2K MIX (by
  intro f e h
  simp only [z4d,Prod.mk.injEq,List.mem_cons,List.not_mem_nil,or_false] at h
  rcases h with ⟨rfl,rfl⟩|⟨rfl,rfl⟩
  ·exact z3t m
  ·exact zgD m) (f := 88) (c := z8u) Try.func88 rfl (by kernel_rfl) _ rfl Try.ntmps88 (Nat.le_of_ble_eq_true rfl) z8r h
 ·cases h
noncomputable def z85 : Code := (Try.f61.body).getD .skip
def z82 : Hint := (.two .n (.two .n (.two .n .n)))
noncomputable def z6r (m : Nat) : Env := [(85, .keep (z2t m)),(86, .keep (z93 m)),(88, .keep (zb9 m))]
noncomputable abbrev zeO (n0 : Nat) : KO (AV × List AObj) := z7z Try.prog n0 []
noncomputable def z6v (m : Nat) (t0 t1 : AV) (H : List AObj) : RO := exec Try.prog GG (z6r m) m ⟨27,[]⟩ z85 z82 ⟨H,argsT 0 [t0,t1]⟩ (zeO H.length)
theorem zfu (m : Nat) (t0 t1 : AV) (H : List AObj) : z6v m t0 t1 H =
 boxE z00 H t1 fun t3 H2 =>
 z02 (some (0,1)) t3 fun t5 =>
 loadE 1 H2 t5 fun t6 =>
 z02 (some (1,1)) t3 fun t7 =>
 loadE 1 H2 t7 fun t8 =>
 z02 (some (2,1)) t3 fun t9 =>
 loadE 1 H2 t9 fun t10 =>
 z02 (some (3,1)) t3 fun t11 =>
 loadE 1 H2 t11 fun t12 =>
 z1g (some (z7o,1)) 4 [(0,t6),(1,t8),(2,t10),(3,t12)] fun t13 =>
 keepE (z2y m (ro H2 t0) (ro H2 t13) H2) fun t14 H3 =>
 z02 (some (4,1)) t3 fun t16 =>
 loadE 1 H3 t16 fun t17 =>
 whenE (([t0] : List AV).all cap0) (
 keepE (z8O m (ro H3 t0) (ro H3 t17) (ro H3 (CL (.func 87) 1 [t0])) H3) fun t20 H4 =>
 z02 (some (5,1)) t3 fun t22 =>
 loadE 1 H4 t22 fun t23 =>
 whenE (([t0] : List AV).all cap0) (
 keepE (zaH m (ro H4 t0) (ro H4 t23) (ro H4 (CL (.func 89) 1 [t0])) H4) fun t26 H5 =>
 keepK H.length H5 (ro H5 (TU [])))) := by
 refine (keepX Try.prog GG (z6r m) m ⟨27,[]⟩ H.length z85 z82 ⟨H,argsT 0 [t0,t1]⟩ []).trans ?_
 kernel_rfl
noncomputable def z80 (m : Nat) : List AV → List AObj → RO|[t0,t1],H=>z6v m t0 t1 H|_,_=>none
theorem zfn (m : Nat) : ∀ args H X H',z80 m args H = some (X,H') → AC Try.prog GG 61 args H (Is X H') := by
 intro args H X H' h
 unfold z80 at h
 split at h
 ·exact z2K MIX (by
  intro f e h
  simp only [z6r,Prod.mk.injEq,List.mem_cons,List.not_mem_nil,or_false] at h
  rcases h with ⟨rfl,rfl⟩|⟨rfl,rfl⟩|⟨rfl,rfl⟩
  ·exact z3t m
  ·exact zdN m
  ·exact ziF m) (f := 61) (c := z85) Try.func61 rfl (by kernel_rfl) _ rfl Try.ntmps61 (Nat.le_of_ble_eq_true rfl) z82 h
 ·cases h
noncomputable def z94 : Code := (Try.f33.body).getD .skip
def z8p : Hint := (.two .n (.two (.two .n (.two (.two .n .n) .n)) (.gh (3,0,z2P,1) [1,3] .n (.two .n (.two .n .n)))))
noncomputable def z7w (m : Nat) : Env := [(60, .tell (zep m)),(61, .keep (z80 m))]
noncomputable abbrev zaq : KO (AV × List AObj) := z3Y Try.prog [.tmp 2]
noncomputable def zaT (m : Nat) (s : ASt) : RO := joinW Try.prog GG (z7w m) m ⟨16,[]⟩ (cdR (cdR (cdR z94))) z8p.r.r.r s (zaq)
noncomputable def z5A (m : Nat) (t0 : AV) : RO := exec Try.prog GG (z7w m) m ⟨16,[]⟩ z94 z8p ⟨[],argsT 0 [t0]⟩ (zaq)
theorem ze6 (m : Nat) (H : List AObj) (t1 t3 : AV) : zaT m ⟨H,[(1,t1),(3,t3)]⟩ =
 loadE 8 H t1 fun t10 =>
 keepE (z6v m (ro H t3) (ro H t10) H) fun t11 H2 =>
 nilE t3 fun t13 =>
 z02 (some (0,1)) t13 fun t14 =>
 loadE 1 H2 t14 fun t15 =>
 tellK H2 (ro H2 t15) := by
 refine (z04 _ _ _ _ _ _ _ _ _).trans ?_
 kernel_rfl
theorem zg6 (m : Nat) (t0 : AV) : z5A m t0 =
 boxE z00 [] t0 fun t1 H1 =>
 loadE 8 H1 t1 fun t4 =>
 tellE (zf7 m (ro H1 t4)) [(ro H1 t4)] fun t5 =>
 unE .not t5 fun t6 =>
 condE t6 (
  tellK H1 (ro H1 (V (.slice none 0 0)))) (
  z4r (some zgr) (some zgw) [] fun t7 =>
  boxE z0s H1 t7 fun t8 H2 =>
  zaT m (ghS 3 0 z2P 1 ⟨H2,[(1,t1),(3,t8)]⟩)) := by
 refine (tellX _ _ _ _ _ _ _ _ _).trans ?_
 kernel_rfl
noncomputable def z4I (m : Nat) : List AV → RO|[t0]=>z5A m t0|_=>none
theorem z7Z (m : Nat) : ∀ args X H',z4I m args = some (X,H') → ACp Try.prog GG 33 args X := by
 intro args X H' h
 unfold z4I at h
 split at h
 ·exact z0G MIX (by
  intro f e h
  simp only [z7w,Prod.mk.injEq,List.mem_cons,List.not_mem_nil,or_false] at h
  rcases h with ⟨rfl,rfl⟩|⟨rfl,rfl⟩
  ·exact zlj m
  ·exact zfn m) (f := 33) (c := z94) Try.func33 rfl (by kernel_rfl) _ rfl Try.ntmps33 (Nat.le_of_ble_eq_true rfl) z8p h
 ·cases h
end Go.Proofs.Ytaaogcnjfkgnoaa

namespace Go.Proofs.Ytaaogcnjfkgnoaa
open Go.RowKit
def zpQ : TypeId := 65
def z0u : List AV := [(V (.int .i64 0)),(V (.int .i64 0)),(V (.int .i64 0)),(V (.int .i64 0)),(V (.slice none 0 0)),(V (.slice none 0 0))]
def z4k : List AV := [(V (.int .i64 0)),(V (.int .i64 0)),(V (.int .i64 0)),(V (.int .i64 0)),(V (.int .i64 0)),(V (.string ⟨#[]⟩)),(V (.slice none 0 0)),(V (.slice none 0 0))]
noncomputable def zeQ : Code := (Try.f69.body).getD .skip
def zeC : Hint := (.two .n (.two .n .n))
noncomputable def zhr (m : Nat) : Env := []
noncomputable abbrev zhY : KO (AV × List AObj) := z3Y Try.prog [.tmp 4]
noncomputable def z6I (m : Nat) (t0 t1 : AV) : RO := exec Try.prog GG (zhr m) m ⟨12,[]⟩ zeQ zeC ⟨[],argsT 0 [t0,t1]⟩ (zhY)
theorem zdA (m : Nat) (t0 t1 : AV) : z6I m t0 t1 =
 binE none false false .leq (V (.int .i64 0)) t0 fun t6 =>
 condE t6 (
  binE none false false .leq t0 t1 fun t10 =>
  tellK [] (ro [] t10)) (
  tellK [] (ro [] (V (.bool false)))) := by
 refine (tellX _ _ _ _ _ _ _ _ _).trans ?_
 kernel_rfl
noncomputable def z6p (m : Nat) : List AV → RO|[t0,t1]=>z6I m t0 t1|_=>none
theorem zah (m : Nat) : ∀ args X H',z6p m args = some (X,H') → ACp Try.prog GG 69 args X := by
 intro args X H' h
 unfold z6p at h
 split at h
 ·exact z0G MIX (by intro f e h;cases h) (f := 69) (c := zeQ) Try.func69 rfl (by kernel_rfl) _ rfl Try.ntmps69 (Nat.le_of_ble_eq_true rfl) zeC h
 ·cases h
noncomputable def zdV : Code := (Try.f70.body).getD .skip
def zdH : Hint := (.two .n (.two .n .n))
noncomputable def zbs (m : Nat) : Env := [(69, .tell (z6p m))]
noncomputable abbrev zh8 : KO (AV × List AObj) := z3Y Try.prog [.tmp 2]
noncomputable def z1n (m : Nat) (t0 : AV) : RO := exec Try.prog GG (zbs m) m ⟨5,[]⟩ zdV zdH ⟨[],argsT 0 [t0]⟩ (zh8)
theorem zhs (m : Nat) (t0 : AV) : z1n m t0 =
 tellE (z6I m (ro [] t0) (V (.int .i64 2147483647))) [(ro [] t0),(V (.int .i64 2147483647))] fun t4 =>
 tellK [] (ro [] t4) := by
 refine (tellX _ _ _ _ _ _ _ _ _).trans ?_
 kernel_rfl
noncomputable def z7H (m : Nat) : List AV → RO|[t0]=>z1n m t0|_=>none
theorem zcg (m : Nat) : ∀ args X H',z7H m args = some (X,H') → ACp Try.prog GG 70 args X := by
 intro args X H' h
 unfold z7H at h
 split at h
 ·exact z0G MIX (by
  intro f e h
  simp only [zbs,Prod.mk.injEq,List.mem_cons,List.not_mem_nil,or_false] at h
  obtain ⟨rfl,rfl⟩ := h
  ·exact zah m) (f := 70) (c := zdV) Try.func70 rfl (by kernel_rfl) _ rfl Try.ntmps70 (Nat.le_of_ble_eq_true rfl) zdH h
 ·cases h
noncomputable def z3d : Code := (Try.f71.body).getD .skip
def z3G : Hint := (.two .n (.join [0] (.two .n (.one (.lp [] [0,3] [0,2] (.two (.two .n (.two .n .n)) (.join [0,3] (.one (.join [0,3,52] .n (.two (.two .n .n) .n))) .n))))) (.two .n .n)))
noncomputable def z2F (m : Nat) : Env := [(69, .tell (z6p m)),(70, .tell (z7H m))]
noncomputable abbrev z7s : KO (AV × List AObj) := z3Y Try.prog [.tmp 2]
noncomputable def z7T (m : Nat) (n0 : Nat) (kc : ASt → RO) (kx : KO (AV × List AObj)) (s : ASt) : RO := joinW Try.prog GG (z2F m) m ⟨56,[]⟩ (cdR (cdR (cdL (cdL (cdR (cdL (cdR z3d))))))) z3G.r.l.r.c.c.r.r s (backW n0 [0,3] [0,2] kc kx)
noncomputable def z2Q (m : Nat) (n0 : Nat) (kc : ASt → RO) (kx : KO (AV × List AObj)) (s : ASt) : RO := joinW Try.prog GG (z2F m) m ⟨56,[]⟩ (cdR (cdL (cdL (cdR (cdL (cdL (cdR (cdL (cdR z3d))))))))) z3G.r.l.r.c.c.r.l.c.r s (z41 1 (seqX (fun s=>z7T m n0 kc kx ⟨s.H,[(0,gt s.T 0),(3,gt s.T 3)]⟩) (backW n0 [0,3] [0,2] kc kx)))
noncomputable def zbe (m : Nat) (s : ASt) : RO := joinW Try.prog GG (z2F m) m ⟨56,[]⟩ (cdR (cdR z3d)) z3G.r.r s (z7s)
noncomputable def zbd (m : Nat) (s : ASt) (kc : ASt → RO) (kx : KO (AV × List AObj)) : RO := bodyW Try.prog GG (z2F m) m ⟨56,[]⟩ (cdL (cdL (cdR (cdL (cdR z3d))))) z3G.r.l.r.c.c [0,3] [0,2] s kc kx
noncomputable def z5B (m : Nat) (t0 : AV) : RO := exec Try.prog GG (z2F m) m ⟨56,[]⟩ z3d z3G ⟨[],argsT 0 [t0]⟩ (z7s)
theorem z1s (m : Nat) (n0 : Nat) (kc : ASt → RO) (kx : KO (AV × List AObj)) (H : List AObj) (t0 t3 : AV) : z7T m n0 kc kx ⟨H,[(0,t0),(3,t3)]⟩ =
 binE none false false .add t3 (V (.int .i64 1)) fun t9 =>
 backE n0 H [(0,t0),(3,t9)] kc := by
 refine (z04 _ _ _ _ _ _ _ _ _).trans ?_
 kernel_rfl
theorem z1q (m : Nat) (n0 : Nat) (kc : ASt → RO) (kx : KO (AV × List AObj)) (H : List AObj) (t0 t3 t52 : AV) : z2Q m n0 kc kx ⟨H,[(0,t0),(3,t3),(52,t52)]⟩ =
 condE t52 (
  kx .ret ⟨H,[(0,t0),(2,(V (.bool false)))]⟩) (
  z7T m n0 kc kx ⟨H,[(0,t0),(3,t3)]⟩) := by
 refine (z04 _ _ _ _ _ _ _ _ _).trans ?_
 kernel_rfl
theorem z1r (m : Nat) (H : List AObj) (t0 : AV) : zbe m ⟨H,[(0,t0)]⟩ =
 lenE false true H t0 fun t54 =>
 binE none false false .leq t54 (V (.int .i64 64)) fun t55 =>
 tellK H (ro H t55) := by
 refine (z04 _ _ _ _ _ _ _ _ _).trans ?_
 kernel_rfl
theorem zdZ (m : Nat) (H : List AObj) (t0 t3 : AV) (kc : ASt → RO) (kx : KO (AV × List AObj)) : zbd m ⟨H,[(0,t0),(3,t3)]⟩ kc kx =
 lenE false true H t0 fun t6 =>
 binE none false false .lss t3 t6 fun t7 =>
 condE t7 (
  idxSE 7 H t0 t3 fun t12 =>
  z02 (some (0,1)) t12 fun t13 =>
  loadE 1 H t13 fun t14 =>
  tellE (z6I m (ro H t14) (V (.int .i64 63))) [(ro H t14),(V (.int .i64 63))] fun t15 =>
  unE .not t15 fun t16 =>
  condE t16 (
   z2Q m H.length kc kx ⟨H,[(0,t0),(3,t3),(52,(V (.bool true)))]⟩) (
   idxSE 7 H t0 t3 fun t20 =>
   z02 (some (1,1)) t20 fun t21 =>
   loadE 1 H t21 fun t22 =>
   tellE (z1n m (ro H t22)) [(ro H t22)] fun t23 =>
   unE .not t23 fun t24 =>
   condE t24 (
   z2Q m H.length kc kx ⟨H,[(0,t0),(3,t3),(52,(V (.bool true)))]⟩) (
   idxSE 7 H t0 t3 fun t29 =>
   z02 (some (2,1)) t29 fun t30 =>
   loadE 1 H t30 fun t31 =>
   tellE (z1n m (ro H t31)) [(ro H t31)] fun t32 =>
   unE .not t32 fun t33 =>
   condE t33 (
   z2Q m H.length kc kx ⟨H,[(0,t0),(3,t3),(52,(V (.bool true)))]⟩) (
   idxSE 7 H t0 t3 fun t38 =>
   z02 (some (3,1)) t38 fun t39 =>
   loadE 1 H t39 fun t40 =>
   tellE (z1n m (ro H t40)) [(ro H t40)] fun t41 =>
   unE .not t41 fun t42 =>
   condE t42 (
   z2Q m H.length kc kx ⟨H,[(0,t0),(3,t3),(52,(V (.bool true)))]⟩) (
   idxSE 7 H t0 t3 fun t47 =>
   z02 (some (4,1)) t47 fun t48 =>
   loadE 1 H t48 fun t49 =>
   tellE (z1n m (ro H t49)) [(ro H t49)] fun t50 =>
   unE .not t50 fun t51 =>
   z2Q m H.length kc kx ⟨H,[(0,t0),(3,t3),(52,t51)]⟩))))) (
  kx (.exit 0) ⟨H,[(0,t0),(2, .nil)]⟩) := by
 refine (z2r _ _ _ _ _ _ _ _ _ _ _ _).trans ?_
 kernel_rfl
theorem zg5 (m : Nat) (t0 : AV) : z5B m t0 =
 iterC m (zbd m) ⟨[],[(0,t0),(3,(V (.int .i64 0)))]⟩ (z41 0 (seqX (fun s=>zbe m ⟨s.H,[(0,gt s.T 0)]⟩) (z7s))) := by
 refine (tellX _ _ _ _ _ _ _ _ _).trans ?_
 kernel_rfl
noncomputable def z99 (m : Nat) : List AV → RO|[t0]=>z5B m t0|_=>none
theorem zgf (m : Nat) : ∀ args X H',z99 m args = some (X,H') → ACp Try.prog GG 71 args X := by
 intro args X H' h
 unfold z99 at h
 split at h
 ·exact z0G MIX (by
  intro f e h
  simp only [z2F,Prod.mk.injEq,List.mem_cons,List.not_mem_nil,or_false] at h
  rcases h with ⟨rfl,rfl⟩|⟨rfl,rfl⟩
  ·exact zah m
  ·exact zcg m) (f := 71) (c := z3d) Try.func71 rfl (by kernel_rfl) _ rfl Try.ntmps71 (Nat.le_of_ble_eq_true rfl) z3G h
 ·cases h
noncomputable def z1w : Code := (Try.f47.body).getD .skip
def z1x : Hint := (.two .n (.join [1] (.join [1,38] .n (.two (.two .n .n) .n)) (.join [] (.two .n (.one (.lp [] [1,3] [2] (.two (.two .n (.two .n .n)) (.join [1,3] (.one (.two .n (.join [1,3,78] .n (.two (.two .n .n) .n)))) .n))))) (.two .n .n))))
noncomputable def z1h (m : Nat) : Env := [(69, .tell (z6p m)),(70, .tell (z7H m)),(71, .tell (z99 m))]
noncomputable abbrev z32 : KO (AV × List AObj) := z3Y Try.prog [.tmp 2]
noncomputable def z7n (m : Nat) (n0 : Nat) (kc : ASt → RO) (kx : KO (AV × List AObj)) (s : ASt) : RO := joinW Try.prog GG (z1h m) m ⟨79,[]⟩ (cdR (cdR (cdL (cdL (cdR (cdL (cdR (cdR z1w)))))))) z1x.r.r.l.r.c.c.r.r s (backW n0 [1,3] [2] kc kx)
noncomputable def z2G (m : Nat) (n0 : Nat) (kc : ASt → RO) (kx : KO (AV × List AObj)) (s : ASt) : RO := joinW Try.prog GG (z1h m) m ⟨79,[]⟩ (cdR (cdR (cdL (cdL (cdR (cdL (cdL (cdR (cdL (cdR (cdR z1w))))))))))) z1x.r.r.l.r.c.c.r.l.c.r.r s (z41 1 (seqX (fun s=>z7n m n0 kc kx ⟨s.H,[(1,gt s.T 1),(3,gt s.T 3)]⟩) (backW n0 [1,3] [2] kc kx)))
noncomputable def zaA (m : Nat) (s : ASt) : RO := joinW Try.prog GG (z1h m) m ⟨79,[]⟩ (cdR (cdR (cdR z1w))) z1x.r.r.r s (z32)
noncomputable def zaw (m : Nat) (s : ASt) (kc : ASt → RO) (kx : KO (AV × List AObj)) : RO := bodyW Try.prog GG (z1h m) m ⟨79,[]⟩ (cdL (cdL (cdR (cdL (cdR (cdR z1w)))))) z1x.r.r.l.r.c.c [1,3] [2] s kc kx
noncomputable def z7u (m : Nat) (s : ASt) : RO := joinW Try.prog GG (z1h m) m ⟨79,[]⟩ (cdR (cdR z1w)) z1x.r.r s (z32)
noncomputable def z2o (m : Nat) (s : ASt) : RO := joinW Try.prog GG (z1h m) m ⟨79,[]⟩ (cdR (cdL (cdR z1w))) z1x.r.l.r s (seqX (fun s=>z7u m ⟨s.H,[(1,gt s.T 1)]⟩) (z32))
noncomputable def z4f (m : Nat) (t0 : AV) : RO := exec Try.prog GG (z1h m) m ⟨79,[]⟩ z1w z1x ⟨[],argsT 0 [t0]⟩ (z32)
theorem z0d (m : Nat) (n0 : Nat) (kc : ASt → RO) (kx : KO (AV × List AObj)) (H : List AObj) (t1 t3 : AV) : z7n m n0 kc kx ⟨H,[(1,t1),(3,t3)]⟩ =
 binE none false false .add t3 (V (.int .i64 1)) fun t45 =>
 backE n0 H [(1,t1),(3,t45)] kc := by
 refine (z04 _ _ _ _ _ _ _ _ _).trans ?_
 kernel_rfl
theorem z0g (m : Nat) (n0 : Nat) (kc : ASt → RO) (kx : KO (AV × List AObj)) (H : List AObj) (t1 t3 t78 : AV) : z2G m n0 kc kx ⟨H,[(1,t1),(3,t3),(78,t78)]⟩ =
 condE t78 (
  kx .ret ⟨H,[(2,(V (.bool false)))]⟩) (
  z7n m n0 kc kx ⟨H,[(1,t1),(3,t3)]⟩) := by
 refine (z04 _ _ _ _ _ _ _ _ _).trans ?_
 kernel_rfl
theorem z0e (m : Nat) (H : List AObj) : zaA m ⟨H,[]⟩ =
 tellK H (ro H (V (.bool true))) := by
 refine (z04 _ _ _ _ _ _ _ _ _).trans ?_
 kernel_rfl
theorem zdp (m : Nat) (H : List AObj) (t1 t3 : AV) (kc : ASt → RO) (kx : KO (AV × List AObj)) : zaw m ⟨H,[(1,t1),(3,t3)]⟩ kc kx =
 z02 (some (5,1)) t1 fun t40 =>
 loadE 1 H t40 fun t41 =>
 lenE false true H t41 fun t42 =>
 binE none false false .lss t3 t42 fun t43 =>
 condE t43 (
  z02 (some (5,1)) t1 fun t46 =>
  loadE 1 H t46 fun t47 =>
  idxSE 7 H t47 t3 fun t49 =>
  loadE 7 H t49 fun t50 =>
  z5a (some z0U) z0b H fun t4 H2 =>
  z1p 7 H2 t4 t50 fun H3 =>
  z02 (some (0,1)) t4 fun t51 =>
  loadE 1 H3 t51 fun t52 =>
  tellE (z1n m (ro H3 t52)) [(ro H3 t52)] fun t53 =>
  unE .not t53 fun t54 =>
  condE t54 (
   z2G m H.length kc kx ⟨H3,[(1,t1),(3,t3),(78,(V (.bool true)))]⟩) (
   z02 (some (1,1)) t4 fun t56 =>
   loadE 1 H3 t56 fun t57 =>
   tellE (z1n m (ro H3 t57)) [(ro H3 t57)] fun t58 =>
   unE .not t58 fun t59 =>
   condE t59 (
   z2G m H.length kc kx ⟨H3,[(1,t1),(3,t3),(78,(V (.bool true)))]⟩) (
   z02 (some (2,1)) t4 fun t62 =>
   loadE 1 H3 t62 fun t63 =>
   tellE (z1n m (ro H3 t63)) [(ro H3 t63)] fun t64 =>
   unE .not t64 fun t65 =>
   condE t65 (
   z2G m H.length kc kx ⟨H3,[(1,t1),(3,t3),(78,(V (.bool true)))]⟩) (
   z02 (some (3,1)) t4 fun t68 =>
   loadE 1 H3 t68 fun t69 =>
   lenE true false H3 t69 fun t70 =>
   binE none false false .gtr t70 (V (.int .i64 65536)) fun t71 =>
   condE t71 (
   z2G m H.length kc kx ⟨H3,[(1,t1),(3,t3),(78,(V (.bool true)))]⟩) (
   z02 (some (4,1)) t4 fun t74 =>
   loadE 1 H3 t74 fun t75 =>
   tellE (z5B m (ro H3 t75)) [(ro H3 t75)] fun t76 =>
   unE .not t76 fun t77 =>
   z2G m H.length kc kx ⟨H3,[(1,t1),(3,t3),(78,t77)]⟩))))) (
  kx (.exit 0) ⟨H,[(2, .nil)]⟩) := by
 refine (z2r _ _ _ _ _ _ _ _ _ _ _ _).trans ?_
 kernel_rfl
theorem z0f (m : Nat) (H : List AObj) (t1 : AV) : z7u m ⟨H,[(1,t1)]⟩ =
 iterC m (zaw m) ⟨H,[(1,t1),(3,(V (.int .i64 0)))]⟩ (z41 0 (seqX (fun s=>zaA m ⟨s.H,[]⟩) (z32))) := by
 refine (z04 _ _ _ _ _ _ _ _ _).trans ?_
 kernel_rfl
theorem z0c (m : Nat) (H : List AObj) (t1 t38 : AV) : z2o m ⟨H,[(1,t1),(38,t38)]⟩ =
 condE t38 (
  tellK H (ro H (V (.bool false)))) (
  z7u m ⟨H,[(1,t1)]⟩) := by
 refine (z04 _ _ _ _ _ _ _ _ _).trans ?_
 kernel_rfl
theorem zfo (m : Nat) (t0 : AV) : z4f m t0 =
 boxE z00 [] t0 fun t1 H1 =>
 z02 (some (0,1)) t1 fun t5 =>
 loadE 1 H1 t5 fun t6 =>
 tellE (z6I m (ro H1 t6) (V (.int .i64 63))) [(ro H1 t6),(V (.int .i64 63))] fun t7 =>
 unE .not t7 fun t8 =>
 condE t8 (
  z2o m ⟨H1,[(1,t1),(38,(V (.bool true)))]⟩) (
  z02 (some (1,1)) t1 fun t10 =>
  loadE 1 H1 t10 fun t11 =>
  tellE (z1n m (ro H1 t11)) [(ro H1 t11)] fun t12 =>
  unE .not t12 fun t13 =>
  condE t13 (
  z2o m ⟨H1,[(1,t1),(38,(V (.bool true)))]⟩) (
  z02 (some (2,1)) t1 fun t16 =>
  loadE 1 H1 t16 fun t17 =>
  tellE (z1n m (ro H1 t17)) [(ro H1 t17)] fun t18 =>
  unE .not t18 fun t19 =>
  condE t19 (
  z2o m ⟨H1,[(1,t1),(38,(V (.bool true)))]⟩) (
  z02 (some (3,1)) t1 fun t22 =>
  loadE 1 H1 t22 fun t23 =>
  tellE (z1n m (ro H1 t23)) [(ro H1 t23)] fun t24 =>
  unE .not t24 fun t25 =>
  condE t25 (
  z2o m ⟨H1,[(1,t1),(38,(V (.bool true)))]⟩) (
  z02 (some (4,1)) t1 fun t28 =>
  loadE 1 H1 t28 fun t29 =>
  tellE (z5B m (ro H1 t29)) [(ro H1 t29)] fun t30 =>
  unE .not t30 fun t31 =>
  condE t31 (
  z2o m ⟨H1,[(1,t1),(38,(V (.bool true)))]⟩) (
  z02 (some (5,1)) t1 fun t34 =>
  loadE 1 H1 t34 fun t35 =>
  lenE false true H1 t35 fun t36 =>
  binE none false false .gtr t36 (V (.int .i64 64)) fun t37 =>
  z2o m ⟨H1,[(1,t1),(38,t37)]⟩))))) := by
 refine (tellX _ _ _ _ _ _ _ _ _).trans ?_
 kernel_rfl
noncomputable def z5l (m : Nat) : List AV → RO|[t0]=>z4f m t0|_=>none
theorem zaD (m : Nat) : ∀ args X H',z5l m args = some (X,H') → ACp Try.prog GG 47 args X := by
 intro args X H' h
 unfold z5l at h
 split at h
 ·exact z0G MIX (by
  intro f e h
  simp only [z1h,Prod.mk.injEq,List.mem_cons,List.not_mem_nil,or_false] at h
  rcases h with ⟨rfl,rfl⟩|⟨rfl,rfl⟩|⟨rfl,rfl⟩
  ·exact zah m
  ·exact zcg m
  ·exact zgf m) (f := 47) (c := z1w) Try.func47 rfl (by kernel_rfl) _ rfl Try.ntmps47 (Nat.le_of_ble_eq_true rfl) z1x h
 ·cases h
noncomputable def z7O : Code := (Try.f72.body).getD .skip
def z7G : Hint := (.two .n (.two .n (.join [3] (.two .n (.one (.lp [] [0,3,4] [3] (.two (.two .n (.two .n .n)) (.two (.one .n) .n))))) (.two .n .n))))
noncomputable def z5R (m : Nat) : Env := [(92, .tell (z5y m))]
noncomputable abbrev z8V : KO (AV × List AObj) := z3Y Try.prog [.tmp 2]
noncomputable def zcx (m : Nat) (s : ASt) : RO := joinW Try.prog GG (z5R m) m ⟨20,[]⟩ (cdR (cdR (cdR z7O))) z7G.r.r.r s (z8V)
noncomputable def zcB (m : Nat) (s : ASt) (kc : ASt → RO) (kx : KO (AV × List AObj)) : RO := bodyW Try.prog GG (z5R m) m ⟨20,[]⟩ (cdL (cdL (cdR (cdL (cdR (cdR z7O)))))) z7G.r.r.l.r.c.c [0,3,4] [3] s kc kx
noncomputable def z2Y (m : Nat) (t0 : AV) : RO := exec Try.prog GG (z5R m) m ⟨20,[]⟩ z7O z7G ⟨[],argsT 0 [t0]⟩ (z8V)
theorem zfs (m : Nat) (H : List AObj) (t3 : AV) : zcx m ⟨H,[(3,t3)]⟩ =
 tellK H (ro H t3) := by
 refine (z04 _ _ _ _ _ _ _ _ _).trans ?_
 kernel_rfl
theorem zfh (m : Nat) (H : List AObj) (t0 t3 t4 : AV) (kc : ASt → RO) (kx : KO (AV × List AObj)) : zcB m ⟨H,[(0,t0),(3,t3),(4,t4)]⟩ kc kx =
 lenE false true H t0 fun t7 =>
 binE none false false .lss t4 t7 fun t8 =>
 condE t8 (
  idxSE 1 H t0 t4 fun t14 =>
  loadE 1 H t14 fun t15 =>
  convE false (some .u64) true false false (ro H t15) fun t16 =>
  tellE (z5y m [(ro H t16)]) [(ro H t16)] fun t17 =>
  binE none false false .add t3 t17 fun t18 =>
  binE none false false .add t4 (V (.int .i64 1)) fun t10 =>
  backE H.length H [(0,t0),(3,t18),(4,t10)] kc) (
  kx (.exit 0) ⟨H,[(3,t3)]⟩) := by
 refine (z2r _ _ _ _ _ _ _ _ _ _ _ _).trans ?_
 kernel_rfl
theorem zhl (m : Nat) (t0 : AV) : z2Y m t0 =
 iterC m (zcB m) ⟨[],[(0,t0),(3,(V (.string ⟨#[]⟩))),(4,(V (.int .i64 0)))]⟩ (z41 0 (seqX (fun s=>zcx m ⟨s.H,[(3,gt s.T 3)]⟩) (z8V))) := by
 refine (tellX _ _ _ _ _ _ _ _ _).trans ?_
 kernel_rfl
noncomputable def z7M (m : Nat) : List AV → RO|[t0]=>z2Y m t0|_=>none
theorem zcv (m : Nat) : ∀ args X H',z7M m args = some (X,H') → ACp Try.prog GG 72 args X := by
 intro args X H' h
 unfold z7M at h
 split at h
 ·exact z0G MIX (by
  intro f e h
  simp only [z5R,Prod.mk.injEq,List.mem_cons,List.not_mem_nil,or_false] at h
  obtain ⟨rfl,rfl⟩ := h
  ·exact zhy m) (f := 72) (c := z7O) Try.func72 rfl (by kernel_rfl) _ rfl Try.ntmps72 (Nat.le_of_ble_eq_true rfl) z7G h
 ·cases h
noncomputable def z5h : Code := (Try.f73.body).getD .skip
def z5s : Hint := (.two .n (.two .n (.join [3] (.two .n (.one (.lp [] [0,3,4] [3] (.two (.two .n (.two .n .n)) (.two (.one .n) .n))))) (.two .n .n))))
noncomputable def z4C (m : Nat) : Env := [(72, .tell (z7M m))]
noncomputable abbrev z6m : KO (AV × List AObj) := z3Y Try.prog [.tmp 2]
noncomputable def zax (m : Nat) (s : ASt) : RO := joinW Try.prog GG (z4C m) m ⟨45,[]⟩ (cdR (cdR (cdR z5h))) z5s.r.r.r s (z6m)
noncomputable def zap (m : Nat) (s : ASt) (kc : ASt → RO) (kx : KO (AV × List AObj)) : RO := bodyW Try.prog GG (z4C m) m ⟨45,[]⟩ (cdL (cdL (cdR (cdL (cdR (cdR z5h)))))) z5s.r.r.l.r.c.c [0,3,4] [3] s kc kx
noncomputable def z52 (m : Nat) (t0 : AV) : RO := exec Try.prog GG (z4C m) m ⟨45,[]⟩ z5h z5s ⟨[],argsT 0 [t0]⟩ (z6m)
theorem zdx (m : Nat) (H : List AObj) (t3 : AV) : zax m ⟨H,[(3,t3)]⟩ =
 tellK H (ro H t3) := by
 refine (z04 _ _ _ _ _ _ _ _ _).trans ?_
 kernel_rfl
theorem zde (m : Nat) (H : List AObj) (t0 t3 t4 : AV) (kc : ASt → RO) (kx : KO (AV × List AObj)) : zap m ⟨H,[(0,t0),(3,t3),(4,t4)]⟩ kc kx =
 lenE false true H t0 fun t11 =>
 binE none false false .lss t4 t11 fun t12 =>
 condE t12 (
  idxSE 7 H t0 t4 fun t18 =>
  z02 (some (0,1)) t18 fun t19 =>
  loadE 1 H t19 fun t20 =>
  idxSE 7 H t0 t4 fun t23 =>
  z02 (some (1,1)) t23 fun t24 =>
  loadE 1 H t24 fun t25 =>
  idxSE 7 H t0 t4 fun t28 =>
  z02 (some (2,1)) t28 fun t29 =>
  loadE 1 H t29 fun t30 =>
  idxSE 7 H t0 t4 fun t33 =>
  z02 (some (3,1)) t33 fun t34 =>
  loadE 1 H t34 fun t35 =>
  idxSE 7 H t0 t4 fun t38 =>
  z02 (some (4,1)) t38 fun t39 =>
  loadE 1 H t39 fun t40 =>
  z1g (some (z7o,1)) 5 [(0,t20),(1,t25),(2,t30),(3,t35),(4,t40)] fun t41 =>
  tellE (z2Y m (ro H t41)) [(ro H t41)] fun t42 =>
  binE none false false .add t3 t42 fun t43 =>
  binE none false false .add t4 (V (.int .i64 1)) fun t14 =>
  backE H.length H [(0,t0),(3,t43),(4,t14)] kc) (
  kx (.exit 0) ⟨H,[(3,t3)]⟩) := by
 refine (z2r _ _ _ _ _ _ _ _ _ _ _ _).trans ?_
 kernel_rfl
theorem zfy (m : Nat) (t0 : AV) : z52 m t0 =
 lenE false true [] t0 fun t6 =>
 z1g (some (z7o,1)) 1 [(0,t6)] fun t7 =>
 tellE (z2Y m (ro [] t7)) [(ro [] t7)] fun t8 =>
 iterC m (zap m) ⟨[],[(0,t0),(3,t8),(4,(V (.int .i64 0)))]⟩ (z41 0 (seqX (fun s=>zax m ⟨s.H,[(3,gt s.T 3)]⟩) (z6m))) := by
 refine (tellX _ _ _ _ _ _ _ _ _).trans ?_
 kernel_rfl
noncomputable def z84 (m : Nat) : List AV → RO|[t0]=>z52 m t0|_=>none
theorem zfj (m : Nat) : ∀ args X H',z84 m args = some (X,H') → ACp Try.prog GG 73 args X := by
 intro args X H' h
 unfold z84 at h
 split at h
 ·exact z0G MIX (by
  intro f e h
  simp only [z4C,Prod.mk.injEq,List.mem_cons,List.not_mem_nil,or_false] at h
  obtain ⟨rfl,rfl⟩ := h
  ·exact zcv m) (f := 73) (c := z5h) Try.func73 rfl (by kernel_rfl) _ rfl Try.ntmps73 (Nat.le_of_ble_eq_true rfl) z5s h
 ·cases h
noncomputable def z2W : Code := (Try.f50.body).getD .skip
def z2U : Hint := (.two .n (.two .n (.join [3] (.two .n (.one (.lp [] [1,3,4] [3] (.two (.two .n (.two .n .n)) (.two (.one (.two .n .n)) .n))))) (.two .n .n))))
noncomputable def z2z (m : Nat) : Env := [(72, .tell (z7M m)),(73, .tell (z84 m))]
noncomputable abbrev z4g : KO (AV × List AObj) := z3Y Try.prog [.tmp 2]
noncomputable def z7k (m : Nat) (s : ASt) : RO := joinW Try.prog GG (z2z m) m ⟨59,[]⟩ (cdR (cdR (cdR z2W))) z2U.r.r.r s (z4g)
noncomputable def z7l (m : Nat) (s : ASt) (kc : ASt → RO) (kx : KO (AV × List AObj)) : RO := bodyW Try.prog GG (z2z m) m ⟨59,[]⟩ (cdL (cdL (cdR (cdL (cdR (cdR z2W)))))) z2U.r.r.l.r.c.c [1,3,4] [3] s kc kx
noncomputable def z46 (m : Nat) (t0 : AV) : RO := exec Try.prog GG (z2z m) m ⟨59,[]⟩ z2W z2U ⟨[],argsT 0 [t0]⟩ (z4g)
theorem zac (m : Nat) (H : List AObj) (t3 : AV) : z7k m ⟨H,[(3,t3)]⟩ =
 tellK H (ro H t3) := by
 refine (z04 _ _ _ _ _ _ _ _ _).trans ?_
 kernel_rfl
theorem zan (m : Nat) (H : List AObj) (t1 t3 t4 : AV) (kc : ASt → RO) (kx : KO (AV × List AObj)) : z7l m ⟨H,[(1,t1),(3,t3),(4,t4)]⟩ kc kx =
 z02 (some (5,1)) t1 fun t27 =>
 loadE 1 H t27 fun t28 =>
 lenE false true H t28 fun t29 =>
 binE none false false .lss t4 t29 fun t30 =>
 condE t30 (
  z02 (some (5,1)) t1 fun t33 =>
  loadE 1 H t33 fun t34 =>
  idxSE 7 H t34 t4 fun t36 =>
  loadE 7 H t36 fun t37 =>
  z5a (some z0U) z0b H fun t5 H2 =>
  z1p 7 H2 t5 t37 fun H3 =>
  z02 (some (0,1)) t5 fun t39 =>
  loadE 1 H3 t39 fun t40 =>
  z02 (some (1,1)) t5 fun t41 =>
  loadE 1 H3 t41 fun t42 =>
  z02 (some (2,1)) t5 fun t43 =>
  loadE 1 H3 t43 fun t44 =>
  z02 (some (3,1)) t5 fun t45 =>
  loadE 1 H3 t45 fun t46 =>
  lenE true false H3 t46 fun t47 =>
  z1g (some (z7o,1)) 4 [(0,t40),(1,t42),(2,t44),(3,t47)] fun t48 =>
  tellE (z2Y m (ro H3 t48)) [(ro H3 t48)] fun t49 =>
  z02 (some (3,1)) t5 fun t50 =>
  loadE 1 H3 t50 fun t51 =>
  binE none false false .add t49 t51 fun t52 =>
  z02 (some (4,1)) t5 fun t53 =>
  loadE 1 H3 t53 fun t54 =>
  tellE (z52 m (ro H3 t54)) [(ro H3 t54)] fun t55 =>
  binE none false false .add t52 t55 fun t56 =>
  binE none false false .add t3 t56 fun t57 =>
  binE none false false .add t4 (V (.int .i64 1)) fun t32 =>
  backE H.length H3 [(1,t1),(3,t57),(4,t32)] kc) (
  kx (.exit 0) ⟨H,[(3,t3)]⟩) := by
 refine (z2r _ _ _ _ _ _ _ _ _ _ _ _).trans ?_
 kernel_rfl
theorem zbm (m : Nat) (t0 : AV) : z46 m t0 =
 boxE z00 [] t0 fun t1 H1 =>
 z02 (some (0,1)) t1 fun t6 =>
 loadE 1 H1 t6 fun t7 =>
 z02 (some (1,1)) t1 fun t8 =>
 loadE 1 H1 t8 fun t9 =>
 z02 (some (2,1)) t1 fun t10 =>
 loadE 1 H1 t10 fun t11 =>
 z02 (some (3,1)) t1 fun t12 =>
 loadE 1 H1 t12 fun t13 =>
 z1g (some (z7o,1)) 4 [(0,t7),(1,t9),(2,t11),(3,t13)] fun t14 =>
 tellE (z2Y m (ro H1 t14)) [(ro H1 t14)] fun t15 =>
 z02 (some (4,1)) t1 fun t16 =>
 loadE 1 H1 t16 fun t17 =>
 tellE (z52 m (ro H1 t17)) [(ro H1 t17)] fun t18 =>
 binE none false false .add t15 t18 fun t19 =>
 z02 (some (5,1)) t1 fun t20 =>
 loadE 1 H1 t20 fun t21 =>
 lenE false true H1 t21 fun t22 =>
 z1g (some (z7o,1)) 1 [(0,t22)] fun t23 =>
 tellE (z2Y m (ro H1 t23)) [(ro H1 t23)] fun t24 =>
 binE none false false .add t19 t24 fun t25 =>
 iterC m (z7l m) ⟨H1,[(1,t1),(3,t25),(4,(V (.int .i64 0)))]⟩ (z41 0 (seqX (fun s=>z7k m ⟨s.H,[(3,gt s.T 3)]⟩) (z4g))) := by
 refine (tellX _ _ _ _ _ _ _ _ _).trans ?_
 kernel_rfl
noncomputable def z4R (m : Nat) : List AV → RO|[t0]=>z46 m t0|_=>none
theorem zbo (m : Nat) : ∀ args X H',z4R m args = some (X,H') → ACp Try.prog GG 50 args X := by
 intro args X H' h
 unfold z4R at h
 split at h
 ·exact z0G MIX (by
  intro f e h
  simp only [z2z,Prod.mk.injEq,List.mem_cons,List.not_mem_nil,or_false] at h
  rcases h with ⟨rfl,rfl⟩|⟨rfl,rfl⟩
  ·exact zcv m
  ·exact zfj m) (f := 50) (c := z2W) Try.func50 rfl (by kernel_rfl) _ rfl Try.ntmps50 (Nat.le_of_ble_eq_true rfl) z2U h
 ·cases h
noncomputable def z6A : Code := (Try.f25.body).getD .skip
def z6w : Hint := (.two .n (.join [0] (.join [0,10] .n (.two (.two .n .n) .n)) (.two (.two .n (.two (.two .n .n) .n)) (.two .n .n))))
noncomputable def z7Y (m : Nat) : Env := []
noncomputable abbrev z7Q : KO (AV × List AObj) := z3Y Try.prog [.tmp 2]
noncomputable def z91 (m : Nat) (s : ASt) : RO := joinW Try.prog GG (z7Y m) m ⟨19,[]⟩ (cdR (cdR z6A)) z6w.r.r s (z7Q)
noncomputable def z8H (m : Nat) (s : ASt) : RO := joinW Try.prog GG (z7Y m) m ⟨19,[]⟩ (cdR (cdL (cdR z6A))) z6w.r.l.r s (seqX (fun s=>z91 m ⟨s.H,[(0,gt s.T 0)]⟩) (z7Q))
noncomputable def z95 (m : Nat) (t0 : AV) : RO := exec Try.prog GG (z7Y m) m ⟨19,[]⟩ z6A z6w ⟨[],argsT 0 [t0]⟩ (z7Q)
theorem z4F (m : Nat) (H : List AObj) (t0 : AV) : z91 m ⟨H,[(0,t0)]⟩ =
 lenE true false H t0 fun t14 =>
 binE none false false .gtr t14 (V (.int .i64 65540)) fun t15 =>
 condE t15 (
  zgv true none H t0 none (some (V (.int .i64 65540))) fun t17 =>
  tellK H (ro H t17)) (
  tellK H (ro H t0)) := by
 refine (z04 _ _ _ _ _ _ _ _ _).trans ?_
 kernel_rfl
theorem z4A (m : Nat) (H : List AObj) (t0 t10 : AV) : z8H m ⟨H,[(0,t0),(10,t10)]⟩ =
 condE t10 (
  zgv true none H t0 none (some (V (.int .i64 3000))) fun t12 =>
  tellK H (ro H t12)) (
  z91 m ⟨H,[(0,t0)]⟩) := by
 refine (z04 _ _ _ _ _ _ _ _ _).trans ?_
 kernel_rfl
theorem zgx (m : Nat) (t0 : AV) : z95 m t0 =
 lenE true false [] t0 fun t4 =>
 binE none false false .gtr t4 (V (.int .i64 3000)) fun t5 =>
 condE t5 (
  lenE true false [] t0 fun t8 =>
  binE none false false .leq t8 (V (.int .i64 65536)) fun t9 =>
  z8H m ⟨[],[(0,t0),(10,t9)]⟩) (
  z8H m ⟨[],[(0,t0),(10,(V (.bool false)))]⟩) := by
 refine (tellX _ _ _ _ _ _ _ _ _).trans ?_
 kernel_rfl
noncomputable def z9z (m : Nat) : List AV → RO|[t0]=>z95 m t0|_=>none
theorem zgL (m : Nat) : ∀ args X H',z9z m args = some (X,H') → ACp Try.prog GG 25 args X := by
 intro args X H' h
 unfold z9z at h
 split at h
 ·exact z0G MIX (by intro f e h;cases h) (f := 25) (c := z6A) Try.func25 rfl (by kernel_rfl) _ rfl Try.ntmps25 (Nat.le_of_ble_eq_true rfl) z6w h
 ·cases h
noncomputable def zbF : Code := (Try.f24.body).getD .skip
def zbz : Hint := (.two .n (.two (.two .n (.two (.two .n .n) .n)) (.two .n .n)))
noncomputable def zfp (m : Nat) : Env := []
noncomputable abbrev zfi : KO (AV × List AObj) := z3Y Try.prog [.tmp 2]
noncomputable def z5D (m : Nat) (t0 : AV) : RO := exec Try.prog GG (zfp m) m ⟨9,[]⟩ zbF zbz ⟨[],argsT 0 [t0]⟩ (zfi)
theorem zfS (m : Nat) (t0 : AV) : z5D m t0 =
 lenE false true [] t0 fun t4 =>
 binE none false false .gtr t4 (V (.int .i64 66)) fun t5 =>
 condE t5 (
  zgv false (some (z01,7)) [] t0 none (some (V (.int .i64 66))) fun t7 =>
  tellK [] (ro [] t7)) (
  tellK [] (ro [] t0)) := by
 refine (tellX _ _ _ _ _ _ _ _ _).trans ?_
 kernel_rfl
noncomputable def z8n (m : Nat) : List AV → RO|[t0]=>z5D m t0|_=>none
theorem zfY (m : Nat) : ∀ args X H',z8n m args = some (X,H') → ACp Try.prog GG 24 args X := by
 intro args X H' h
 unfold z8n at h
 split at h
 ·exact z0G MIX (by intro f e h;cases h) (f := 24) (c := zbF) Try.func24 rfl (by kernel_rfl) _ rfl Try.ntmps24 (Nat.le_of_ble_eq_true rfl) zbz h
 ·cases h
noncomputable def z2M : Code := (Try.f7.body).getD .skip
def z2O : Hint := (.two .n (.two .n (.join [1,2] (.two .n (.two .n .n)) (.two .n (.join [1,2,3] (.two .n (.one (.lp [(3,z0b,5)] [1,2,3,4] [1,2,3] (.two (.two .n (.two .n .n)) (.two (.one (.two .n (.two .n (.two .n .n)))) .n))))) (.two .n (.two .n .n)))))))
noncomputable def z2v (m : Nat) : Env := [(24, .tell (z8n m)),(25, .tell (z9z m))]
noncomputable abbrev z3u : KO (AV × List AObj) := z3Y Try.prog [.cell 2 30]
noncomputable def z8D (m : Nat) (s : ASt) : RO := joinW Try.prog GG (z2v m) m ⟨45,[]⟩ (cdR (cdR (cdR (cdR (cdR z2M))))) z2O.r.r.r.r.r s (z3u)
noncomputable def z8E (m : Nat) (s : ASt) (kc : ASt → RO) (kx : KO (AV × List AObj)) : RO := bodyW Try.prog GG (z2v m) m ⟨45,[]⟩ (cdL (cdL (cdR (cdL (cdR (cdR (cdR (cdR z2M)))))))) z2O.r.r.r.r.l.r.c.c [1,2,3,4] [1,2,3] s kc kx
noncomputable def z44 (m : Nat) (s : ASt) : RO := joinW Try.prog GG (z2v m) m ⟨45,[]⟩ (cdR (cdR (cdR z2M))) z2O.r.r.r s (z3u)
noncomputable def z4Y (m : Nat) (t0 : AV) : RO := exec Try.prog GG (z2v m) m ⟨45,[]⟩ z2M z2O ⟨[],argsT 0 [t0]⟩ (z3u)
theorem z7j (m : Nat) (H : List AObj) (t1 t2 t3 : AV) : z8D m ⟨H,[(1,t1),(2,t2),(3,t3)]⟩ =
 z02 (some (5,1)) t1 fun t43 =>
 z1p 1 H t43 t3 fun H2 =>
 loadE 8 H2 t1 fun t44 =>
 z1p 8 H2 t2 t44 fun H3 =>
 loadE 8 H3 t2 fun t9000 =>
 tellK H3 (ro H3 t9000) := by
 refine (z04 _ _ _ _ _ _ _ _ _).trans ?_
 kernel_rfl
theorem zbk (m : Nat) (H : List AObj) (t1 t2 t3 t4 : AV) (kc : ASt → RO) (kx : KO (AV × List AObj)) : z8E m ⟨H,[(1,t1),(2,t2),(3,t3),(4,t4)]⟩ kc kx =
 z02 (some (5,1)) t1 fun t19 =>
 loadE 1 H t19 fun t20 =>
 lenE false true H t20 fun t21 =>
 binE none false false .lss t4 t21 fun t22 =>
 condE t22 (
  z02 (some (5,1)) t1 fun t25 =>
  loadE 1 H t25 fun t26 =>
  idxSE 7 H t26 t4 fun t28 =>
  loadE 7 H t28 fun t29 =>
  z5a (some z0U) z0b H fun t5 H2 =>
  z1p 7 H2 t5 t29 fun H3 =>
  z02 (some (3,1)) t5 fun t30 =>
  loadE 1 H3 t30 fun t31 =>
  tellE (z95 m (ro H3 t31)) [(ro H3 t31)] fun t32 =>
  z02 (some (3,1)) t5 fun t33 =>
  z1p 1 H3 t33 t32 fun H4 =>
  z02 (some (4,1)) t5 fun t34 =>
  loadE 1 H4 t34 fun t35 =>
  tellE (z5D m (ro H4 t35)) [(ro H4 t35)] fun t36 =>
  z02 (some (4,1)) t5 fun t37 =>
  z1p 1 H4 t37 t36 fun H5 =>
  loadE 7 H5 t5 fun t39 =>
  z1g (some (z0b,5)) 1 [(0,t39)] fun t40 =>
  appE (some (z0b,5)) H5 t3 t40 fun t41 H6 =>
  binE none false false .add t4 (V (.int .i64 1)) fun t24 =>
  backE H.length H6 [(1,t1),(2,t2),(3,t41),(4,t24)] kc) (
  kx (.exit 0) ⟨H,[(1,t1),(2,t2),(3,t3)]⟩) := by
 refine (z2r _ _ _ _ _ _ _ _ _ _ _ _).trans ?_
 kernel_rfl
theorem z4y (m : Nat) (H : List AObj) (t1 t2 : AV) : z44 m ⟨H,[(1,t1),(2,t2)]⟩ =
 rowE (V (.slice none 0 0)) z0b 5 H fun t3 H2 =>
 iterC m (z8E m) ⟨H2,[(1,t1),(2,t2),(3,t3),(4,(V (.int .i64 0)))]⟩ (z41 0 (seqX (fun s=>z8D m ⟨s.H,[(1,gt s.T 1),(2,gt s.T 2),(3,gt s.T 3)]⟩) (z3u))) := by
 refine (z04 _ _ _ _ _ _ _ _ _).trans ?_
 kernel_rfl
theorem zd6 (m : Nat) (t0 : AV) : z4Y m t0 =
 boxE z00 [] t0 fun t1 H1 =>
 z5a (some z0u) z00 H1 fun t2 H2 =>
 z02 (some (4,1)) t1 fun t6 =>
 loadE 1 H2 t6 fun t7 =>
 tellE (z5D m (ro H2 t7)) [(ro H2 t7)] fun t8 =>
 z02 (some (4,1)) t1 fun t9 =>
 z1p 1 H2 t9 t8 fun H3 =>
 z02 (some (5,1)) t1 fun t10 =>
 loadE 1 H3 t10 fun t11 =>
 lenE false true H3 t11 fun t12 =>
 binE none false false .gtr t12 (V (.int .i64 66)) fun t13 =>
 condE t13 (
  z02 (some (5,1)) t1 fun t14 =>
  loadE 1 H3 t14 fun t15 =>
  zgv false (some (z0b,7)) H3 t15 none (some (V (.int .i64 66))) fun t16 =>
  z02 (some (5,1)) t1 fun t17 =>
  z1p 1 H3 t17 t16 fun H4 =>
  z44 m ⟨H4,[(1,t1),(2,t2)]⟩) (
  z44 m ⟨H3,[(1,t1),(2,t2)]⟩) := by
 refine (tellX _ _ _ _ _ _ _ _ _).trans ?_
 kernel_rfl
noncomputable def z5M (m : Nat) : List AV → RO|[t0]=>z4Y m t0|_=>none
theorem zcV (m : Nat) : ∀ args X H',z5M m args = some (X,H') → ACp Try.prog GG 7 args X := by
 intro args X H' h
 unfold z5M at h
 split at h
 ·exact z0G MIX (by
  intro f e h
  simp only [z2v,Prod.mk.injEq,List.mem_cons,List.not_mem_nil,or_false] at h
  rcases h with ⟨rfl,rfl⟩|⟨rfl,rfl⟩
  ·exact zfY m
  ·exact zgL m) (f := 7) (c := z2M) Try.func7 rfl (by kernel_rfl) _ rfl Try.ntmps7 (Nat.le_of_ble_eq_true rfl) z2O h
 ·cases h
end Go.Proofs.Ytaaogcnjfkgnoaa

namespace Go.Proofs.Ytaaogcnjfkgnoaa
open Go.RowKit
def z2J : TypeId := 73
def z0F : List AV := [(V (.int .i64 0)),(V (.int .i64 0)),(V (.string ⟨#[]⟩)),(V (.bool false))]
def zbC : List (Nat × Nat) := [(0,1),(1,1),(2,1),(3,1)]
noncomputable def z4E : Code := (Try.f74.body).getD .skip
def z4B : Hint := (.two .n (.two .n (.join [] (.two .n (.one (.lp [] [1,3,9,10,11] [2] (.two .n (.two (.two .n .n) (.join [1,3,9,10,11] (.one (.two .n (.join [1,5,9,10,11] (.join [1,5,9,10,11,37] .n (.two (.two .n .n) .n)) .n))) .n)))))) (.two .n .n))))
noncomputable def z4n (m : Nat) : Env := []
noncomputable abbrev zb4 : KO (AV × List AObj) := z3Y Try.prog [.tmp 2]
noncomputable def zc4 (m : Nat) (n0 : Nat) (kc : ASt → RO) (kx : KO (AV × List AObj)) (s : ASt) : RO := joinW Try.prog GG (z4n m) m ⟨41,[]⟩ (cdR (cdR (cdR (cdL (cdL (cdR (cdL (cdR (cdR z4E))))))))) z4B.r.r.l.r.c.c.r.r.r s (backW n0 [1,3,9,10,11] [2] kc kx)
noncomputable def zki (m : Nat) (n0 : Nat) (kc : ASt → RO) (kx : KO (AV × List AObj)) (s : ASt) : RO := joinW Try.prog GG (z4n m) m ⟨41,[]⟩ (cdR (cdR (cdR (cdL (cdL (cdR (cdL (cdR (cdR z4E))))))))) z4B.r.r.l.r.c.c.r.r.r s (backW n0 [1,3,9,10,11] [2] kc kx)
noncomputable def zbP (m : Nat) (n0 : Nat) (kc : ASt → RO) (kx : KO (AV × List AObj)) (s : ASt) : RO := joinW Try.prog GG (z4n m) m ⟨41,[]⟩ (cdR (cdR (cdL (cdL (cdR (cdR (cdL (cdL (cdR (cdL (cdR (cdR z4E)))))))))))) z4B.r.r.l.r.c.c.r.r.l.c.r.r s (z41 1 (seqX (fun s=>zc4 m n0 kc kx ⟨s.H,[(1,gt s.T 1),(3,gt s.T 3),(9,gt s.T 9),(10,gt s.T 10),(11,gt s.T 11)]⟩) (backW n0 [1,3,9,10,11] [2] kc kx)))
noncomputable def z7F (m : Nat) (n0 : Nat) (kc : ASt → RO) (kx : KO (AV × List AObj)) (s : ASt) : RO := joinW Try.prog GG (z4n m) m ⟨41,[]⟩ (cdR (cdL (cdR (cdL (cdL (cdR (cdR (cdL (cdL (cdR (cdL (cdR (cdR z4E))))))))))))) z4B.r.r.l.r.c.c.r.r.l.c.r.l.r s (seqX (fun s=>zbP m n0 kc kx ⟨s.H,[(1,gt s.T 1),(5,gt s.T 5),(9,gt s.T 9),(10,gt s.T 10),(11,gt s.T 11)]⟩) (z41 1 (seqX (fun s=>zki m n0 kc kx ⟨s.H,[(1,gt s.T 1),(3,gt s.T 3),(9,gt s.T 9),(10,gt s.T 10),(11,gt s.T 11)]⟩) (backW n0 [1,3,9,10,11] [2] kc kx))))
noncomputable def zfB (m : Nat) (s : ASt) : RO := joinW Try.prog GG (z4n m) m ⟨41,[]⟩ (cdR (cdR (cdR z4E))) z4B.r.r.r s (zb4)
noncomputable def zfI (m : Nat) (s : ASt) (kc : ASt → RO) (kx : KO (AV × List AObj)) : RO := bodyW Try.prog GG (z4n m) m ⟨41,[]⟩ (cdL (cdL (cdR (cdL (cdR (cdR z4E)))))) z4B.r.r.l.r.c.c [1,3,9,10,11] [2] s kc kx
noncomputable def zbb (m : Nat) (t0 : AV) : RO := exec Try.prog GG (z4n m) m ⟨41,[]⟩ z4E z4B ⟨[],argsT 0 [t0]⟩ (zb4)
theorem zhH (m : Nat) (n0 : Nat) (kc : ASt → RO) (kx : KO (AV × List AObj)) (H : List AObj) (t1 t3 t9 t10 t11 : AV) : zc4 m n0 kc kx ⟨H,[(1,t1),(3,t3),(9,t9),(10,t10),(11,t11)]⟩ =
 binE none false false .add t11 (V (.int .i64 1)) fun t40 =>
 backE n0 H [(1,t1),(3,t3),(9,t9),(10,t10),(11,t40)] kc := by
 refine (z04 _ _ _ _ _ _ _ _ _).trans ?_
 kernel_rfl
theorem zhL (m : Nat) (n0 : Nat) (kc : ASt → RO) (kx : KO (AV × List AObj)) (H : List AObj) (t1 t5 t9 t10 t11 : AV) : zbP m n0 kc kx ⟨H,[(1,t1),(5,t5),(9,t9),(10,t10),(11,t11)]⟩ =
 z02 (some (0,1)) t5 fun t38 =>
 loadE 1 H t38 fun t39 =>
 zc4 m n0 kc kx ⟨H,[(1,t1),(3,t39),(9,t9),(10,t10),(11,t11)]⟩ := by
 refine (z04 _ _ _ _ _ _ _ _ _).trans ?_
 kernel_rfl
theorem zhU (m : Nat) (n0 : Nat) (kc : ASt → RO) (kx : KO (AV × List AObj)) (H : List AObj) (t1 t5 t9 t10 t11 t37 : AV) : z7F m n0 kc kx ⟨H,[(1,t1),(5,t5),(9,t9),(10,t10),(11,t11),(37,t37)]⟩ =
 condE t37 (
  kx .ret ⟨H,[(2,(V (.bool false)))]⟩) (
  zbP m n0 kc kx ⟨H,[(1,t1),(5,t5),(9,t9),(10,t10),(11,t11)]⟩) := by
 refine (z04 _ _ _ _ _ _ _ _ _).trans ?_
 kernel_rfl
theorem zhx (m : Nat) (H : List AObj) : zfB m ⟨H,[]⟩ =
 tellK H (ro H (V (.bool true))) := by
 refine (z04 _ _ _ _ _ _ _ _ _).trans ?_
 kernel_rfl
theorem zhu (m : Nat) (H : List AObj) (t1 t3 t9 t10 t11 : AV) (kc : ASt → RO) (kx : KO (AV × List AObj)) : zfI m ⟨H,[(1,t1),(3,t3),(9,t9),(10,t10),(11,t11)]⟩ kc kx =
 binE none false false .lss t11 t10 fun t12 =>
 condE t12 (
  idxSE 7 H t9 t11 fun t13 =>
  loadE 7 H t13 fun t14 =>
  z5a (some z0U) z0b H fun t5 H2 =>
  z1p 7 H2 t5 t14 fun H3 =>
  z02 (some (0,1)) t5 fun t15 =>
  loadE 1 H3 t15 fun t16 =>
  binE none false false .leq t16 t3 fun t18 =>
  condE t18 (
   z7F m H.length kc kx ⟨H3,[(1,t1),(5,t5),(9,t9),(10,t10),(11,t11),(37,(V (.bool true)))]⟩) (
   z02 (some (0,1)) t5 fun t20 =>
   loadE 1 H3 t20 fun t21 =>
   z02 (some (2,1)) t1 fun t22 =>
   loadE 1 H3 t22 fun t23 =>
   binE none false false .sub t21 t23 fun t24 =>
   binE none false false .gtr t24 (V (.int .i64 16)) fun t25 =>
   condE t25 (
   z7F m H.length kc kx ⟨H3,[(1,t1),(5,t5),(9,t9),(10,t10),(11,t11),(37,(V (.bool true)))]⟩) (
   z02 (some (1,1)) t5 fun t28 =>
   loadE 1 H3 t28 fun t29 =>
   binE none false false .lss t29 (V (.int .i64 0)) fun t30 =>
   condE t30 (
   z7F m H.length kc kx ⟨H3,[(1,t1),(5,t5),(9,t9),(10,t10),(11,t11),(37,(V (.bool true)))]⟩) (
   z02 (some (3,1)) t5 fun t33 =>
   loadE 1 H3 t33 fun t34 =>
   lenE true false H3 t34 fun t35 =>
   binE none false false .gtr t35 (V (.int .i64 65536)) fun t36 =>
   z7F m H.length kc kx ⟨H3,[(1,t1),(5,t5),(9,t9),(10,t10),(11,t11),(37,t36)]⟩)))) (
  kx (.exit 0) ⟨H,[(2, .nil)]⟩) := by
 refine (z2r _ _ _ _ _ _ _ _ _ _ _ _).trans ?_
 kernel_rfl
theorem zkd (m : Nat) (t0 : AV) : zbb m t0 =
 boxE z00 [] t0 fun t1 H1 =>
 z02 (some (2,1)) t1 fun t6 =>
 loadE 1 H1 t6 fun t7 =>
 z02 (some (5,1)) t1 fun t8 =>
 loadE 1 H1 t8 fun t9 =>
 lenE false true H1 t9 fun t10 =>
 iterC m (zfI m) ⟨H1,[(1,t1),(3,t7),(9,t9),(10,t10),(11,(V (.int .i64 0)))]⟩ (z41 0 (seqX (fun s=>zfB m ⟨s.H,[]⟩) (zb4))) := by
 refine (tellX _ _ _ _ _ _ _ _ _).trans ?_
 kernel_rfl
noncomputable def zds (m : Nat) : List AV → RO|[t0]=>zbb m t0|_=>none
theorem zkn (m : Nat) : ∀ args X H',zds m args = some (X,H') → ACp Try.prog GG 74 args X := by
 intro args X H' h
 unfold zds at h
 split at h
 ·exact z0G MIX (by intro f e h;cases h) (f := 74) (c := z4E) Try.func74 rfl (by kernel_rfl) _ rfl Try.ntmps74 (Nat.le_of_ble_eq_true rfl) z4B h
 ·cases h
noncomputable def z6n : Code := (Try.f51.body).getD .skip
def z6o : Hint := (.two .n (.two (.two .n (.two .n (.two (.two .n .n) .n))) (.two .n (.join [1,7] (.two .n (.one (.lp [] [1,7,17,18,19] [1,4,7] (.two .n (.two (.two .n .n) (.join [1,7,17,18,19] (.one (.two .n (.join [1,7,9,17,18,19] (.join [1,7,9,17,18,19,58] .n (.two (.two .n .n) .n)) .n))) .n)))))) (.two .n .n)))))
noncomputable def z4z (m : Nat) : Env := [(32, .tell (z4O m)),(38, .tell (zdt m)),(62, .tell (zfg m)),(74, .tell (zds m)),(63, .tell (z7N m)),(75, .tell (zbq m))]
noncomputable abbrev zdg : KO (AV × List AObj) := z3Y Try.prog [.tmp 4]
noncomputable def zeM (m : Nat) (n0 : Nat) (kc : ASt → RO) (kx : KO (AV × List AObj)) (s : ASt) : RO := joinW Try.prog GG (z4z m) m ⟨67,[]⟩ (cdR (cdR (cdR (cdL (cdL (cdR (cdL (cdR (cdR (cdR z6n)))))))))) z6o.r.r.r.l.r.c.c.r.r.r s (backW n0 [1,7,17,18,19] [1,4,7] kc kx)
noncomputable def zmx (m : Nat) (n0 : Nat) (kc : ASt → RO) (kx : KO (AV × List AObj)) (s : ASt) : RO := joinW Try.prog GG (z4z m) m ⟨67,[]⟩ (cdR (cdR (cdR (cdL (cdL (cdR (cdL (cdR (cdR (cdR z6n)))))))))) z6o.r.r.r.l.r.c.c.r.r.r s (backW n0 [1,7,17,18,19] [1,4,7] kc kx)
noncomputable def zeH (m : Nat) (n0 : Nat) (kc : ASt → RO) (kx : KO (AV × List AObj)) (s : ASt) : RO := joinW Try.prog GG (z4z m) m ⟨67,[]⟩ (cdR (cdR (cdL (cdL (cdR (cdR (cdL (cdL (cdR (cdL (cdR (cdR (cdR z6n))))))))))))) z6o.r.r.r.l.r.c.c.r.r.l.c.r.r s (z41 1 (seqX (fun s=>zeM m n0 kc kx ⟨s.H,[(1,gt s.T 1),(7,gt s.T 7),(17,gt s.T 17),(18,gt s.T 18),(19,gt s.T 19)]⟩) (backW n0 [1,7,17,18,19] [1,4,7] kc kx)))
noncomputable def z4J (m : Nat) (n0 : Nat) (kc : ASt → RO) (kx : KO (AV × List AObj)) (s : ASt) : RO := joinW Try.prog GG (z4z m) m ⟨67,[]⟩ (cdR (cdL (cdR (cdL (cdL (cdR (cdR (cdL (cdL (cdR (cdL (cdR (cdR (cdR z6n)))))))))))))) z6o.r.r.r.l.r.c.c.r.r.l.c.r.l.r s (seqX (fun s=>zeH m n0 kc kx ⟨s.H,[(1,gt s.T 1),(7,gt s.T 7),(9,gt s.T 9),(17,gt s.T 17),(18,gt s.T 18),(19,gt s.T 19)]⟩) (z41 1 (seqX (fun s=>zmx m n0 kc kx ⟨s.H,[(1,gt s.T 1),(7,gt s.T 7),(17,gt s.T 17),(18,gt s.T 18),(19,gt s.T 19)]⟩) (backW n0 [1,7,17,18,19] [1,4,7] kc kx))))
noncomputable def zic (m : Nat) (s : ASt) : RO := joinW Try.prog GG (z4z m) m ⟨67,[]⟩ (cdR (cdR (cdR (cdR z6n)))) z6o.r.r.r.r s (zdg)
noncomputable def zi1 (m : Nat) (s : ASt) (kc : ASt → RO) (kx : KO (AV × List AObj)) : RO := bodyW Try.prog GG (z4z m) m ⟨67,[]⟩ (cdL (cdL (cdR (cdL (cdR (cdR (cdR z6n))))))) z6o.r.r.r.l.r.c.c [1,7,17,18,19] [1,4,7] s kc kx
noncomputable def zgP (m : Nat) (t0 t1 : AV) : RO := exec Try.prog GG (z4z m) m ⟨67,[]⟩ z6n z6o ⟨[],argsT 0 [t0,t1]⟩ (zdg)
theorem zeN (m : Nat) (n0 : Nat) (kc : ASt → RO) (kx : KO (AV × List AObj)) (H : List AObj) (t1 t7 t17 t18 t19 : AV) : zeM m n0 kc kx ⟨H,[(1,t1),(7,t7),(17,t17),(18,t18),(19,t19)]⟩ =
 binE none false false .add t19 (V (.int .i64 1)) fun t63 =>
 backE n0 H [(1,t1),(7,t7),(17,t17),(18,t18),(19,t63)] kc := by
 refine (z04 _ _ _ _ _ _ _ _ _).trans ?_
 kernel_rfl
theorem zey (m : Nat) (n0 : Nat) (kc : ASt → RO) (kx : KO (AV × List AObj)) (H : List AObj) (t1 t7 t9 t17 t18 t19 : AV) : zeH m n0 kc kx ⟨H,[(1,t1),(7,t7),(9,t9),(17,t17),(18,t18),(19,t19)]⟩ =
 z02 (some (0,1)) t9 fun t60 =>
 loadE 1 H t60 fun t61 =>
 tellE (zcc m (ro H t7) (ro H t61)) [(ro H t7),(ro H t61)] fun t62 =>
 zeM m n0 kc kx ⟨H,[(1,t1),(7,t62),(17,t17),(18,t18),(19,t19)]⟩ := by
 refine (z04 _ _ _ _ _ _ _ _ _).trans ?_
 kernel_rfl
theorem zee (m : Nat) (n0 : Nat) (kc : ASt → RO) (kx : KO (AV × List AObj)) (H : List AObj) (t1 t7 t9 t17 t18 t19 t58 : AV) : z4J m n0 kc kx ⟨H,[(1,t1),(7,t7),(9,t9),(17,t17),(18,t18),(19,t19),(58,t58)]⟩ =
 condE t58 (
  kx .ret ⟨H,[(1,t1),(4,(V (.bool false))),(7,t7)]⟩) (
  zeH m n0 kc kx ⟨H,[(1,t1),(7,t7),(9,t9),(17,t17),(18,t18),(19,t19)]⟩) := by
 refine (z04 _ _ _ _ _ _ _ _ _).trans ?_
 kernel_rfl
theorem zjH (m : Nat) (H : List AObj) (t1 t7 : AV) : zic m ⟨H,[(1,t1),(7,t7)]⟩ =
 tellE (z7A m (ro H t7) (ro H t1)) [(ro H t7),(ro H t1)] fun t66 =>
 tellK H (ro H t66) := by
 refine (z04 _ _ _ _ _ _ _ _ _).trans ?_
 kernel_rfl
theorem zjO (m : Nat) (H : List AObj) (t1 t7 t17 t18 t19 : AV) (kc : ASt → RO) (kx : KO (AV × List AObj)) : zi1 m ⟨H,[(1,t1),(7,t7),(17,t17),(18,t18),(19,t19)]⟩ kc kx =
 binE none false false .lss t19 t18 fun t20 =>
 condE t20 (
  idxSE 8 H t17 t19 fun t21 =>
  loadE 8 H t21 fun t22 =>
  z5a (some z0u) z00 H fun t9 H2 =>
  z1p 8 H2 t9 t22 fun H3 =>
  z02 (some (0,1)) t9 fun t23 =>
  loadE 1 H3 t23 fun t24 =>
  binE none false false .lss t24 (V (.int .i64 0)) fun t25 =>
  condE t25 (
   z4J m H.length kc kx ⟨H3,[(1,t1),(7,t7),(9,t9),(17,t17),(18,t18),(19,t19),(58,(V (.bool true)))]⟩) (
   z02 (some (0,1)) t9 fun t27 =>
   loadE 1 H3 t27 fun t28 =>
   binE none false false .geq t28 t1 fun t30 =>
   condE t30 (
   z4J m H.length kc kx ⟨H3,[(1,t1),(7,t7),(9,t9),(17,t17),(18,t18),(19,t19),(58,(V (.bool true)))]⟩) (
   z02 (some (0,1)) t9 fun t34 =>
   loadE 1 H3 t34 fun t35 =>
   tellE (zeY m (ro H3 t7) (ro H3 t35)) [(ro H3 t7),(ro H3 t35)] fun t36 =>
   condE t36 (
   z4J m H.length kc kx ⟨H3,[(1,t1),(7,t7),(9,t9),(17,t17),(18,t18),(19,t19),(58,(V (.bool true)))]⟩) (
   z02 (some (2,1)) t9 fun t39 =>
   loadE 1 H3 t39 fun t40 =>
   binE none false false .neq t40 (V (.int .i64 0)) fun t41 =>
   condE t41 (
   z02 (some (2,1)) t9 fun t43 =>
   loadE 1 H3 t43 fun t44 =>
   tellE (zh9 m (ro H3 t44)) [(ro H3 t44)] fun t45 =>
   unE .not t45 fun t46 =>
   condE t46 (
   z4J m H.length kc kx ⟨H3,[(1,t1),(7,t7),(9,t9),(17,t17),(18,t18),(19,t19),(58,(V (.bool true)))]⟩) (
   z02 (some (2,1)) t9 fun t50 =>
   loadE 1 H3 t50 fun t51 =>
   binE none false false .gtr t51 (V (.int .i64 2147483647)) fun t52 =>
   condE t52 (
   z4J m H.length kc kx ⟨H3,[(1,t1),(7,t7),(9,t9),(17,t17),(18,t18),(19,t19),(58,(V (.bool true)))]⟩) (
   loadE 8 H3 t9 fun t55 =>
   tellE (zbb m (ro H3 t55)) [(ro H3 t55)] fun t56 =>
   unE .not t56 fun t57 =>
   z4J m H.length kc kx ⟨H3,[(1,t1),(7,t7),(9,t9),(17,t17),(18,t18),(19,t19),(58,t57)]⟩))) (
   z02 (some (2,1)) t9 fun t50 =>
   loadE 1 H3 t50 fun t51 =>
   binE none false false .gtr t51 (V (.int .i64 2147483647)) fun t52 =>
   condE t52 (
   z4J m H.length kc kx ⟨H3,[(1,t1),(7,t7),(9,t9),(17,t17),(18,t18),(19,t19),(58,(V (.bool true)))]⟩) (
   loadE 8 H3 t9 fun t55 =>
   tellE (zbb m (ro H3 t55)) [(ro H3 t55)] fun t56 =>
   unE .not t56 fun t57 =>
   z4J m H.length kc kx ⟨H3,[(1,t1),(7,t7),(9,t9),(17,t17),(18,t18),(19,t19),(58,t57)]⟩)))))) (
  kx (.exit 0) ⟨H,[(1,t1),(4, .nil),(7,t7)]⟩) := by
 refine (z2r _ _ _ _ _ _ _ _ _ _ _ _).trans ?_
 kernel_rfl
theorem zmh (m : Nat) (t0 t1 : AV) : zgP m t0 t1 =
 tellE (z5b m (ro [] t1)) [(ro [] t1)] fun t12 =>
 extE t12 0 fun t13 =>
 extE t12 1 fun t14 =>
 binE none false false .neq t14 (V (.int .i64 0)) fun t16 =>
 condE t16 (
  tellK [] (ro [] (V (.bool false)))) (
  lenE false true [] t0 fun t18 =>
  iterC m (zi1 m) ⟨[],[(1,t1),(7,(V (.int .u64 0))),(17,t0),(18,t18),(19,(V (.int .i64 0)))]⟩ (z41 0 (seqX (fun s=>zic m ⟨s.H,[(1,gt s.T 1),(7,gt s.T 7)]⟩) (zdg)))) := by
 refine (tellX _ _ _ _ _ _ _ _ _).trans ?_
 kernel_rfl
noncomputable def zdu (m : Nat) : List AV → RO|[t0,t1]=>zgP m t0 t1|_=>none
theorem zio (m : Nat) : ∀ args X H',zdu m args = some (X,H') → ACp Try.prog GG 51 args X := by
 intro args X H' h
 unfold zdu at h
 split at h
 ·exact z0G MIX (by
  intro f e h
  simp only [z4z,Prod.mk.injEq,List.mem_cons,List.not_mem_nil,or_false] at h
  rcases h with ⟨rfl,rfl⟩|⟨rfl,rfl⟩|⟨rfl,rfl⟩|⟨rfl,rfl⟩|⟨rfl,rfl⟩|⟨rfl,rfl⟩
  ·exact z6f m
  ·exact zi3 m
  ·exact zjF m
  ·exact zkn m
  ·exact zcj m
  ·exact zgK m) (f := 51) (c := z6n) Try.func51 rfl (by kernel_rfl) _ rfl Try.ntmps51 (Nat.le_of_ble_eq_true rfl) z6o h
 ·cases h
noncomputable def zbf : Code := (Try.f76.body).getD .skip
def zb6 : Hint := (.two .n (.two (.two .n (.two (.two .n .n) .n)) (.two .n (.join [7] (.two .n (.one (.lp [] [7,17,18,19] [7] (.two .n (.two (.two .n .n) (.join [7,17,18,19] (.one (.two .n (.two .n (.two .n .n)))) .n)))))) (.two .n .n)))))
noncomputable def z8o (m : Nat) : Env := [(51, .tell (zdu m))]
noncomputable abbrev zdh : KO (AV × List AObj) := z3Y Try.prog [.tmp 4, .tmp 5, .tmp 6]
noncomputable def zes (m : Nat) (n0 : Nat) (kc : ASt → RO) (kx : KO (AV × List AObj)) (s : ASt) : RO := joinW Try.prog GG (z8o m) m ⟨34,[]⟩ (cdR (cdR (cdR (cdL (cdL (cdR (cdL (cdR (cdR (cdR zbf)))))))))) zb6.r.r.r.l.r.c.c.r.r.r s (backW n0 [7,17,18,19] [7] kc kx)
noncomputable def zi2 (m : Nat) (s : ASt) : RO := joinW Try.prog GG (z8o m) m ⟨34,[]⟩ (cdR (cdR (cdR (cdR zbf)))) zb6.r.r.r.r s (zdh)
noncomputable def zif (m : Nat) (s : ASt) (kc : ASt → RO) (kx : KO (AV × List AObj)) : RO := bodyW Try.prog GG (z8o m) m ⟨34,[]⟩ (cdL (cdL (cdR (cdL (cdR (cdR (cdR zbf))))))) zb6.r.r.r.l.r.c.c [7,17,18,19] [7] s kc kx
noncomputable def zgI (m : Nat) (t0 t1 : AV) : RO := exec Try.prog GG (z8o m) m ⟨34,[]⟩ zbf zb6 ⟨[],argsT 0 [t0,t1]⟩ (zdh)
theorem zeK (m : Nat) (n0 : Nat) (kc : ASt → RO) (kx : KO (AV × List AObj)) (H : List AObj) (t7 t17 t18 t19 : AV) : zes m n0 kc kx ⟨H,[(7,t7),(17,t17),(18,t18),(19,t19)]⟩ =
 binE none false false .add t19 (V (.int .i64 1)) fun t29 =>
 backE n0 H [(7,t7),(17,t17),(18,t18),(19,t29)] kc := by
 refine (z04 _ _ _ _ _ _ _ _ _).trans ?_
 kernel_rfl
theorem zjb (m : Nat) (H : List AObj) (t7 : AV) : zi2 m ⟨H,[(7,t7)]⟩ =
 z02 (some (2,1)) t7 fun t30 =>
 loadE 1 H t30 fun t31 =>
 z02 (some (3,1)) t7 fun t32 =>
 loadE 1 H t32 fun t33 =>
 tellK H (ro H (TU [noT t31,noT t33,noT (V (.int .i64 0))])) := by
 refine (z04 _ _ _ _ _ _ _ _ _).trans ?_
 kernel_rfl
theorem zjQ (m : Nat) (H : List AObj) (t7 t17 t18 t19 : AV) (kc : ASt → RO) (kx : KO (AV × List AObj)) : zif m ⟨H,[(7,t7),(17,t17),(18,t18),(19,t19)]⟩ kc kx =
 binE none false false .lss t19 t18 fun t20 =>
 condE t20 (
  idxSE 8 H t17 t19 fun t21 =>
  loadE 8 H t21 fun t22 =>
  z5a (some z0u) z00 H fun t9 H2 =>
  z1p 8 H2 t9 t22 fun H3 =>
  z02 (some (2,1)) t9 fun t23 =>
  loadE 1 H3 t23 fun t24 =>
  z02 (some (2,1)) t7 fun t25 =>
  loadE 1 H3 t25 fun t26 =>
  binE none false false .gtr t24 t26 fun t27 =>
  condE t27 (
   loadE 8 H3 t9 fun t28 =>
   z1p 8 H3 t7 t28 fun H4 =>
   zes m H.length kc kx ⟨H4,[(7,t7),(17,t17),(18,t18),(19,t19)]⟩) (
   zes m H.length kc kx ⟨H3,[(7,t7),(17,t17),(18,t18),(19,t19)]⟩)) (
  kx (.exit 0) ⟨H,[(7,t7)]⟩) := by
 refine (z2r _ _ _ _ _ _ _ _ _ _ _ _).trans ?_
 kernel_rfl
theorem zmb (m : Nat) (t0 t1 : AV) : zgI m t0 t1 =
 tellE (zgP m (ro [] t0) (ro [] t1)) [(ro [] t0),(ro [] t1)] fun t12 =>
 unE .not t12 fun t13 =>
 condE t13 (
  tellK [] (ro [] (TU [noT (V (.int .i64 0)),noT (V (.int .i64 0)),noT (V (.int .i64 1))]))) (
  idxSE 8 [] t0 (V (.int .i64 0)) fun t15 =>
  loadE 8 [] t15 fun t16 =>
  z5a (some z0u) z00 [] fun t7 H1 =>
  z1p 8 H1 t7 t16 fun H2 =>
  lenE false true H2 t0 fun t18 =>
  iterC m (zif m) ⟨H2,[(7,t7),(17,t0),(18,t18),(19,(V (.int .i64 0)))]⟩ (z41 0 (seqX (fun s=>zi2 m ⟨s.H,[(7,gt s.T 7)]⟩) (zdh)))) := by
 refine (tellX _ _ _ _ _ _ _ _ _).trans ?_
 kernel_rfl
noncomputable def zge (m : Nat) : List AV → RO|[t0,t1]=>zgI m t0 t1|_=>none
theorem zm3 (m : Nat) : ∀ args X H',zge m args = some (X,H') → ACp Try.prog GG 76 args X := by
 intro args X H' h
 unfold zge at h
 split at h
 ·exact z0G MIX (by
  intro f e h
  simp only [z8o,Prod.mk.injEq,List.mem_cons,List.not_mem_nil,or_false] at h
  obtain ⟨rfl,rfl⟩ := h
  ·exact zio m) (f := 76) (c := zbf) Try.func76 rfl (by kernel_rfl) _ rfl Try.ntmps76 (Nat.le_of_ble_eq_true rfl) zb6 h
 ·cases h
end Go.Proofs.Ytaaogcnjfkgnoaa

namespace Go.Proofs.Ytaaogcnjfkgnoaa
open Go.RowKit
def z60 : TypeId := 9
def z4G : TypeId := 107
def zib : List AV := [(V (.map none)),(V (.slice none 0 0))]
def ziq : List (Nat × Nat) := [(0,1),(1,1)]
noncomputable def zhc : Code := (Try.f26.body).getD .skip
def zha : Hint := (.two .n (.gh (0,1,z60,1) [0] .n .n))
noncomputable def zg9 (m : Nat) : Env := []
noncomputable abbrev zjP (n0 : Nat) : KO (AV × List AObj) := znr Try.prog n0 [.tmp 0]
noncomputable def zks (m : Nat) (n0k : Nat) (s : ASt) : RO := joinW Try.prog GG (zg9 m) m ⟨4,[]⟩ (cdR (cdR zhc)) zha.r.r s (zjP n0k)
noncomputable def zhE (m : Nat) (H : List AObj) : RO := exec Try.prog GG (zg9 m) m ⟨4,[]⟩ zhc zha ⟨H,argsT 0 []⟩ (zjP H.length)
theorem zly (m : Nat) (n0k : Nat) (H : List AObj) (t0 : AV) : zks m n0k ⟨H,[(0,t0)]⟩ =
 openK H (ro H t0) := by
 refine (z04 _ _ _ _ _ _ _ _ _).trans ?_
 kernel_rfl
theorem zom (m : Nat) (H : List AObj) : zhE m H =
 makeE (mapT Try.prog 105) H fun t1 H2 =>
 z4r (some ziq) (some zib) [(0,t1)] fun t2 =>
 boxE z4G H2 t2 fun t3 H3 =>
 zks m H.length (ghS 0 1 z60 1 ⟨H3,[(0,t3)]⟩) := by
 refine (openX Try.prog GG (zg9 m) m ⟨4,[]⟩ H.length zhc zha ⟨H,argsT 0 []⟩ [.tmp 0]).trans ?_
 kernel_rfl
noncomputable def zgN (m : Nat) : List AV → List AObj → RO|[],H=>zhE m H|_,_=>none
theorem zkM (m : Nat) : ∀ args H X H',zgN m args H = some (X,H') → AC Try.prog GG 26 args H (Is X H') := by
 intro args H X H' h
 unfold zgN at h
 split at h
 ·exact znz (n := H.length) MIX (by intro f e h;cases h) (f := 26) (c := zhc) Try.func26 rfl (by kernel_rfl) _ rfl Try.ntmps26 (Nat.le_of_ble_eq_true rfl) zha h
 ·cases h
noncomputable def zbJ : Code := (Try.f28.body).getD .skip
def zbT : Hint := (.two .n (.two (.two .n (.two .n (.two (.two .n .n) .n))) (.two (.two .n (.two (.two .n .n) .n)) (.two .n (.two .n (.two .n .n))))))
noncomputable def zdG (m : Nat) : Env := []
noncomputable abbrev ziM (n0 : Nat) : KO (AV × List AObj) := z7z Try.prog n0 [.tmp 4, .tmp 5]
noncomputable def z8f (m : Nat) (t0 t1 : AV) (H : List AObj) : RO := exec Try.prog GG (zdG m) m ⟨50,[]⟩ zbJ zbT ⟨H,argsT 0 [t0,t1]⟩ (ziM H.length)
theorem zjL (m : Nat) (t0 t1 : AV) (H : List AObj) : z8f m t0 t1 H =
 nilE t0 fun t10 =>
 z02 (some (0,1)) t10 fun t11 =>
 loadE 1 H t11 fun t12 =>
 lookE Try.prog 105 H t12 t1 true fun t14 =>
 extE t14 0 fun t15 =>
 extE t14 1 fun t16 =>
 condE t16 (
  keepK H.length H (ro H (TU [noT t15,noT (V (.int .i64 0))]))) (
  nilE t0 fun t20 =>
  z02 (some (1,1)) t20 fun t21 =>
  loadE 1 H t21 fun t22 =>
  lenE false true H t22 fun t23 =>
  binE none false false .geq t23 (V (.int .i64 65536)) fun t24 =>
  condE t24 (
   keepK H.length H (ro H (TU [noT (V (.int .i64 0)),noT (V (.int .i64 5))]))) (
   nilE t0 fun t27 =>
   z02 (some (1,1)) t27 fun t28 =>
   loadE 1 H t28 fun t29 =>
   z1g (some (z60,1)) 1 [(0,t1)] fun t31 =>
   appE (some (z60,1)) H t29 t31 fun t32 H2 =>
   nilE t0 fun t33 =>
   z02 (some (1,1)) t33 fun t34 =>
   z1p 1 H2 t34 t32 fun H3 =>
   nilE t0 fun t36 =>
   z02 (some (0,1)) t36 fun t37 =>
   loadE 1 H3 t37 fun t38 =>
   nilE t0 fun t41 =>
   z02 (some (1,1)) t41 fun t42 =>
   loadE 1 H3 t42 fun t43 =>
   lenE false true H3 t43 fun t44 =>
   putME Try.prog 105 H3 t38 t1 t44 fun H4 =>
   nilE t0 fun t46 =>
   z02 (some (1,1)) t46 fun t47 =>
   loadE 1 H4 t47 fun t48 =>
   lenE false true H4 t48 fun t49 =>
   keepK H.length H4 (ro H4 (TU [noT t49,noT (V (.int .i64 0))])))) := by
 refine (keepX Try.prog GG (zdG m) m ⟨50,[]⟩ H.length zbJ zbT ⟨H,argsT 0 [t0,t1]⟩ [.tmp 4, .tmp 5]).trans ?_
 kernel_rfl
noncomputable def z5G (m : Nat) : List AV → List AObj → RO|[t0,t1],H=>z8f m t0 t1 H|_,_=>none
theorem z8M (m : Nat) : ∀ args H X H',z5G m args H = some (X,H') → AC Try.prog GG 28 args H (Is X H') := by
 intro args H X H' h
 unfold z5G at h
 split at h
 ·exact z2K MIX (by intro f e h;cases h) (f := 28) (c := zbJ) Try.func28 rfl (by kernel_rfl) _ rfl Try.ntmps28 (Nat.le_of_ble_eq_true rfl) zbT h
 ·cases h
noncomputable def z9D : Code := (Try.f16.body).getD .skip
def z9u : Hint := (.two .n (.two .n .n))
noncomputable def zb5 (m : Nat) : Env := []
noncomputable abbrev zfW (n0 : Nat) : KO (AV × List AObj) := z7z Try.prog n0 [.tmp 2]
noncomputable def z68 (m : Nat) (t0 : AV) (H : List AObj) : RO := exec Try.prog GG (zb5 m) m ⟨8,[]⟩ z9D z9u ⟨H,argsT 0 [t0]⟩ (zfW H.length)
theorem zgt (m : Nat) (t0 : AV) (H : List AObj) : z68 m t0 H =
 nilE t0 fun t4 =>
 z02 (some (1,1)) t4 fun t5 =>
 loadE 1 H t5 fun t6 =>
 lenE false true H t6 fun t7 =>
 keepK H.length H (ro H t7) := by
 refine (keepX Try.prog GG (zb5 m) m ⟨8,[]⟩ H.length z9D z9u ⟨H,argsT 0 [t0]⟩ [.tmp 2]).trans ?_
 kernel_rfl
noncomputable def z9F (m : Nat) : List AV → List AObj → RO|[t0],H=>z68 m t0 H|_,_=>none
theorem zgM (m : Nat) : ∀ args H X H',z9F m args H = some (X,H') → AC Try.prog GG 16 args H (Is X H') := by
 intro args H X H' h
 unfold z9F at h
 split at h
 ·exact z2K MIX (by intro f e h;cases h) (f := 16) (c := z9D) Try.func16 rfl (by kernel_rfl) _ rfl Try.ntmps16 (Nat.le_of_ble_eq_true rfl) z9u h
 ·cases h
end Go.Proofs.Ytaaogcnjfkgnoaa

namespace Go.Proofs.Ytaaogcnjfkgnoaa
open Go.RowKit
def zhB : TypeId := 117
def z6d : TypeId := 119
def zhF : List AV := [(V (.bool false)),(V (.bool false)),(V (.bool false)),(V (.bool false)),(V (.bool false)),(V (.bool false)),(V (.bool false)),(V (.bool false)),(V (.bool false)),(V (.bool false)),(V (.bool false)),(V (.bool false)),(V (.bool false)),(V (.bool false)),(V (.bool false)),(V (.bool false)),(V (.bool false)),(V (.bool false)),(V (.bool false)),(V (.bool false)),(V (.bool false)),(V (.bool false)),(V (.bool false)),(V (.bool false)),(V (.bool false)),(V (.bool false)),(V (.bool false)),(V (.bool false)),(V (.bool false)),(V (.bool false)),(V (.bool false)),(V (.bool false)),(V (.bool false)),(V (.bool false)),(V (.bool false)),(V (.bool false)),(V (.bool false)),(V (.bool false)),(V (.bool false)),(V (.bool false)),(V (.bool false)),(V (.bool false)),(V (.bool false)),(V (.bool false)),(V (.bool false)),(V (.bool false)),(V (.bool false)),(V (.bool false)),(V (.bool false)),(V (.bool false)),(V (.bool false)),(V (.bool false)),(V (.bool false)),(V (.bool false)),(V (.bool false)),(V (.bool false)),(V (.bool false)),(V (.bool false)),(V (.bool false)),(V (.bool false)),(V (.bool false)),(V (.bool false)),(V (.bool false)),(V (.bool false))]
def zj9 : List AV := [(V (.int .i64 0)),(V (.bool false)),(V (.bool false)),(V (.bool false)),(V (.bool false)),(V (.bool false)),(V (.bool false)),(V (.bool false)),(V (.bool false)),(V (.bool false)),(V (.bool false)),(V (.bool false)),(V (.bool false)),(V (.bool false)),(V (.bool false)),(V (.bool false)),(V (.bool false)),(V (.bool false)),(V (.bool false)),(V (.bool false)),(V (.bool false)),(V (.bool false)),(V (.bool false)),(V (.bool false)),(V (.bool false)),(V (.bool false)),(V (.bool false)),(V (.bool false)),(V (.bool false)),(V (.bool false)),(V (.bool false)),(V (.bool false)),(V (.bool false)),(V (.bool false)),(V (.bool false)),(V (.bool false)),(V (.bool false)),(V (.bool false)),(V (.bool false)),(V (.bool false)),(V (.bool false)),(V (.bool false)),(V (.bool false)),(V (.bool false)),(V (.bool false)),(V (.bool false)),(V (.bool false)),(V (.bool false)),(V (.bool false)),(V (.bool false)),(V (.bool false)),(V (.bool false)),(V (.bool false)),(V (.bool false)),(V (.bool false)),(V (.bool false)),(V (.bool false)),(V (.bool false)),(V (.bool false)),(V (.bool false)),(V (.bool false)),(V (.bool false)),(V (.bool false)),(V (.bool false)),(V (.bool false)),(V (.map none)),(V (.slice none 0 0))]
def zk4 : List (Nat × Nat) := [(0,1),(1,64),(65,1),(66,1)]
noncomputable def zdi : Code := (Try.f57.body).getD .skip
def zdv : Hint := (.two .n (.two .n .n))
noncomputable def zeJ (m : Nat) : Env := []
noncomputable abbrev zjx (n0 : Nat) : KO (AV × List AObj) := z7z Try.prog n0 [.tmp 4]
noncomputable def z9H (m : Nat) (t0 t1 : AV) (H : List AObj) : RO := exec Try.prog GG (zeJ m) m ⟨15,[]⟩ zdi zdv ⟨H,argsT 0 [t0,t1]⟩ (zjx H.length)
theorem zk9 (m : Nat) (t0 t1 : AV) (H : List AObj) : z9H m t0 t1 H =
 binE none false false .geq t1 (V (.int .i64 0)) fun t6 =>
 condE t6 (
  nilE t0 fun t10 =>
  z02 (some (0,1)) t10 fun t11 =>
  loadE 1 H t11 fun t12 =>
  binE none false false .lss t1 t12 fun t13 =>
  keepK H.length H (ro H t13)) (
  keepK H.length H (ro H (V (.bool false)))) := by
 refine (keepX Try.prog GG (zeJ m) m ⟨15,[]⟩ H.length zdi zdv ⟨H,argsT 0 [t0,t1]⟩ [.tmp 4]).trans ?_
 kernel_rfl
noncomputable def z8Q (m : Nat) : List AV → List AObj → RO|[t0,t1],H=>z9H m t0 t1 H|_,_=>none
theorem zbV (m : Nat) : ∀ args H X H',z8Q m args H = some (X,H') → AC Try.prog GG 57 args H (Is X H') := by
 intro args H X H' h
 unfold z8Q at h
 split at h
 ·exact z2K MIX (by intro f e h;cases h) (f := 57) (c := zdi) Try.func57 rfl (by kernel_rfl) _ rfl Try.ntmps57 (Nat.le_of_ble_eq_true rfl) zdv h
 ·cases h
noncomputable def zbM : Code := (Try.f59.body).getD .skip
def zbX : Hint := (.two .n (.two .n .n))
noncomputable def zad (m : Nat) : Env := [(57, .keep (z8Q m))]
noncomputable abbrev ziz (n0 : Nat) : KO (AV × List AObj) := z7z Try.prog n0 [.tmp 4]
noncomputable def za7 (m : Nat) (t0 t1 : AV) (H : List AObj) : RO := exec Try.prog GG (zad m) m ⟨16,[]⟩ zbM zbX ⟨H,argsT 0 [t0,t1]⟩ (ziz H.length)
theorem zjd (m : Nat) (t0 t1 : AV) (H : List AObj) : za7 m t0 t1 H =
 keepE (z9H m (ro H t0) (ro H t1) H) fun t7 H2 =>
 condE t7 (
  nilE t0 fun t11 =>
  z02 (some (1,66)) t11 fun t12 =>
  idxPE 64 1 t12 t1 fun t13 =>
  loadE 1 H2 t13 fun t14 =>
  keepK H.length H2 (ro H2 t14)) (
  keepK H.length H2 (ro H2 (V (.bool false)))) := by
 refine (keepX Try.prog GG (zad m) m ⟨16,[]⟩ H.length zbM zbX ⟨H,argsT 0 [t0,t1]⟩ [.tmp 4]).trans ?_
 kernel_rfl
noncomputable def zbO (m : Nat) : List AV → List AObj → RO|[t0,t1],H=>za7 m t0 t1 H|_,_=>none
theorem zjJ (m : Nat) : ∀ args H X H',zbO m args H = some (X,H') → AC Try.prog GG 59 args H (Is X H') := by
 intro args H X H' h
 unfold zbO at h
 split at h
 ·exact z2K MIX (by
  intro f e h
  simp only [zad,Prod.mk.injEq,List.mem_cons,List.not_mem_nil,or_false] at h
  obtain ⟨rfl,rfl⟩ := h
  ·exact zbV m) (f := 59) (c := zbM) Try.func59 rfl (by kernel_rfl) _ rfl Try.ntmps59 (Nat.le_of_ble_eq_true rfl) zbX h
 ·cases h
noncomputable def zbN : Code := (Try.f36.body).getD .skip
def zbQ : Hint := (.two .n (.two .n .n))
noncomputable def zdP (m : Nat) : Env := []
noncomputable abbrev zir (n0 : Nat) : KO (AV × List AObj) := z7z Try.prog n0 [.tmp 4]
noncomputable def z86 (m : Nat) (t0 t1 : AV) (H : List AObj) : RO := exec Try.prog GG (zdP m) m ⟨12,[]⟩ zbN zbQ ⟨H,argsT 0 [t0,t1]⟩ (zir H.length)
theorem zjq (m : Nat) (t0 t1 : AV) (H : List AObj) : z86 m t0 t1 H =
 boxE z01 H t1 fun t3 H2 =>
 nilE t0 fun t6 =>
 z02 (some (65,1)) t6 fun t7 =>
 loadE 1 H2 t7 fun t8 =>
 loadE 7 H2 t3 fun t9 =>
 lookE Try.prog 116 H2 t8 t9 false fun t10 =>
 binE none false false .gtr t10 (V (.int .i64 0)) fun t11 =>
 keepK H.length H2 (ro H2 t11) := by
 refine (keepX Try.prog GG (zdP m) m ⟨12,[]⟩ H.length zbN zbQ ⟨H,argsT 0 [t0,t1]⟩ [.tmp 4]).trans ?_
 kernel_rfl
noncomputable def z5H (m : Nat) : List AV → List AObj → RO|[t0,t1],H=>z86 m t0 t1 H|_,_=>none
theorem z8X (m : Nat) : ∀ args H X H',z5H m args H = some (X,H') → AC Try.prog GG 36 args H (Is X H') := by
 intro args H X H' h
 unfold z5H at h
 split at h
 ·exact z2K MIX (by intro f e h;cases h) (f := 36) (c := zbN) Try.func36 rfl (by kernel_rfl) _ rfl Try.ntmps36 (Nat.le_of_ble_eq_true rfl) zbQ h
 ·cases h
noncomputable def za2 : Code := (Try.f27.body).getD .skip
def z9Y : Hint := (.two .n (.join [0,1] (.join [0,1,14] .n (.two (.two .n .n) .n)) (.gh (6,66,z01,5) [1,6] .n (.join [6] (.two .n (.one (.lp [] [6,19,20,21] [4,5,6] (.two .n (.two (.two .n .n) (.two (.one (.two .n (.two (.two .n (.two (.two .n .n) .n)) .n))) .n)))))) (.two .n .n)))))
noncomputable def z6e (m : Nat) : Env := [(57, .keep (z8Q m))]
noncomputable abbrev z9I (n0 : Nat) : KO (AV × List AObj) := znr Try.prog n0 [.tmp 4, .tmp 5]
noncomputable def zkJ (m : Nat) (n0k : Nat) (s : ASt) : RO := joinW Try.prog GG (z6e m) m ⟨36,[]⟩ (cdR (cdR (cdR (cdR za2)))) z9Y.r.r.r.r s (z9I n0k)
noncomputable def zhM (m : Nat) (s : ASt) (kc : ASt → RO) (kx : KO (AV × List AObj)) : RO := bodyW Try.prog GG (z6e m) m ⟨36,[]⟩ (cdL (cdL (cdR (cdL (cdR (cdR (cdR za2))))))) z9Y.r.r.r.l.r.c.c [6,19,20,21] [4,5,6] s kc kx
noncomputable def zhf (m : Nat) (n0k : Nat) (s : ASt) : RO := joinW Try.prog GG (z6e m) m ⟨36,[]⟩ (cdR (cdR (cdR za2))) z9Y.r.r.r s (z9I n0k)
noncomputable def zhi (m : Nat) (n0k : Nat) (s : ASt) : RO := joinW Try.prog GG (z6e m) m ⟨36,[]⟩ (cdR (cdR za2)) z9Y.r.r s (z9I n0k)
noncomputable def zhK (m : Nat) (n0k : Nat) (s : ASt) : RO := joinW Try.prog GG (z6e m) m ⟨36,[]⟩ (cdR (cdL (cdR za2))) z9Y.r.l.r s (seqX (fun s=>zhi m n0k ⟨s.H,[(0,gt s.T 0),(1,gt s.T 1)]⟩) (z9I n0k))
noncomputable def zeA (m : Nat) (t0 t1 : AV) (H : List AObj) : RO := exec Try.prog GG (z6e m) m ⟨36,[]⟩ za2 z9Y ⟨H,argsT 0 [t0,t1]⟩ (z9I H.length)
theorem zlv (m : Nat) (n0k : Nat) (H : List AObj) (t6 : AV) : zkJ m n0k ⟨H,[(6,t6)]⟩ =
 openK H (ro H (TU [noT t6,noT (V (.int .i64 0))])) := by
 refine (z04 _ _ _ _ _ _ _ _ _).trans ?_
 kernel_rfl
theorem zdk (m : Nat) (H : List AObj) (t6 t19 t20 t21 : AV) (kc : ASt → RO) (kx : KO (AV × List AObj)) : zhM m ⟨H,[(6,t6),(19,t19),(20,t20),(21,t21)]⟩ kc kx =
 binE none false false .lss t21 t20 fun t22 =>
 condE t22 (
  idxSE 1 H t19 t21 fun t23 =>
  loadE 1 H t23 fun t24 =>
  keepE (z9H m (ro H t6) (ro H t24) H) fun t27 H2 =>
  unE .not t27 fun t28 =>
  condE t28 (
   kx .ret ⟨H2,[(4,(V (.pointer none))),(5,(V (.int .i64 1))),(6,t6)]⟩) (
   nilE t6 fun t31 =>
   z02 (some (1,66)) t31 fun t32 =>
   idxPE 64 1 t32 t24 fun t33 =>
   z1p 1 H2 t33 (V (.bool true)) fun H3 =>
   binE none false false .add t21 (V (.int .i64 1)) fun t34 =>
   backE H.length H3 [(6,t6),(19,t19),(20,t20),(21,t34)] kc)) (
  kx (.exit 0) ⟨H,[(4, .nil),(5, .nil),(6,t6)]⟩) := by
 refine (z2r _ _ _ _ _ _ _ _ _ _ _ _).trans ?_
 kernel_rfl
theorem zh0 (m : Nat) (n0k : Nat) (H : List AObj) (t1 t6 : AV) : zhf m n0k ⟨H,[(1,t1),(6,t6)]⟩ =
 lenE false true H t1 fun t20 =>
 iterC m (zhM m) ⟨H,[(6,t6),(19,t1),(20,t20),(21,(V (.int .i64 0)))]⟩ (z41 0 (seqX (fun s=>zkJ m n0k ⟨s.H,[(6,gt s.T 6)]⟩) (z9I n0k))) := by
 refine (z04 _ _ _ _ _ _ _ _ _).trans ?_
 kernel_rfl
theorem zlg (m : Nat) (n0k : Nat) (H : List AObj) (t0 t1 : AV) : zhi m n0k ⟨H,[(0,t0),(1,t1)]⟩ =
 makeE (mapT Try.prog 116) H fun t16 H2 =>
 z4r (some zk4) (some zj9) [(0,t0),(2,t16)] fun t17 =>
 boxE z6d H2 t17 fun t18 H3 =>
 zhf m n0k (ghS 6 66 z01 5 ⟨H3,[(1,t1),(6,t18)]⟩) := by
 refine (z04 _ _ _ _ _ _ _ _ _).trans ?_
 kernel_rfl
theorem zlb (m : Nat) (n0k : Nat) (H : List AObj) (t0 t1 t14 : AV) : zhK m n0k ⟨H,[(0,t0),(1,t1),(14,t14)]⟩ =
 condE t14 (
  openK H (ro H (TU [noT (V (.pointer none)),noT (V (.int .i64 1))]))) (
  zhi m n0k ⟨H,[(0,t0),(1,t1)]⟩) := by
 refine (z04 _ _ _ _ _ _ _ _ _).trans ?_
 kernel_rfl
theorem zoE (m : Nat) (t0 t1 : AV) (H : List AObj) : zeA m t0 t1 H =
 binE none false false .lss t0 (V (.int .i64 1)) fun t10 =>
 condE t10 (
  zhK m H.length ⟨H,[(0,t0),(1,t1),(14,(V (.bool true)))]⟩) (
  binE none false false .gtr t0 (V (.int .i64 64)) fun t13 =>
  zhK m H.length ⟨H,[(0,t0),(1,t1),(14,t13)]⟩) := by
 refine (openX Try.prog GG (z6e m) m ⟨36,[]⟩ H.length za2 z9Y ⟨H,argsT 0 [t0,t1]⟩ [.tmp 4, .tmp 5]).trans ?_
 kernel_rfl
noncomputable def zgp (m : Nat) : List AV → List AObj → RO|[t0,t1],H=>zeA m t0 t1 H|_,_=>none
theorem zkR (m : Nat) : ∀ args H X H',zgp m args H = some (X,H') → AC Try.prog GG 27 args H (Is X H') := by
 intro args H X H' h
 unfold zgp at h
 split at h
 ·exact znz (n := H.length) MIX (by
  intro f e h
  simp only [z6e,Prod.mk.injEq,List.mem_cons,List.not_mem_nil,or_false] at h
  obtain ⟨rfl,rfl⟩ := h
  ·exact zbV m) (f := 27) (c := za2) Try.func27 rfl (by kernel_rfl) _ rfl Try.ntmps27 (Nat.le_of_ble_eq_true rfl) z9Y h
 ·cases h
noncomputable def z7x : Code := (Try.f30.body).getD .skip
def z7B : Hint := (.two .n (.join [0,5] (.one (.two .n (.two (.two .n .n) (.join [0,5,12] .n (.two (.two .n .n) (.two .n (.two (.two .n .n) (.two .n (.two (.two .n .n) .n))))))))) (.two .n (.two .n (.two .n .n)))))
noncomputable def z5x (m : Nat) : Env := [(57, .keep (z8Q m)),(59, .keep (zbO m)),(36, .keep (z5H m))]
noncomputable abbrev zaj (n0 : Nat) : KO (AV × List AObj) := z7z Try.prog n0 [.tmp 6]
noncomputable def z9b (m : Nat) (n0k : Nat) (s : ASt) : RO := joinW Try.prog GG (z5x m) m ⟨60,[]⟩ (cdR (cdR z7x)) z7B.r.r s (zaj n0k)
noncomputable def z67 (m : Nat) (n0k : Nat) (s : ASt) : RO := joinW Try.prog GG (z5x m) m ⟨60,[]⟩ (cdR (cdR (cdR (cdL (cdL (cdR z7x)))))) z7B.r.l.c.r.r.r s (z41 0 (seqX (fun s=>z9b m n0k ⟨s.H,[(0,gt s.T 0),(5,gt s.T 5)]⟩) (zaj n0k)))
noncomputable def z89 (m : Nat) (t0 t1 t2 : AV) (H : List AObj) : RO := exec Try.prog GG (z5x m) m ⟨60,[]⟩ z7x z7B ⟨H,argsT 0 [t0,t1,t2]⟩ (zaj H.length)
theorem zgB (m : Nat) (n0k : Nat) (H : List AObj) (t0 t5 : AV) : z9b m n0k ⟨H,[(0,t0),(5,t5)]⟩ =
 nilE t0 fun t42 =>
 z02 (some (66,1)) t42 fun t43 =>
 loadE 1 H t43 fun t44 =>
 loadE 7 H t5 fun t45 =>
 z1g (some (z01,5)) 1 [(0,t45)] fun t46 =>
 appE (some (z01,5)) H t44 t46 fun t47 H2 =>
 nilE t0 fun t48 =>
 z02 (some (66,1)) t48 fun t49 =>
 z1p 1 H2 t49 t47 fun H3 =>
 nilE t0 fun t51 =>
 z02 (some (65,1)) t51 fun t52 =>
 loadE 1 H3 t52 fun t53 =>
 loadE 7 H3 t5 fun t54 =>
 nilE t0 fun t56 =>
 z02 (some (66,1)) t56 fun t57 =>
 loadE 1 H3 t57 fun t58 =>
 lenE false true H3 t58 fun t59 =>
 putME Try.prog 116 H3 t53 t54 t59 fun H4 =>
 keepK n0k H4 (ro H4 (V (.int .i64 0))) := by
 refine (z04 _ _ _ _ _ _ _ _ _).trans ?_
 kernel_rfl
theorem zgA (m : Nat) (n0k : Nat) (H : List AObj) (t0 t5 t12 : AV) : z67 m n0k ⟨H,[(0,t0),(5,t5),(12,t12)]⟩ =
 condE t12 (
  keepK n0k H (ro H (V (.int .i64 19)))) (
  loadE 7 H t5 fun t31 =>
  keepE (z86 m (ro H t0) (ro H t31) H) fun t32 H2 =>
  condE t32 (
   keepK n0k H2 (ro H2 (V (.int .i64 0)))) (
   nilE t0 fun t35 =>
   z02 (some (66,1)) t35 fun t36 =>
   loadE 1 H2 t36 fun t37 =>
   lenE false true H2 t37 fun t38 =>
   binE none false false .geq t38 (V (.int .i64 65536)) fun t39 =>
   condE t39 (
    keepK n0k H2 (ro H2 (V (.int .i64 5)))) (
    z9b m n0k ⟨H2,[(0,t0),(5,t5)]⟩))) := by
 refine (z04 _ _ _ _ _ _ _ _ _).trans ?_
 kernel_rfl
theorem zk3 (m : Nat) (t0 t1 t2 : AV) (H : List AObj) : z89 m t0 t1 t2 H =
 boxE z01 H t2 fun t5 H2 =>
 keepE (z9H m (ro H2 t0) (ro H2 t1) H2) fun t10 H3 =>
 unE .not t10 fun t11 =>
 condE t11 (
  keepK H.length H3 (ro H3 (V (.int .i64 4)))) (
  z02 (some (0,1)) t5 fun t13 =>
  loadE 1 H3 t13 fun t14 =>
  binE none false false .neq t14 t1 fun t16 =>
  condE t16 (
   keepE (za7 m (ro H3 t0) (ro H3 t1) H3) fun t20 H4 =>
   condE t20 (
   z02 (some (0,1)) t5 fun t23 =>
   loadE 1 H4 t23 fun t24 =>
   keepE (za7 m (ro H4 t0) (ro H4 t24) H4) fun t25 H5 =>
   unE .not t25 fun t27 =>
   z67 m H.length ⟨H5,[(0,t0),(5,t5),(12,t27)]⟩) (
   z67 m H.length ⟨H4,[(0,t0),(5,t5),(12,(V (.bool true)))]⟩)) (
   z67 m H.length ⟨H3,[(0,t0),(5,t5),(12,(V (.bool false)))]⟩)) := by
 refine (keepX Try.prog GG (z5x m) m ⟨60,[]⟩ H.length z7x z7B ⟨H,argsT 0 [t0,t1,t2]⟩ [.tmp 6]).trans ?_
 kernel_rfl
noncomputable def z9S (m : Nat) : List AV → List AObj → RO|[t0,t1,t2],H=>z89 m t0 t1 t2 H|_,_=>none
theorem zec (m : Nat) : ∀ args H X H',z9S m args H = some (X,H') → AC Try.prog GG 30 args H (Is X H') := by
 intro args H X H' h
 unfold z9S at h
 split at h
 ·exact z2K MIX (by
  intro f e h
  simp only [z5x,Prod.mk.injEq,List.mem_cons,List.not_mem_nil,or_false] at h
  rcases h with ⟨rfl,rfl⟩|⟨rfl,rfl⟩|⟨rfl,rfl⟩
  ·exact zbV m
  ·exact zjJ m
  ·exact z8X m) (f := 30) (c := z7x) Try.func30 rfl (by kernel_rfl) _ rfl Try.ntmps30 (Nat.le_of_ble_eq_true rfl) z7B h
 ·cases h
noncomputable def z1m : Code := (Try.f66.body).getD .skip
def z1l : Hint := (.two .n (.two .n (.join [7] (.two .n (.one (.lp [] [0,5,7,13,14,15] [7] (.two .n (.two (.two .n .n) (.join [0,5,7,13,14,15] (.one (.two .n (.two .n (.join [0,5,7,9,13,14,15,29] .n (.two .n .n))))) .n)))))) (.two .n (.join [10] (.two .n (.one (.lp [(10,z7o,1)] [10,34,35] [10] (.two .n (.two (.two .n .n) (.join [10,34,35] (.one (.two .n (.two .n (.two .n .n)))) .n)))))) (.two .n .n))))))
noncomputable def z0I (m : Nat) : Env := [(36, .keep (z5H m))]
noncomputable abbrev z4o (n0 : Nat) : KO (AV × List AObj) := z7z Try.prog n0 [.tmp 6]
noncomputable def z5Y (m : Nat) (n0 : Nat) (kc : ASt → RO) (kx : KO (AV × List AObj)) (s : ASt) : RO := joinW Try.prog GG (z0I m) m ⟨46,[]⟩ (cdR (cdR (cdR (cdL (cdL (cdR (cdL (cdR (cdR z1m))))))))) z1l.r.r.l.r.c.c.r.r.r s (backW n0 [0,5,7,13,14,15] [7] kc kx)
noncomputable def z8L (m : Nat) (n0 : Nat) (kc : ASt → RO) (kx : KO (AV × List AObj)) (s : ASt) : RO := joinW Try.prog GG (z0I m) m ⟨46,[]⟩ (cdR (cdR (cdR (cdL (cdL (cdR (cdL (cdR (cdR (cdR (cdR z1m))))))))))) z1l.r.r.r.r.l.r.c.c.r.r.r s (backW n0 [10,34,35] [10] kc kx)
noncomputable def zbp (m : Nat) (n0k : Nat) (s : ASt) : RO := joinW Try.prog GG (z0I m) m ⟨46,[]⟩ (cdR (cdR (cdR (cdR (cdR z1m))))) z1l.r.r.r.r.r s (z4o n0k)
noncomputable def z8C (m : Nat) (n0 : Nat) (kc : ASt → RO) (kx : KO (AV × List AObj)) (s : ASt) : RO := joinW Try.prog GG (z0I m) m ⟨46,[]⟩ (cdR (cdR (cdR (cdL (cdL (cdR (cdR (cdL (cdL (cdR (cdL (cdR (cdR z1m))))))))))))) z1l.r.r.l.r.c.c.r.r.l.c.r.r.r s (z41 1 (seqX (fun s=>z5Y m n0 kc kx ⟨s.H,[(0,gt s.T 0),(5,gt s.T 5),(7,gt s.T 7),(13,gt s.T 13),(14,gt s.T 14),(15,gt s.T 15)]⟩) (backW n0 [0,5,7,13,14,15] [7] kc kx)))
noncomputable def zbB (m : Nat) (s : ASt) (kc : ASt → RO) (kx : KO (AV × List AObj)) : RO := bodyW Try.prog GG (z0I m) m ⟨46,[]⟩ (cdL (cdL (cdR (cdL (cdR (cdR (cdR (cdR z1m)))))))) z1l.r.r.r.r.l.r.c.c [10,34,35] [10] s kc kx
noncomputable def z8K (m : Nat) (n0k : Nat) (s : ASt) : RO := joinW Try.prog GG (z0I m) m ⟨46,[]⟩ (cdR (cdR (cdR z1m))) z1l.r.r.r s (z4o n0k)
noncomputable def zbt (m : Nat) (s : ASt) (kc : ASt → RO) (kx : KO (AV × List AObj)) : RO := bodyW Try.prog GG (z0I m) m ⟨46,[]⟩ (cdL (cdL (cdR (cdL (cdR (cdR z1m)))))) z1l.r.r.l.r.c.c [0,5,7,13,14,15] [7] s kc kx
noncomputable def z8v (m : Nat) (t0 t1 t2 : AV) (H : List AObj) : RO := exec Try.prog GG (z0I m) m ⟨46,[]⟩ z1m z1l ⟨H,argsT 0 [t0,t1,t2]⟩ (z4o H.length)
theorem z6j (m : Nat) (n0 : Nat) (kc : ASt → RO) (kx : KO (AV × List AObj)) (H : List AObj) (t0 t5 t7 t13 t14 t15 : AV) : z5Y m n0 kc kx ⟨H,[(0,t0),(5,t5),(7,t7),(13,t13),(14,t14),(15,t15)]⟩ =
 binE none false false .add t15 (V (.int .i64 1)) fun t33 =>
 backE n0 H [(0,t0),(5,t5),(7,t7),(13,t13),(14,t14),(15,t33)] kc := by
 refine (z04 _ _ _ _ _ _ _ _ _).trans ?_
 kernel_rfl
theorem za1 (m : Nat) (n0 : Nat) (kc : ASt → RO) (kx : KO (AV × List AObj)) (H : List AObj) (t10 t34 t35 : AV) : z8L m n0 kc kx ⟨H,[(10,t10),(34,t34),(35,t35)]⟩ =
 binE none false false .add t35 (V (.int .i64 1)) fun t44 =>
 backE n0 H [(10,t10),(34,t34),(35,t44)] kc := by
 refine (z04 _ _ _ _ _ _ _ _ _).trans ?_
 kernel_rfl
theorem zer (m : Nat) (n0k : Nat) (H : List AObj) (t10 : AV) : zbp m n0k ⟨H,[(10,t10)]⟩ =
 keepK n0k H (ro H t10) := by
 refine (z04 _ _ _ _ _ _ _ _ _).trans ?_
 kernel_rfl
theorem z6s (m : Nat) (n0 : Nat) (kc : ASt → RO) (kx : KO (AV × List AObj)) (H : List AObj) (t0 t5 t7 t9 t13 t14 t15 t29 : AV) : z8C m n0 kc kx ⟨H,[(0,t0),(5,t5),(7,t7),(9,t9),(13,t13),(14,t14),(15,t15),(29,t29)]⟩ =
 condE t29 (
  z02 (some (0,1)) t9 fun t30 =>
  loadE 1 H t30 fun t31 =>
  idxPE 64 1 t7 t31 fun t32 =>
  z1p 1 H t32 (V (.bool true)) fun H2 =>
  z5Y m n0 kc kx ⟨H2,[(0,t0),(5,t5),(7,t7),(13,t13),(14,t14),(15,t15)]⟩) (
  z5Y m n0 kc kx ⟨H,[(0,t0),(5,t5),(7,t7),(13,t13),(14,t14),(15,t15)]⟩) := by
 refine (z04 _ _ _ _ _ _ _ _ _).trans ?_
 kernel_rfl
theorem zem (m : Nat) (H : List AObj) (t10 t34 t35 : AV) (kc : ASt → RO) (kx : KO (AV × List AObj)) : zbB m ⟨H,[(10,t10),(34,t34),(35,t35)]⟩ kc kx =
 binE none false false .lss t35 (V (.int .i64 64)) fun t36 =>
 condE t36 (
  idxVE false (some (64,1)) t34 t35 fun t38 =>
  condE t38 (
   z1g (some (z7o,1)) 1 [(0,t35)] fun t42 =>
   appE (some (z7o,1)) H t10 t42 fun t43 H2 =>
   z8L m H.length kc kx ⟨H2,[(10,t43),(34,t34),(35,t35)]⟩) (
   z8L m H.length kc kx ⟨H,[(10,t10),(34,t34),(35,t35)]⟩)) (
  kx (.exit 2) ⟨H,[(10,t10)]⟩) := by
 refine (z2r _ _ _ _ _ _ _ _ _ _ _ _).trans ?_
 kernel_rfl
theorem zeq (m : Nat) (n0k : Nat) (H : List AObj) (t7 : AV) : z8K m n0k ⟨H,[(7,t7)]⟩ =
 loadE 66 H t7 fun t34 =>
 rowE (V (.slice none 0 0)) z7o 1 H fun t10 H2 =>
 iterC m (zbB m) ⟨H2,[(10,t10),(34,t34),(35,(V (.int .i64 0)))]⟩ (z41 2 (seqX (fun s=>zbp m n0k ⟨s.H,[(10,gt s.T 10)]⟩) (z4o n0k))) := by
 refine (z04 _ _ _ _ _ _ _ _ _).trans ?_
 kernel_rfl
theorem zew (m : Nat) (H : List AObj) (t0 t5 t7 t13 t14 t15 : AV) (kc : ASt → RO) (kx : KO (AV × List AObj)) : zbt m ⟨H,[(0,t0),(5,t5),(7,t7),(13,t13),(14,t14),(15,t15)]⟩ kc kx =
 binE none false false .lss t15 t14 fun t16 =>
 condE t16 (
  idxSE 7 H t13 t15 fun t17 =>
  loadE 7 H t17 fun t18 =>
  z5a (some z09) z01 H fun t9 H2 =>
  z1p 7 H2 t9 t18 fun H3 =>
  z02 (some (0,1)) t9 fun t19 =>
  loadE 1 H3 t19 fun t20 =>
  z02 (some (0,1)) t5 fun t21 =>
  z1p 1 H3 t21 t20 fun H4 =>
  loadE 7 H4 t9 fun t22 =>
  loadE 7 H4 t5 fun t23 =>
  binE (some [.i .i64, .i .i64, .i .i64, .i .i64, .i .i64]) false false .eql t22 t23 fun t24 =>
  condE t24 (
   loadE 7 H4 t9 fun t27 =>
   keepE (z86 m (ro H4 t0) (ro H4 t27) H4) fun t28 H5 =>
   z8C m H.length kc kx ⟨H5,[(0,t0),(5,t5),(7,t7),(9,t9),(13,t13),(14,t14),(15,t15),(29,t28)]⟩) (
   z8C m H.length kc kx ⟨H4,[(0,t0),(5,t5),(7,t7),(9,t9),(13,t13),(14,t14),(15,t15),(29,(V (.bool false)))]⟩)) (
  kx (.exit 0) ⟨H,[(7,t7)]⟩) := by
 refine (z2r _ _ _ _ _ _ _ _ _ _ _ _).trans ?_
 kernel_rfl
theorem zgq (m : Nat) (t0 t1 t2 : AV) (H : List AObj) : z8v m t0 t1 t2 H =
 boxE z01 H t2 fun t5 H2 =>
 z5a (some zhF) zhB H2 fun t7 H3 =>
 lenE false true H3 t1 fun t14 =>
 iterC m (zbt m) ⟨H3,[(0,t0),(5,t5),(7,t7),(13,t1),(14,t14),(15,(V (.int .i64 0)))]⟩ (z41 0 (seqX (fun s=>z8K m H.length ⟨s.H,[(7,gt s.T 7)]⟩) (z4o H.length))) := by
 refine (keepX Try.prog GG (z0I m) m ⟨46,[]⟩ H.length z1m z1l ⟨H,argsT 0 [t0,t1,t2]⟩ [.tmp 6]).trans ?_
 kernel_rfl
noncomputable def z9G (m : Nat) : List AV → List AObj → RO|[t0,t1,t2],H=>z8v m t0 t1 t2 H|_,_=>none
theorem zgk (m : Nat) : ∀ args H X H',z9G m args H = some (X,H') → AC Try.prog GG 66 args H (Is X H') := by
 intro args H X H' h
 unfold z9G at h
 split at h
 ·exact z2K MIX (by
  intro f e h
  simp only [z0I,Prod.mk.injEq,List.mem_cons,List.not_mem_nil,or_false] at h
  obtain ⟨rfl,rfl⟩ := h
  ·exact z8X m) (f := 66) (c := z1m) Try.func66 rfl (by kernel_rfl) _ rfl Try.ntmps66 (Nat.le_of_ble_eq_true rfl) z1l h
 ·cases h
end Go.Proofs.Ytaaogcnjfkgnoaa

namespace Go.Proofs.Ytaaogcnjfkgnoaa
open Go.RowKit
def z0E : TypeId := 46
def z1t : List AV := [(V (.int .i64 0)),(V (.slice none 0 0)),(V (.slice none 0 0))]
noncomputable def z4H : Code := (Try.f13.body).getD .skip
def z4D : Hint := (.two .n (.join [] (.two .n (.one (.lp [] [1,2,5] [4] (.two (.two .n (.two .n .n)) (.two (.one (.two .n (.two (.two .n .n) .n))) .n))))) (.two .n .n)))
noncomputable def z5u (m : Nat) : Env := []
noncomputable abbrev z5o : KO (AV × List AObj) := z3Y Try.prog [.tmp 4]
noncomputable def z9d (m : Nat) (s : ASt) : RO := joinW Try.prog GG (z5u m) m ⟨20,[]⟩ (cdR (cdR z4H)) z4D.r.r s (z5o)
noncomputable def z9i (m : Nat) (s : ASt) (kc : ASt → RO) (kx : KO (AV × List AObj)) : RO := bodyW Try.prog GG (z5u m) m ⟨20,[]⟩ (cdL (cdL (cdR (cdL (cdR z4H))))) z4D.r.l.r.c.c [1,2,5] [4] s kc kx
noncomputable def z4i (m : Nat) (t0 t1 : AV) : RO := exec Try.prog GG (z5u m) m ⟨20,[]⟩ z4H z4D ⟨[],argsT 0 [t0,t1]⟩ (z5o)
theorem zbU (m : Nat) (H : List AObj) : z9d m ⟨H,[]⟩ =
 tellK H (ro H (V (.bool false))) := by
 refine (z04 _ _ _ _ _ _ _ _ _).trans ?_
 kernel_rfl
theorem zc0 (m : Nat) (H : List AObj) (t1 t2 t5 : AV) (kc : ASt → RO) (kx : KO (AV × List AObj)) : z9i m ⟨H,[(1,t1),(2,t2),(5,t5)]⟩ kc kx =
 z02 (some (1,1)) t2 fun t7 =>
 loadE 1 H t7 fun t8 =>
 lenE false true H t8 fun t9 =>
 binE none false false .lss t5 t9 fun t10 =>
 condE t10 (
  z02 (some (1,1)) t2 fun t13 =>
  loadE 1 H t13 fun t14 =>
  idxSE 1 H t14 t5 fun t16 =>
  loadE 1 H t16 fun t17 =>
  binE none false false .eql t17 t1 fun t19 =>
  condE t19 (
   kx .ret ⟨H,[(4,(V (.bool true)))]⟩) (
   binE none false false .add t5 (V (.int .i64 1)) fun t12 =>
   backE H.length H [(1,t1),(2,t2),(5,t12)] kc)) (
  kx (.exit 0) ⟨H,[(4, .nil)]⟩) := by
 refine (z2r _ _ _ _ _ _ _ _ _ _ _ _).trans ?_
 kernel_rfl
theorem ze2 (m : Nat) (t0 t1 : AV) : z4i m t0 t1 =
 boxE z0E [] t0 fun t2 H1 =>
 iterC m (z9i m) ⟨H1,[(1,t1),(2,t2),(5,(V (.int .i64 0)))]⟩ (z41 0 (seqX (fun s=>z9d m ⟨s.H,[]⟩) (z5o))) := by
 refine (tellX _ _ _ _ _ _ _ _ _).trans ?_
 kernel_rfl
noncomputable def z6l (m : Nat) : List AV → RO|[t0,t1]=>z4i m t0 t1|_=>none
theorem ze7 (m : Nat) : ∀ args X H',z6l m args = some (X,H') → ACp Try.prog GG 13 args X := by
 intro args X H' h
 unfold z6l at h
 split at h
 ·exact z0G MIX (by intro f e h;cases h) (f := 13) (c := z4H) Try.func13 rfl (by kernel_rfl) _ rfl Try.ntmps13 (Nat.le_of_ble_eq_true rfl) z4D h
 ·cases h
noncomputable def z4L : Code := (Try.f49.body).getD .skip
def z4M : Hint := (.two .n (.join [] (.two .n (.one (.lp [] [2,3,5] [4] (.two (.two .n (.two .n .n)) (.two (.one (.two .n (.two (.two .n .n) .n))) .n))))) (.two .n .n)))
noncomputable def z5f (m : Nat) : Env := []
noncomputable abbrev z5k : KO (AV × List AObj) := z3Y Try.prog [.tmp 4]
noncomputable def z9h (m : Nat) (s : ASt) : RO := joinW Try.prog GG (z5f m) m ⟨20,[]⟩ (cdR (cdR z4L)) z4M.r.r s (z5k)
noncomputable def z9g (m : Nat) (s : ASt) (kc : ASt → RO) (kx : KO (AV × List AObj)) : RO := bodyW Try.prog GG (z5f m) m ⟨20,[]⟩ (cdL (cdL (cdR (cdL (cdR z4L))))) z4M.r.l.r.c.c [2,3,5] [4] s kc kx
noncomputable def z2S (m : Nat) (t0 t1 : AV) : RO := exec Try.prog GG (z5f m) m ⟨20,[]⟩ z4L z4M ⟨[],argsT 0 [t0,t1]⟩ (z5k)
theorem zbZ (m : Nat) (H : List AObj) : z9h m ⟨H,[]⟩ =
 tellK H (ro H (V (.bool false))) := by
 refine (z04 _ _ _ _ _ _ _ _ _).trans ?_
 kernel_rfl
theorem zbW (m : Nat) (H : List AObj) (t2 t3 t5 : AV) (kc : ASt → RO) (kx : KO (AV × List AObj)) : z9g m ⟨H,[(2,t2),(3,t3),(5,t5)]⟩ kc kx =
 z02 (some (2,1)) t2 fun t7 =>
 loadE 1 H t7 fun t8 =>
 lenE false true H t8 fun t9 =>
 binE none false false .lss t5 t9 fun t10 =>
 condE t10 (
  z02 (some (2,1)) t2 fun t13 =>
  loadE 1 H t13 fun t14 =>
  idxSE 7 H t14 t5 fun t16 =>
  loadE 7 H t16 fun t17 =>
  loadE 7 H t3 fun t18 =>
  binE (some [.i .i64, .i .i64, .i .i64, .i .i64, .i .i64]) false false .eql t17 t18 fun t19 =>
  condE t19 (
   kx .ret ⟨H,[(4,(V (.bool true)))]⟩) (
   binE none false false .add t5 (V (.int .i64 1)) fun t12 =>
   backE H.length H [(2,t2),(3,t3),(5,t12)] kc)) (
  kx (.exit 0) ⟨H,[(4, .nil)]⟩) := by
 refine (z2r _ _ _ _ _ _ _ _ _ _ _ _).trans ?_
 kernel_rfl
theorem ze0 (m : Nat) (t0 t1 : AV) : z2S m t0 t1 =
 boxE z0E [] t0 fun t2 H1 =>
 boxE z01 H1 t1 fun t3 H2 =>
 iterC m (z9g m) ⟨H2,[(2,t2),(3,t3),(5,(V (.int .i64 0)))]⟩ (z41 0 (seqX (fun s=>z9h m ⟨s.H,[]⟩) (z5k))) := by
 refine (tellX _ _ _ _ _ _ _ _ _).trans ?_
 kernel_rfl
noncomputable def z31 (m : Nat) : List AV → RO|[t0,t1]=>z2S m t0 t1|_=>none
theorem z5P (m : Nat) : ∀ args X H',z31 m args = some (X,H') → ACp Try.prog GG 49 args X := by
 intro args X H' h
 unfold z31 at h
 split at h
 ·exact z0G MIX (by intro f e h;cases h) (f := 49) (c := z4L) Try.func49 rfl (by kernel_rfl) _ rfl Try.ntmps49 (Nat.le_of_ble_eq_true rfl) z4M h
 ·cases h
noncomputable def z2w : Code := (Try.f31.body).getD .skip
def z2u : Hint := (.two .n (.join [1,3,5,6] (.join [1,3,5,6,15] .n (.two (.two .n .n) .n)) (.join [3,5,6] (.join [3,5,6,33] .n (.two (.two .n .n) .n)) (.two (.two .n (.two (.two .n .n) .n)) (.two (.two .n (.two (.two .n .n) .n)) (.two .n (.two .n .n)))))))
noncomputable def z2d (m : Nat) : Env := [(13, .tell (z6l m)),(49, .tell (z31 m))]
noncomputable abbrev z2E : KO (AV × List AObj) := z3Y Try.prog [.cell 6 46, .tmp 7]
noncomputable def z4q (m : Nat) (s : ASt) : RO := joinW Try.prog GG (z2d m) m ⟨53,[]⟩ (cdR (cdR (cdR z2w))) z2u.r.r.r s (z2E)
noncomputable def z2N (m : Nat) (s : ASt) : RO := joinW Try.prog GG (z2d m) m ⟨53,[]⟩ (cdR (cdL (cdR (cdR z2w)))) z2u.r.r.l.r s (seqX (fun s=>z4q m ⟨s.H,[(3,gt s.T 3),(5,gt s.T 5),(6,gt s.T 6)]⟩) (z2E))
noncomputable def z5I (m : Nat) (s : ASt) : RO := joinW Try.prog GG (z2d m) m ⟨53,[]⟩ (cdR (cdR z2w)) z2u.r.r s (z2E)
noncomputable def z5J (m : Nat) (s : ASt) : RO := joinW Try.prog GG (z2d m) m ⟨53,[]⟩ (cdR (cdL (cdR z2w))) z2u.r.l.r s (seqX (fun s=>z5I m ⟨s.H,[(1,gt s.T 1),(3,gt s.T 3),(5,gt s.T 5),(6,gt s.T 6)]⟩) (z2E))
noncomputable def z5q (m : Nat) (t0 t1 t2 : AV) : RO := exec Try.prog GG (z2d m) m ⟨53,[]⟩ z2w z2u ⟨[],argsT 0 [t0,t1,t2]⟩ (z2E)
theorem zbK (m : Nat) (H : List AObj) (t3 t5 t6 : AV) : z4q m ⟨H,[(3,t3),(5,t5),(6,t6)]⟩ =
 loadE 5 H t3 fun t35 =>
 loadE 7 H t5 fun t36 =>
 tellE (z2S m (ro H t35) (ro H t36)) [(ro H t35),(ro H t36)] fun t37 =>
 condE t37 (
  loadE 5 H t3 fun t38 =>
  z1p 5 H t6 t38 fun H2 =>
  loadE 5 H2 t6 fun t9000 =>
  tellK H2 (ro H2 (TU [noT t9000,noT (V (.int .i64 0))]))) (
  z02 (some (2,1)) t3 fun t39 =>
  loadE 1 H t39 fun t40 =>
  lenE false true H t40 fun t41 =>
  binE none false false .geq t41 (V (.int .i64 65536)) fun t42 =>
  condE t42 (
   loadE 5 H t3 fun t43 =>
   z1p 5 H t6 t43 fun H2 =>
   loadE 5 H2 t6 fun t9000 =>
   tellK H2 (ro H2 (TU [noT t9000,noT (V (.int .i64 5))]))) (
   z1g (some (z01,5)) 0 [] fun t44 =>
   z02 (some (2,1)) t3 fun t45 =>
   loadE 1 H t45 fun t46 =>
   appE (some (z01,5)) H t44 t46 fun t47 H2 =>
   loadE 7 H2 t5 fun t48 =>
   loadE 7 H t5 fun t8022 =>
   eqE t48 t8022 (
   z1g (some (z01,5)) 1 [(0,t48)] fun t49 =>
   appE (some (z01,5)) H2 t47 t49 fun t50 H3 =>
   z02 (some (2,1)) t3 fun t51 =>
   z1p 1 H3 t51 t50 fun H4 =>
   loadE 5 H4 t3 fun t52 =>
   z1p 5 H4 t6 t52 fun H5 =>
   loadE 5 H5 t6 fun t9000 =>
   tellK H5 (ro H5 (TU [noT t9000,noT (V (.int .i64 0))]))))) := by
 refine (z04 _ _ _ _ _ _ _ _ _).trans ?_
 kernel_rfl
theorem zc5 (m : Nat) (H : List AObj) (t3 t5 t6 t33 : AV) : z2N m ⟨H,[(3,t3),(5,t5),(6,t6),(33,t33)]⟩ =
 condE t33 (
  loadE 5 H t3 fun t34 =>
  z1p 5 H t6 t34 fun H2 =>
  loadE 5 H2 t6 fun t9000 =>
  tellK H2 (ro H2 (TU [noT t9000,noT (V (.int .i64 19))]))) (
  z4q m ⟨H,[(3,t3),(5,t5),(6,t6)]⟩) := by
 refine (z04 _ _ _ _ _ _ _ _ _).trans ?_
 kernel_rfl
theorem z2V (m : Nat) (H : List AObj) (t1 t3 t5 t6 : AV) : z5I m ⟨H,[(1,t1),(3,t3),(5,t5),(6,t6)]⟩ =
 z02 (some (0,1)) t5 fun t17 =>
 loadE 1 H t17 fun t18 =>
 binE none false false .neq t18 t1 fun t20 =>
 condE t20 (
  loadE 5 H t3 fun t22 =>
  tellE (z4i m (ro H t22) (ro H t1)) [(ro H t22),(ro H t1)] fun t24 =>
  unE .not t24 fun t25 =>
  condE t25 (
  z2N m ⟨H,[(3,t3),(5,t5),(6,t6),(33,(V (.bool true)))]⟩) (
  loadE 5 H t3 fun t27 =>
  z02 (some (0,1)) t5 fun t28 =>
  loadE 1 H t28 fun t29 =>
  tellE (z4i m (ro H t27) (ro H t29)) [(ro H t27),(ro H t29)] fun t30 =>
  unE .not t30 fun t31 =>
  z2N m ⟨H,[(3,t3),(5,t5),(6,t6),(33,t31)]⟩)) (
  z2N m ⟨H,[(3,t3),(5,t5),(6,t6),(33,(V (.bool false)))]⟩) := by
 refine (z04 _ _ _ _ _ _ _ _ _).trans ?_
 kernel_rfl
theorem z1o (m : Nat) (H : List AObj) (t1 t3 t5 t6 t15 : AV) : z5J m ⟨H,[(1,t1),(3,t3),(5,t5),(6,t6),(15,t15)]⟩ =
 condE t15 (
  loadE 5 H t3 fun t16 =>
  z1p 5 H t6 t16 fun H2 =>
  loadE 5 H2 t6 fun t9000 =>
  tellK H2 (ro H2 (TU [noT t9000,noT (V (.int .i64 4))]))) (
  z5I m ⟨H,[(1,t1),(3,t3),(5,t5),(6,t6)]⟩) := by
 refine (z04 _ _ _ _ _ _ _ _ _).trans ?_
 kernel_rfl
theorem ze5 (m : Nat) (t0 t1 t2 : AV) : z5q m t0 t1 t2 =
 boxE z0E [] t0 fun t3 H1 =>
 boxE z01 H1 t2 fun t5 H2 =>
 z5a (some z1t) z0E H2 fun t6 H3 =>
 binE none false false .lss t1 (V (.int .i64 0)) fun t9 =>
 condE t9 (
  z5J m ⟨H3,[(1,t1),(3,t3),(5,t5),(6,t6),(15,(V (.bool true)))]⟩) (
  z02 (some (0,1)) t3 fun t12 =>
  loadE 1 H3 t12 fun t13 =>
  binE none false false .geq t1 t13 fun t14 =>
  z5J m ⟨H3,[(1,t1),(3,t3),(5,t5),(6,t6),(15,t14)]⟩) := by
 refine (tellX _ _ _ _ _ _ _ _ _).trans ?_
 kernel_rfl
noncomputable def z6c (m : Nat) : List AV → RO|[t0,t1,t2]=>z5q m t0 t1 t2|_=>none
theorem ze9 (m : Nat) : ∀ args X H',z6c m args = some (X,H') → ACp Try.prog GG 31 args X := by
 intro args X H' h
 unfold z6c at h
 split at h
 ·exact z0G MIX (by
  intro f e h
  simp only [z2d,Prod.mk.injEq,List.mem_cons,List.not_mem_nil,or_false] at h
  rcases h with ⟨rfl,rfl⟩|⟨rfl,rfl⟩
  ·exact ze7 m
  ·exact z5P m) (f := 31) (c := z2w) Try.func31 rfl (by kernel_rfl) _ rfl Try.ntmps31 (Nat.le_of_ble_eq_true rfl) z2u h
 ·cases h
noncomputable def z48 : Code := (Try.f45.body).getD .skip
def z43 : Hint := (.two .n (.two .n (.join [] (.two .n (.one (.lp [] [1,4,6,9] [8] (.two (.two .n (.two .n .n)) (.two (.one (.two .n (.two (.two .n .n) .n))) .n))))) (.two .n .n))))
noncomputable def z2X (m : Nat) : Env := [(49, .tell (z31 m))]
noncomputable abbrev z4U : KO (AV × List AObj) := z3Y Try.prog [.tmp 8]
noncomputable def z8i (m : Nat) (s : ASt) : RO := joinW Try.prog GG (z2X m) m ⟨27,[]⟩ (cdR (cdR (cdR z48))) z43.r.r.r s (z4U)
noncomputable def z8j (m : Nat) (s : ASt) (kc : ASt → RO) (kx : KO (AV × List AObj)) : RO := bodyW Try.prog GG (z2X m) m ⟨27,[]⟩ (cdL (cdL (cdR (cdL (cdR (cdR z48)))))) z43.r.r.l.r.c.c [1,4,6,9] [8] s kc kx
noncomputable def z30 (m : Nat) (t0 t1 t2 t3 : AV) : RO := exec Try.prog GG (z2X m) m ⟨27,[]⟩ z48 z43 ⟨[],argsT 0 [t0,t1,t2,t3]⟩ (z4U)
theorem zaW (m : Nat) (H : List AObj) : z8i m ⟨H,[]⟩ =
 tellK H (ro H (V (.bool false))) := by
 refine (z04 _ _ _ _ _ _ _ _ _).trans ?_
 kernel_rfl
theorem zaV (m : Nat) (H : List AObj) (t1 t4 t6 t9 : AV) (kc : ASt → RO) (kx : KO (AV × List AObj)) : z8j m ⟨H,[(1,t1),(4,t4),(6,t6),(9,t9)]⟩ kc kx =
 lenE false true H t1 fun t14 =>
 binE none false false .lss t9 t14 fun t15 =>
 condE t15 (
  idxSE 7 H t1 t9 fun t20 =>
  loadE 7 H t20 fun t21 =>
  loadE 7 H t6 fun t22 =>
  binE (some [.i .i64, .i .i64, .i .i64, .i .i64, .i .i64]) false false .eql t21 t22 fun t23 =>
  condE t23 (
   loadE 5 H t4 fun t24 =>
   loadE 7 H t6 fun t25 =>
   tellE (z2S m (ro H t24) (ro H t25)) [(ro H t24),(ro H t25)] fun t26 =>
   kx .ret ⟨H,[(8,t26)]⟩) (
   binE none false false .add t9 (V (.int .i64 1)) fun t17 =>
   backE H.length H [(1,t1),(4,t4),(6,t6),(9,t17)] kc)) (
  kx (.exit 0) ⟨H,[(8, .nil)]⟩) := by
 refine (z2r _ _ _ _ _ _ _ _ _ _ _ _).trans ?_
 kernel_rfl
theorem zcd (m : Nat) (t0 t1 t2 t3 : AV) : z30 m t0 t1 t2 t3 =
 boxE z0E [] t0 fun t4 H1 =>
 boxE z01 H1 t2 fun t6 H2 =>
 z02 (some (0,1)) t6 fun t11 =>
 z1p 1 H2 t11 t3 fun H3 =>
 iterC m (z8j m) ⟨H3,[(1,t1),(4,t4),(6,t6),(9,(V (.int .i64 0)))]⟩ (z41 0 (seqX (fun s=>z8i m ⟨s.H,[]⟩) (z4U))) := by
 refine (tellX _ _ _ _ _ _ _ _ _).trans ?_
 kernel_rfl
noncomputable def z47 (m : Nat) : List AV → RO|[t0,t1,t2,t3]=>z30 m t0 t1 t2 t3|_=>none
theorem z8g (m : Nat) : ∀ args X H',z47 m args = some (X,H') → ACp Try.prog GG 45 args X := by
 intro args X H' h
 unfold z47 at h
 split at h
 ·exact z0G MIX (by
  intro f e h
  simp only [z2X,Prod.mk.injEq,List.mem_cons,List.not_mem_nil,or_false] at h
  obtain ⟨rfl,rfl⟩ := h
  ·exact z5P m) (f := 45) (c := z48) Try.func45 rfl (by kernel_rfl) _ rfl Try.ntmps45 (Nat.le_of_ble_eq_true rfl) z43 h
 ·cases h
noncomputable def z7J : Code := (Try.f58.body).getD .skip
def z7P : Hint := (.two .n (.join [] (.two .n (.one (.lp [] [0,1,5] [4] (.two (.two .n (.two .n .n)) (.two (.one (.two .n (.two (.two .n .n) .n))) .n))))) (.two .n .n)))
noncomputable def z8T (m : Nat) : Env := []
noncomputable abbrev z8I : KO (AV × List AObj) := z3Y Try.prog [.tmp 4]
noncomputable def zcL (m : Nat) (s : ASt) : RO := joinW Try.prog GG (z8T m) m ⟨20,[]⟩ (cdR (cdR z7J)) z7P.r.r s (z8I)
noncomputable def zco (m : Nat) (s : ASt) (kc : ASt → RO) (kx : KO (AV × List AObj)) : RO := bodyW Try.prog GG (z8T m) m ⟨20,[]⟩ (cdL (cdL (cdR (cdL (cdR z7J))))) z7P.r.l.r.c.c [0,1,5] [4] s kc kx
noncomputable def z9T (m : Nat) (t0 t1 : AV) : RO := exec Try.prog GG (z8T m) m ⟨20,[]⟩ z7J z7P ⟨[],argsT 0 [t0,t1]⟩ (z8I)
theorem zft (m : Nat) (H : List AObj) : zcL m ⟨H,[]⟩ =
 tellK H (ro H (V (.int .i64 0))) := by
 refine (z04 _ _ _ _ _ _ _ _ _).trans ?_
 kernel_rfl
theorem zfq (m : Nat) (H : List AObj) (t0 t1 t5 : AV) (kc : ASt → RO) (kx : KO (AV × List AObj)) : zco m ⟨H,[(0,t0),(1,t1),(5,t5)]⟩ kc kx =
 lenE false true H t0 fun t8 =>
 binE none false false .lss t5 t8 fun t9 =>
 condE t9 (
  idxSE 1 H t0 t5 fun t14 =>
  loadE 1 H t14 fun t15 =>
  binE none false false .eql t15 t1 fun t17 =>
  condE t17 (
   binE none false false .add t5 (V (.int .i64 1)) fun t19 =>
   kx .ret ⟨H,[(4,t19)]⟩) (
   binE none false false .add t5 (V (.int .i64 1)) fun t11 =>
   backE H.length H [(0,t0),(1,t1),(5,t11)] kc)) (
  kx (.exit 0) ⟨H,[(4, .nil)]⟩) := by
 refine (z2r _ _ _ _ _ _ _ _ _ _ _ _).trans ?_
 kernel_rfl
theorem zhz (m : Nat) (t0 t1 : AV) : z9T m t0 t1 =
 iterC m (zco m) ⟨[],[(0,t0),(1,t1),(5,(V (.int .i64 0)))]⟩ (z41 0 (seqX (fun s=>zcL m ⟨s.H,[]⟩) (z8I))) := by
 refine (tellX _ _ _ _ _ _ _ _ _).trans ?_
 kernel_rfl
noncomputable def zak (m : Nat) : List AV → RO|[t0,t1]=>z9T m t0 t1|_=>none
theorem zi0 (m : Nat) : ∀ args X H',zak m args = some (X,H') → ACp Try.prog GG 58 args X := by
 intro args X H' h
 unfold zak at h
 split at h
 ·exact z0G MIX (by intro f e h;cases h) (f := 58) (c := z7J) Try.func58 rfl (by kernel_rfl) _ rfl Try.ntmps58 (Nat.le_of_ble_eq_true rfl) z7P h
 ·cases h
noncomputable def zaZ : Code := (Try.f29.body).getD .skip
def zaU : Hint := (.two .n (.two (.two .n (.two .n (.two (.two .n .n) .n))) (.two (.two .n (.two (.two .n .n) .n)) (.two .n (.two .n .n)))))
noncomputable def z9p (m : Nat) : Env := [(58, .tell (zak m))]
noncomputable abbrev zhW (n0 : Nat) : KO (AV × List AObj) := orwFK Try.prog n0 [.tmp 4, .tmp 5, .tmp 6]
noncomputable def z8F (m : Nat) (t0 t1 : AV) (H : List AObj) : RO := exec Try.prog GG (z9p m) m ⟨26,[]⟩ zaZ zaU ⟨H,argsT 0 [t0,t1]⟩ (zhW H.length)
theorem ziO (m : Nat) (t0 t1 : AV) (H : List AObj) : z8F m t0 t1 H =
 tellE (z9T m (ro H t0) (ro H t1)) [(ro H t0),(ro H t1)] fun t10 =>
 binE none false false .gtr t10 (V (.int .i64 0)) fun t12 =>
 condE t12 (
  openK H (TU [noT t0,noT t10,noT (V (.int .i64 0))])) (
  lenE false true H t0 fun t16 =>
  binE none false false .geq t16 (V (.int .i64 65536)) fun t17 =>
  condE t17 (
   openK H (TU [noT t0,noT (V (.int .i64 0)),noT (V (.int .i64 5))])) (
   z1g (some (z60,1)) 1 [(0,t1)] fun t21 =>
   appE (some (z60,1)) H t0 t21 fun t22 H2 =>
   lenE false true H2 t22 fun t25 =>
   openK H2 (TU [noT t22,noT t25,noT (V (.int .i64 0))]))) := by
 refine (orwX Try.prog GG (z9p m) m ⟨26,[]⟩ H.length zaZ zaU ⟨H,argsT 0 [t0,t1]⟩ [.tmp 4, .tmp 5, .tmp 6]).trans ?_
 kernel_rfl
noncomputable def z8t (m : Nat) : List AV → List AObj → RO|[t0,t1],H=>z8F m t0 t1 H|_,_=>none
theorem zdL (m : Nat) : ∀ args H X H',z8t m args H = some (X,H') → AC Try.prog GG 29 args H (Is X H') := by
 intro args H X H' h
 unfold z8t at h
 split at h
 ·exact zzT (n := H.length) MIX (by
  intro f e h
  simp only [z9p,Prod.mk.injEq,List.mem_cons,List.not_mem_nil,or_false] at h
  obtain ⟨rfl,rfl⟩ := h
  ·exact zi0 m) (f := 29) (c := zaZ) Try.func29 rfl (by kernel_rfl) _ rfl Try.ntmps29 (Nat.le_of_ble_eq_true rfl) zaU h
 ·cases h
end Go.Proofs.Ytaaogcnjfkgnoaa

namespace Go.Proofs.Ytaaogcnjfkgnoaa
open Go.RowKit
def z4p : TypeId := 63
noncomputable def zbA : Code := (Try.f94.body).getD .skip
def zbu : Hint := (.two .n (.join [1,2,3,4,14] .n (.two .n .n)))
noncomputable def zc9 (m : Nat) : Env := []
noncomputable abbrev zfD (n0 : Nat) : KO (AV × List AObj) := z7z Try.prog n0 []
noncomputable def zcZ (m : Nat) (n0k : Nat) (s : ASt) : RO := joinW Try.prog GG (zc9 m) m ⟨23,[]⟩ (cdR (cdR zbA)) zbu.r.r s (zfD n0k)
noncomputable def zho (m : Nat) (t0 t1 t2 t3 : AV) (H : List AObj) : RO := exec Try.prog GG (zc9 m) m ⟨23,[]⟩ zbA zbu ⟨H,argsT 0 [t0,t1,t2,t3]⟩ (zfD H.length)
theorem zao (m : Nat) (n0k : Nat) (H : List AObj) (t1 t2 t3 t4 t14 : AV) : zcZ m n0k ⟨H,[(1,t1),(2,t2),(3,t3),(4,t4),(14,t14)]⟩ =
 condE t14 (
  z02 (some (1,1)) t4 fun t15 =>
  loadE 1 H t15 fun t16 =>
  loadE 1 H t1 fun t17 =>
  z02 (some (2,1)) t4 fun t18 =>
  loadE 1 H t18 fun t19 =>
  z02 (some (3,1)) t4 fun t20 =>
  loadE 1 H t20 fun t21 =>
  z4r (some zbC) (some z0F) [(0,t17),(1,t19),(2,t21)] fun t22 =>
  z1p 1 H t2 t16 fun H2 =>
  loadE 1 H2 t20 fun t8020 =>
  eqE t21 t8020 (
  loadE 1 H2 t18 fun t8021 =>
  eqE t19 t8021 (
  loadE 1 H2 t1 fun t8022 =>
  eqE t17 t8022 (
  z1p 6 H2 t3 t22 fun H3 =>
  keepK n0k H3 (ro H3 (TU [])))))) (
  keepK n0k H (ro H (TU []))) := by
 refine (z04 _ _ _ _ _ _ _ _ _).trans ?_
 kernel_rfl
theorem zli (m : Nat) (t0 t1 t2 t3 : AV) (H : List AObj) : zho m t0 t1 t2 t3 H =
 boxE z0b H t0 fun t4 H2 =>
 z02 (some (0,1)) t4 fun t5 =>
 loadE 1 H2 t5 fun t6 =>
 loadE 1 H2 t1 fun t7 =>
 binE none false false .eql t6 t7 fun t8 =>
 condE t8 (
  z02 (some (1,1)) t4 fun t10 =>
  loadE 1 H2 t10 fun t11 =>
  loadE 1 H2 t2 fun t12 =>
  binE none false false .gtr t11 t12 fun t13 =>
  zcZ m H.length ⟨H2,[(1,t1),(2,t2),(3,t3),(4,t4),(14,t13)]⟩) (
  zcZ m H.length ⟨H2,[(1,t1),(2,t2),(3,t3),(4,t4),(14,(V (.bool false)))]⟩) := by
 refine (keepX Try.prog GG (zc9 m) m ⟨23,[]⟩ H.length zbA zbu ⟨H,argsT 0 [t0,t1,t2,t3]⟩ []).trans ?_
 kernel_rfl
noncomputable def za3 (m : Nat) : List AV → List AObj → RO|[t0,t1,t2,t3],H=>zho m t0 t1 t2 t3 H|_,_=>none
theorem zl9 (m : Nat) : ∀ args H X H',za3 m args H = some (X,H') → AC Try.prog GG 94 args H (Is X H') := by
 intro args H X H' h
 unfold za3 at h
 split at h
 ·exact z2K MIX (by intro f e h;cases h) (f := 94) (c := zbA) Try.func94 rfl (by kernel_rfl) _ rfl Try.ntmps94 (Nat.le_of_ble_eq_true rfl) zbu h
 ·cases h
noncomputable def zgg : Code := (Try.f77.body).getD .skip
def zgd : Hint := (.two .n (.two .n .n))
noncomputable def zgO (m : Nat) : Env := []
noncomputable abbrev zlt (n0 : Nat) : KO (AV × List AObj) := znr Try.prog n0 [.tmp 2]
noncomputable def zh1 (m : Nat) (t0 : AV) (H : List AObj) : RO := exec Try.prog GG (zgO m) m ⟨4,[]⟩ zgg zgd ⟨H,argsT 0 [t0]⟩ (zlt H.length)
theorem zi7 (m : Nat) (t0 : AV) (H : List AObj) : zh1 m t0 H =
 boxE z4p H t0 fun t1 H2 =>
 whenE (([t1] : List AV).all cap0) (
 openK H2 (ro H2 (CL (.func 93) 0 [t1]))) := by
 refine (openX Try.prog GG (zgO m) m ⟨4,[]⟩ H.length zgg zgd ⟨H,argsT 0 [t0]⟩ [.tmp 2]).trans ?_
 kernel_rfl
noncomputable def zdn (m : Nat) : List AV → List AObj → RO|[t0],H=>zh1 m t0 H|_,_=>none
theorem zie (m : Nat) : ∀ args H X H',zdn m args H = some (X,H') → AC Try.prog GG 77 args H (Is X H') := by
 intro args H X H' h
 unfold zdn at h
 split at h
 ·exact znz (n := H.length) MIX (by intro f e h;cases h) (f := 77) (c := zgg) Try.func77 rfl (by kernel_rfl) _ rfl Try.ntmps77 (Nat.le_of_ble_eq_true rfl) zgd h
 ·cases h
end Go.Proofs.Ytaaogcnjfkgnoaa

namespace Go.Proofs.Ytaaogcnjfkgnoaa
open Go.RowKit
def z1v : List (Nat × Nat) := [(0,1),(1,1),(2,1),(3,1),(4,1)]
noncomputable def zeX : Code := (Try.f39.body).getD .skip
def zef : Hint := (.two .n (.two .n .n))
noncomputable def zbY (m : Nat) : Env := [(66, .keep (z9G m)),(65, .tell (zhS m)),(67, .tell (zd1 m))]
noncomputable abbrev zkg (n0 : Nat) : KO (AV × List AObj) := z7z Try.prog n0 [.tmp 8]
noncomputable def zaN (m : Nat) (t0 t1 t2 t3 : AV) (H : List AObj) : RO := exec Try.prog GG (zbY m) m ⟨17,[]⟩ zeX zef ⟨H,argsT 0 [t0,t1,t2,t3]⟩ (zkg H.length)
theorem zl7 (m : Nat) (t0 t1 t2 t3 : AV) (H : List AObj) : zaN m t0 t1 t2 t3 H =
 boxE z01 H t2 fun t6 H2 =>
 loadE 7 H2 t6 fun t11 =>
 keepE (z8v m (ro H2 t0) (ro H2 t1) (ro H2 t11) H2) fun t12 H3 =>
 tellE (ziX m (ro H3 t12)) [(ro H3 t12)] fun t13 =>
 tellE (zeB m (ro H3 t3)) [(ro H3 t3)] fun t15 =>
 binE none false false .and t13 t15 fun t16 =>
 keepK H.length H3 (ro H3 t16) := by
 refine (keepX Try.prog GG (zbY m) m ⟨17,[]⟩ H.length zeX zef ⟨H,argsT 0 [t0,t1,t2,t3]⟩ [.tmp 8]).trans ?_
 kernel_rfl
noncomputable def zbx (m : Nat) : List AV → List AObj → RO|[t0,t1,t2,t3],H=>zaN m t0 t1 t2 t3 H|_,_=>none
theorem zgS (m : Nat) : ∀ args H X H',zbx m args H = some (X,H') → AC Try.prog GG 39 args H (Is X H') := by
 intro args H X H' h
 unfold zbx at h
 split at h
 ·exact z2K MIX (by
  intro f e h
  simp only [zbY,Prod.mk.injEq,List.mem_cons,List.not_mem_nil,or_false] at h
  rcases h with ⟨rfl,rfl⟩|⟨rfl,rfl⟩|⟨rfl,rfl⟩
  ·exact zgk m
  ·exact zmN m
  ·exact zik m) (f := 39) (c := zeX) Try.func39 rfl (by kernel_rfl) _ rfl Try.ntmps39 (Nat.le_of_ble_eq_true rfl) zef h
 ·cases h
noncomputable def zcH : Code := (Try.f14.body).getD .skip
def zcG : Hint := (.two .n (.two .n (.two (.two .n (.two (.two .n .n) .n)) (.join [0,3,6,9] (.two .n (.join [0,3,6,9,38] .n (.two (.two .n .n) .n))) (.two .n (.two .n (.two .n (.two .n (.two .n (.two .n .n))))))))))
noncomputable def za6 (m : Nat) : Env := [(32, .tell (z4O m)),(28, .keep (z5G m)),(37, .tell (z8R m)),(39, .keep (zbx m)),(38, .tell (zdt m)),(40, .tell (zb8 m)),(41, .tell (zaG m))]
noncomputable abbrev zez (n0 : Nat) : KO (AV × List AObj) := z7z Try.prog n0 [.tmp 8]
noncomputable def zd5 (m : Nat) (n0k : Nat) (s : ASt) : RO := joinW Try.prog GG (za6 m) m ⟨75,[]⟩ (cdR (cdR (cdR (cdR zcH)))) zcG.r.r.r.r s (zez n0k)
noncomputable def zgc (m : Nat) (n0k : Nat) (s : ASt) : RO := joinW Try.prog GG (za6 m) m ⟨75,[]⟩ (cdR (cdR (cdL (cdR (cdR (cdR zcH)))))) zcG.r.r.r.l.r.r s (seqX (fun s=>zd5 m n0k ⟨s.H,[(0,gt s.T 0),(3,gt s.T 3),(6,gt s.T 6),(9,gt s.T 9)]⟩) (zez n0k))
noncomputable def ziU (m : Nat) (t0 t1 t2 t3 : AV) (H : List AObj) : RO := exec Try.prog GG (za6 m) m ⟨75,[]⟩ zcH zcG ⟨H,argsT 0 [t0,t1,t2,t3]⟩ (zez H.length)
theorem zkh (m : Nat) (n0k : Nat) (H : List AObj) (t0 t3 t6 t9 : AV) : zd5 m n0k ⟨H,[(0,t0),(3,t3),(6,t6),(9,t9)]⟩ =
 z02 (some (1,1)) t6 fun t39 =>
 loadE 1 H t39 fun t40 =>
 tellE (z8w m (ro H t40) (ro H t3)) [(ro H t40),(ro H t3)] fun t42 =>
 z02 (some (1,1)) t6 fun t43 =>
 loadE 1 H t43 fun t44 =>
 z02 (some (0,1)) t6 fun t45 =>
 loadE 1 H t45 fun t46 =>
 z02 (some (2,1)) t6 fun t47 =>
 loadE 1 H t47 fun t48 =>
 z4r (some z1v) (some z09) [(1,(V (.int .i64 2))),(2,t44),(3,t46),(4,t48)] fun t49 =>
 z5a (some z09) z01 H fun t14 H2 =>
 z1p 7 H2 t14 t49 fun H3 =>
 z02 (some (4,1)) t6 fun t51 =>
 loadE 1 H3 t51 fun t52 =>
 loadE 7 H3 t14 fun t53 =>
 keepE (zaN m (ro H3 t0) (ro H3 t52) (ro H3 t53) (ro H3 t3) H3) fun t55 H4 =>
 tellE (zeY m (ro H4 t55) (ro H4 t42)) [(ro H4 t55),(ro H4 t42)] fun t57 =>
 z02 (some (1,1)) t14 fun t58 =>
 z1p 1 H4 t58 (V (.int .i64 3)) fun H5 =>
 z02 (some (4,1)) t6 fun t60 =>
 loadE 1 H5 t60 fun t61 =>
 loadE 7 H5 t14 fun t62 =>
 keepE (zaN m (ro H5 t0) (ro H5 t61) (ro H5 t62) (ro H5 t3) H5) fun t64 H6 =>
 tellE (zaF m (ro H6 t64) (ro H6 t42)) [(ro H6 t64),(ro H6 t42)] fun t66 =>
 condE t57 (
  tellE (zb7 m (ro H6 t66)) [(ro H6 t66)] fun t70 =>
  binE none false false .mul (V (.int .i64 2)) t9 fun t72 =>
  binE none false false .geq t70 t72 fun t73 =>
  keepK n0k H6 (ro H6 t73)) (
  keepK n0k H6 (ro H6 (V (.bool false)))) := by
 refine (z04 _ _ _ _ _ _ _ _ _).trans ?_
 kernel_rfl
theorem zc2 (m : Nat) (n0k : Nat) (H : List AObj) (t0 t3 t6 t9 t38 : AV) : zgc m n0k ⟨H,[(0,t0),(3,t3),(6,t6),(9,t9),(38,t38)]⟩ =
 condE t38 (
  keepK n0k H (ro H (V (.bool false)))) (
  zd5 m n0k ⟨H,[(0,t0),(3,t3),(6,t6),(9,t9)]⟩) := by
 refine (z04 _ _ _ _ _ _ _ _ _).trans ?_
 kernel_rfl
theorem znd (m : Nat) (t0 t1 t2 t3 : AV) (H : List AObj) : ziU m t0 t1 t2 t3 H =
 boxE z0b H t2 fun t6 H2 =>
 tellE (z5b m (ro H2 t3)) [(ro H2 t3)] fun t19 =>
 extE t19 0 fun t20 =>
 extE t19 1 fun t21 =>
 binE none false false .neq t21 (V (.int .i64 0)) fun t23 =>
 condE t23 (
  keepK H.length H2 (ro H2 (V (.bool false)))) (
  z02 (some (3,1)) t6 fun t26 =>
  loadE 1 H2 t26 fun t27 =>
  keepE (z8f m (ro H2 t1) (ro H2 t27) H2) fun t28 H3 =>
  extE t28 0 fun t29 =>
  extE t28 1 fun t30 =>
  binE none false false .neq t30 (V (.int .i64 0)) fun t32 =>
  condE t32 (
   zgc m H.length ⟨H3,[(0,t0),(3,t3),(6,t6),(9,t20),(38,(V (.bool true)))]⟩) (
   z02 (some (2,1)) t6 fun t35 =>
   loadE 1 H3 t35 fun t36 =>
   binE none false false .neq t29 t36 fun t37 =>
   zgc m H.length ⟨H3,[(0,t0),(3,t3),(6,t6),(9,t20),(38,t37)]⟩)) := by
 refine (keepX Try.prog GG (za6 m) m ⟨75,[]⟩ H.length zcH zcG ⟨H,argsT 0 [t0,t1,t2,t3]⟩ [.tmp 8]).trans ?_
 kernel_rfl
noncomputable def zht (m : Nat) : List AV → List AObj → RO|[t0,t1,t2,t3],H=>ziU m t0 t1 t2 t3 H|_,_=>none
theorem znc (m : Nat) : ∀ args H X H',zht m args H = some (X,H') → AC Try.prog GG 14 args H (Is X H') := by
 intro args H X H' h
 unfold zht at h
 split at h
 ·exact z2K MIX (by
  intro f e h
  simp only [za6,Prod.mk.injEq,List.mem_cons,List.not_mem_nil,or_false] at h
  rcases h with ⟨rfl,rfl⟩|⟨rfl,rfl⟩|⟨rfl,rfl⟩|⟨rfl,rfl⟩|⟨rfl,rfl⟩|⟨rfl,rfl⟩|⟨rfl,rfl⟩
  ·exact z6f m
  ·exact z8M m
  ·exact zdT m
  ·exact zgS m
  ·exact zi3 m
  ·exact ziB m
  ·exact zfM m) (f := 14) (c := zcH) Try.func14 rfl (by kernel_rfl) _ rfl Try.ntmps14 (Nat.le_of_ble_eq_true rfl) zcG h
 ·cases h
noncomputable def zex : Code := (Try.f34.body).getD .skip
def zeR : Hint := (.two .n (.two (.two .n (.two (.two .n .n) .n)) (.two .n (.two .n .n))))
noncomputable def zca (m : Nat) : Env := [(62, .tell (zfg m)),(39, .keep (zbx m)),(63, .tell (z7N m))]
noncomputable abbrev zka (n0 : Nat) : KO (AV × List AObj) := z7z Try.prog n0 [.tmp 6]
noncomputable def zf3 (m : Nat) (t0 t1 t2 : AV) (H : List AObj) : RO := exec Try.prog GG (zca m) m ⟨38,[]⟩ zex zeR ⟨H,argsT 0 [t0,t1,t2]⟩ (zka H.length)
theorem zl3 (m : Nat) (t0 t1 t2 : AV) (H : List AObj) : zf3 m t0 t1 t2 H =
 boxE z00 H t1 fun t4 H2 =>
 z02 (some (2,1)) t4 fun t8 =>
 loadE 1 H2 t8 fun t9 =>
 binE none false false .eql t9 (V (.int .i64 0)) fun t10 =>
 condE t10 (
  z02 (some (3,1)) t4 fun t11 =>
  loadE 1 H2 t11 fun t12 =>
  binE none false false .eql t12 (V (.int .i64 0)) fun t13 =>
  condE t13 (
   z02 (some (4,1)) t4 fun t15 =>
   loadE 1 H2 t15 fun t16 =>
   lenE false true H2 t16 fun t17 =>
   binE none false false .eql t17 (V (.int .i64 0)) fun t18 =>
   keepK H.length H2 (ro H2 t18)) (
   keepK H.length H2 (ro H2 (V (.bool false))))) (
  z02 (some (2,1)) t4 fun t20 =>
  loadE 1 H2 t20 fun t21 =>
  z02 (some (3,1)) t4 fun t22 =>
  loadE 1 H2 t22 fun t23 =>
  z4r (some z1v) (some z09) [(1,(V (.int .i64 5))),(3,t21),(4,t23)] fun t24 =>
  z5a (some z09) z01 H2 fun t7 H3 =>
  z1p 7 H3 t7 t24 fun H4 =>
  z02 (some (2,1)) t4 fun t25 =>
  loadE 1 H4 t25 fun t26 =>
  tellE (zh9 m (ro H4 t26)) [(ro H4 t26)] fun t27 =>
  condE t27 (
   z02 (some (4,1)) t4 fun t30 =>
   loadE 1 H4 t30 fun t31 =>
   loadE 7 H4 t7 fun t32 =>
   keepE (zaN m (ro H4 t0) (ro H4 t31) (ro H4 t32) (ro H4 t2) H4) fun t34 H5 =>
   tellE (z7A m (ro H5 t34) (ro H5 t2)) [(ro H5 t34),(ro H5 t2)] fun t36 =>
   keepK H.length H5 (ro H5 t36)) (
   keepK H.length H4 (ro H4 (V (.bool false))))) := by
 refine (keepX Try.prog GG (zca m) m ⟨38,[]⟩ H.length zex zeR ⟨H,argsT 0 [t0,t1,t2]⟩ [.tmp 6]).trans ?_
 kernel_rfl
noncomputable def zei (m : Nat) : List AV → List AObj → RO|[t0,t1,t2],H=>zf3 m t0 t1 t2 H|_,_=>none
theorem zlH (m : Nat) : ∀ args H X H',zei m args H = some (X,H') → AC Try.prog GG 34 args H (Is X H') := by
 intro args H X H' h
 unfold zei at h
 split at h
 ·exact z2K MIX (by
  intro f e h
  simp only [zca,Prod.mk.injEq,List.mem_cons,List.not_mem_nil,or_false] at h
  rcases h with ⟨rfl,rfl⟩|⟨rfl,rfl⟩|⟨rfl,rfl⟩
  ·exact zjF m
  ·exact zgS m
  ·exact zcj m) (f := 34) (c := zex) Try.func34 rfl (by kernel_rfl) _ rfl Try.ntmps34 (Nat.le_of_ble_eq_true rfl) zeR h
 ·cases h
noncomputable def z5n : Code := (Try.f35.body).getD .skip
def z5r : Hint := (.two .n (.two .n (.join [] (.two .n (.one (.lp [] [0,1,3,6,9,15,16,17] [8] (.two .n (.two (.two .n .n) (.join [0,1,3,6,9,15,16,17] (.one (.two .n (.join [0,1,3,6,11,15,16,17] (.join [0,1,3,6,11,15,16,17,47] .n (.two (.two .n .n) .n)) .n))) .n)))))) (.two .n .n))))
noncomputable def z42 (m : Nat) : Env := [(14, .keep (zht m))]
noncomputable abbrev zdj (n0 : Nat) : KO (AV × List AObj) := z7z Try.prog n0 [.tmp 8]
noncomputable def zet (m : Nat) (n0 : Nat) (kc : ASt → RO) (kx : KO (AV × List AObj)) (s : ASt) : RO := joinW Try.prog GG (z42 m) m ⟨51,[]⟩ (cdR (cdR (cdR (cdL (cdL (cdR (cdL (cdR (cdR z5n))))))))) z5r.r.r.l.r.c.c.r.r.r s (backW n0 [0,1,3,6,9,15,16,17] [8] kc kx)
noncomputable def zi4 (m : Nat) (n0 : Nat) (kc : ASt → RO) (kx : KO (AV × List AObj)) (s : ASt) : RO := joinW Try.prog GG (z42 m) m ⟨51,[]⟩ (cdR (cdR (cdR (cdL (cdL (cdR (cdL (cdR (cdR z5n))))))))) z5r.r.r.l.r.c.c.r.r.r s (backW n0 [0,1,3,6,9,15,16,17] [8] kc kx)
noncomputable def zeg (m : Nat) (n0 : Nat) (kc : ASt → RO) (kx : KO (AV × List AObj)) (s : ASt) : RO := joinW Try.prog GG (z42 m) m ⟨51,[]⟩ (cdR (cdR (cdL (cdL (cdR (cdR (cdL (cdL (cdR (cdL (cdR (cdR z5n)))))))))))) z5r.r.r.l.r.c.c.r.r.l.c.r.r s (z41 1 (seqX (fun s=>zet m n0 kc kx ⟨s.H,[(0,gt s.T 0),(1,gt s.T 1),(3,gt s.T 3),(6,gt s.T 6),(9,gt s.T 9),(15,gt s.T 15),(16,gt s.T 16),(17,gt s.T 17)]⟩) (backW n0 [0,1,3,6,9,15,16,17] [8] kc kx)))
noncomputable def za4 (m : Nat) (n0 : Nat) (kc : ASt → RO) (kx : KO (AV × List AObj)) (s : ASt) : RO := joinW Try.prog GG (z42 m) m ⟨51,[]⟩ (cdR (cdL (cdR (cdL (cdL (cdR (cdR (cdL (cdL (cdR (cdL (cdR (cdR z5n))))))))))))) z5r.r.r.l.r.c.c.r.r.l.c.r.l.r s (seqX (fun s=>zeg m n0 kc kx ⟨s.H,[(0,gt s.T 0),(1,gt s.T 1),(3,gt s.T 3),(6,gt s.T 6),(11,gt s.T 11),(15,gt s.T 15),(16,gt s.T 16),(17,gt s.T 17)]⟩) (z41 1 (seqX (fun s=>zi4 m n0 kc kx ⟨s.H,[(0,gt s.T 0),(1,gt s.T 1),(3,gt s.T 3),(6,gt s.T 6),(9,gt s.T 9),(15,gt s.T 15),(16,gt s.T 16),(17,gt s.T 17)]⟩) (backW n0 [0,1,3,6,9,15,16,17] [8] kc kx))))
noncomputable def zi8 (m : Nat) (n0k : Nat) (s : ASt) : RO := joinW Try.prog GG (z42 m) m ⟨51,[]⟩ (cdR (cdR (cdR z5n))) z5r.r.r.r s (zdj n0k)
noncomputable def zi9 (m : Nat) (s : ASt) (kc : ASt → RO) (kx : KO (AV × List AObj)) : RO := bodyW Try.prog GG (z42 m) m ⟨51,[]⟩ (cdL (cdL (cdR (cdL (cdR (cdR z5n)))))) z5r.r.r.l.r.c.c [0,1,3,6,9,15,16,17] [8] s kc kx
noncomputable def zh2 (m : Nat) (t0 t1 t2 t3 : AV) (H : List AObj) : RO := exec Try.prog GG (z42 m) m ⟨51,[]⟩ z5n z5r ⟨H,argsT 0 [t0,t1,t2,t3]⟩ (zdj H.length)
theorem z56 (m : Nat) (n0 : Nat) (kc : ASt → RO) (kx : KO (AV × List AObj)) (H : List AObj) (t0 t1 t3 t6 t9 t15 t16 t17 : AV) : zet m n0 kc kx ⟨H,[(0,t0),(1,t1),(3,t3),(6,t6),(9,t9),(15,t15),(16,t16),(17,t17)]⟩ =
 binE none false false .add t17 (V (.int .i64 1)) fun t50 =>
 backE n0 H [(0,t0),(1,t1),(3,t3),(6,t6),(9,t9),(15,t15),(16,t16),(17,t50)] kc := by
 refine (z04 _ _ _ _ _ _ _ _ _).trans ?_
 kernel_rfl
theorem z4Z (m : Nat) (n0 : Nat) (kc : ASt → RO) (kx : KO (AV × List AObj)) (H : List AObj) (t0 t1 t3 t6 t9 t15 t16 t17 : AV) : zi4 m n0 kc kx ⟨H,[(0,t0),(1,t1),(3,t3),(6,t6),(9,t9),(15,t15),(16,t16),(17,t17)]⟩ =
 binE none false false .add t17 (V (.int .i64 1)) fun t50 =>
 backE n0 H [(0,t0),(1,t1),(3,t3),(6,t6),(9,t9),(15,t15),(16,t16),(17,t50)] kc := by
 refine (z04 _ _ _ _ _ _ _ _ _).trans ?_
 kernel_rfl
theorem z51 (m : Nat) (n0 : Nat) (kc : ASt → RO) (kx : KO (AV × List AObj)) (H : List AObj) (t0 t1 t3 t6 t11 t15 t16 t17 : AV) : zeg m n0 kc kx ⟨H,[(0,t0),(1,t1),(3,t3),(6,t6),(11,t11),(15,t15),(16,t16),(17,t17)]⟩ =
 z02 (some (0,1)) t11 fun t48 =>
 loadE 1 H t48 fun t49 =>
 zet m n0 kc kx ⟨H,[(0,t0),(1,t1),(3,t3),(6,t6),(9,t49),(15,t15),(16,t16),(17,t17)]⟩ := by
 refine (z04 _ _ _ _ _ _ _ _ _).trans ?_
 kernel_rfl
theorem z50 (m : Nat) (n0 : Nat) (kc : ASt → RO) (kx : KO (AV × List AObj)) (H : List AObj) (t0 t1 t3 t6 t11 t15 t16 t17 t47 : AV) : za4 m n0 kc kx ⟨H,[(0,t0),(1,t1),(3,t3),(6,t6),(11,t11),(15,t15),(16,t16),(17,t17),(47,t47)]⟩ =
 condE t47 (
  kx .ret ⟨H,[(8,(V (.bool false)))]⟩) (
  zeg m n0 kc kx ⟨H,[(0,t0),(1,t1),(3,t3),(6,t6),(11,t11),(15,t15),(16,t16),(17,t17)]⟩) := by
 refine (z04 _ _ _ _ _ _ _ _ _).trans ?_
 kernel_rfl
theorem z54 (m : Nat) (n0k : Nat) (H : List AObj) : zi8 m n0k ⟨H,[]⟩ =
 keepK n0k H (ro H (V (.bool true))) := by
 refine (z04 _ _ _ _ _ _ _ _ _).trans ?_
 kernel_rfl
theorem zjW (m : Nat) (H : List AObj) (t0 t1 t3 t6 t9 t15 t16 t17 : AV) (kc : ASt → RO) (kx : KO (AV × List AObj)) : zi9 m ⟨H,[(0,t0),(1,t1),(3,t3),(6,t6),(9,t9),(15,t15),(16,t16),(17,t17)]⟩ kc kx =
 binE none false false .lss t17 t16 fun t18 =>
 condE t18 (
  idxSE 7 H t15 t17 fun t19 =>
  loadE 7 H t19 fun t20 =>
  z5a (some z0U) z0b H fun t11 H2 =>
  z1p 7 H2 t11 t20 fun H3 =>
  z02 (some (0,1)) t11 fun t21 =>
  loadE 1 H3 t21 fun t22 =>
  binE none false false .leq t22 t9 fun t24 =>
  condE t24 (
   za4 m H.length kc kx ⟨H3,[(0,t0),(1,t1),(3,t3),(6,t6),(11,t11),(15,t15),(16,t16),(17,t17),(47,(V (.bool true)))]⟩) (
   z02 (some (0,1)) t11 fun t26 =>
   loadE 1 H3 t26 fun t27 =>
   z02 (some (2,1)) t6 fun t28 =>
   loadE 1 H3 t28 fun t29 =>
   binE none false false .sub t27 t29 fun t30 =>
   binE none false false .gtr t30 (V (.int .i64 16)) fun t31 =>
   condE t31 (
   za4 m H.length kc kx ⟨H3,[(0,t0),(1,t1),(3,t3),(6,t6),(11,t11),(15,t15),(16,t16),(17,t17),(47,(V (.bool true)))]⟩) (
   z02 (some (1,1)) t11 fun t34 =>
   loadE 1 H3 t34 fun t35 =>
   z02 (some (1,1)) t6 fun t36 =>
   loadE 1 H3 t36 fun t37 =>
   binE none false false .geq t35 t37 fun t38 =>
   condE t38 (
   za4 m H.length kc kx ⟨H3,[(0,t0),(1,t1),(3,t3),(6,t6),(11,t11),(15,t15),(16,t16),(17,t17),(47,(V (.bool true)))]⟩) (
   loadE 7 H3 t11 fun t43 =>
   keepE (ziU m (ro H3 t0) (ro H3 t1) (ro H3 t43) (ro H3 t3) H3) fun t45 H4 =>
   unE .not t45 fun t46 =>
   za4 m H.length kc kx ⟨H4,[(0,t0),(1,t1),(3,t3),(6,t6),(11,t11),(15,t15),(16,t16),(17,t17),(47,t46)]⟩)))) (
  kx (.exit 0) ⟨H,[(8, .nil)]⟩) := by
 refine (z2r _ _ _ _ _ _ _ _ _ _ _ _).trans ?_
 kernel_rfl
theorem zmd (m : Nat) (t0 t1 t2 t3 : AV) (H : List AObj) : zh2 m t0 t1 t2 t3 H =
 boxE z00 H t2 fun t6 H2 =>
 z02 (some (2,1)) t6 fun t12 =>
 loadE 1 H2 t12 fun t13 =>
 z02 (some (5,1)) t6 fun t14 =>
 loadE 1 H2 t14 fun t15 =>
 lenE false true H2 t15 fun t16 =>
 iterC m (zi9 m) ⟨H2,[(0,t0),(1,t1),(3,t3),(6,t6),(9,t13),(15,t15),(16,t16),(17,(V (.int .i64 0)))]⟩ (z41 0 (seqX (fun s=>zi8 m H.length ⟨s.H,[]⟩) (zdj H.length))) := by
 refine (keepX Try.prog GG (z42 m) m ⟨51,[]⟩ H.length z5n z5r ⟨H,argsT 0 [t0,t1,t2,t3]⟩ [.tmp 8]).trans ?_
 kernel_rfl
noncomputable def zfV (m : Nat) : List AV → List AObj → RO|[t0,t1,t2,t3],H=>zh2 m t0 t1 t2 t3 H|_,_=>none
theorem zmv (m : Nat) : ∀ args H X H',zfV m args H = some (X,H') → AC Try.prog GG 35 args H (Is X H') := by
 intro args H X H' h
 unfold zfV at h
 split at h
 ·exact z2K MIX (by
  intro f e h
  simp only [z42,Prod.mk.injEq,List.mem_cons,List.not_mem_nil,or_false] at h
  obtain ⟨rfl,rfl⟩ := h
  ·exact znc m) (f := 35) (c := z5n) Try.func35 rfl (by kernel_rfl) _ rfl Try.ntmps35 (Nat.le_of_ble_eq_true rfl) z5r h
 ·cases h
noncomputable def zaf : Code := (Try.f12.body).getD .skip
def zab : Hint := (.two .n (.two .n (.two (.two .n (.two (.two .n .n) .n)) (.two .n (.two (.two .n (.two (.two .n .n) .n)) (.two .n .n))))))
noncomputable def z8m (m : Nat) : Env := [(33, .tell (z4I m)),(28, .keep (z5G m))]
noncomputable abbrev zgX (n0 : Nat) : KO (AV × List AObj) := z7z Try.prog n0 [.cell 4 41, .tmp 5]
noncomputable def z4a (m : Nat) (t0 t1 : AV) (H : List AObj) : RO := exec Try.prog GG (z8m m) m ⟨34,[]⟩ zaf zab ⟨H,argsT 0 [t0,t1]⟩ (zgX H.length)
theorem zhh (m : Nat) (t0 t1 : AV) (H : List AObj) : z4a m t0 t1 H =
 boxE z00 H t1 fun t3 H2 =>
 z5a (some z09) z01 H2 fun t4 H3 =>
 loadE 8 H3 t3 fun t9 =>
 tellE (z5A m (ro H3 t9)) [(ro H3 t9)] fun t10 =>
 lenE false true H3 t10 fun t12 =>
 binE none false false .eql t12 (V (.int .i64 0)) fun t13 =>
 condE t13 (
  z4r (some z1v) (some z09) [] fun t14 =>
  z1p 7 H3 t4 t14 fun H4 =>
  loadE 7 H4 t4 fun t9000 =>
  keepK H.length H4 (ro H4 (TU [noT t9000,noT (V (.int .i64 1))]))) (
  convE false none true true false (ro H3 t10) fun t18 =>
  keepE (z8f m (ro H3 t0) (ro H3 t18) H3) fun t19 H4 =>
  extE t19 0 fun t20 =>
  extE t19 1 fun t21 =>
  binE none false false .neq t21 (V (.int .i64 0)) fun t23 =>
  condE t23 (
   z4r (some z1v) (some z09) [] fun t24 =>
   z1p 7 H4 t4 t24 fun H5 =>
   loadE 7 H5 t4 fun t9000 =>
   keepK H.length H5 (ro H5 (TU [noT t9000,noT t21]))) (
   z02 (some (0,1)) t3 fun t26 =>
   loadE 1 H4 t26 fun t27 =>
   z02 (some (1,1)) t3 fun t28 =>
   loadE 1 H4 t28 fun t29 =>
   z02 (some (2,1)) t3 fun t30 =>
   loadE 1 H4 t30 fun t31 =>
   z4r (some z1v) (some z09) [(0,t27),(1,(V (.int .i64 6))),(2,t29),(3,t31),(4,t20)] fun t33 =>
   z1p 7 H4 t4 t33 fun H5 =>
   loadE 7 H5 t4 fun t9000 =>
   keepK H.length H5 (ro H5 (TU [noT t9000,noT (V (.int .i64 0))])))) := by
 refine (keepX Try.prog GG (z8m m) m ⟨34,[]⟩ H.length zaf zab ⟨H,argsT 0 [t0,t1]⟩ [.cell 4 41, .tmp 5]).trans ?_
 kernel_rfl
noncomputable def z5z (m : Nat) : List AV → List AObj → RO|[t0,t1],H=>z4a m t0 t1 H|_,_=>none
theorem z9w (m : Nat) : ∀ args H X H',z5z m args H = some (X,H') → AC Try.prog GG 12 args H (Is X H') := by
 intro args H X H' h
 unfold z5z at h
 split at h
 ·exact z2K MIX (by
  intro f e h
  simp only [z8m,Prod.mk.injEq,List.mem_cons,List.not_mem_nil,or_false] at h
  rcases h with ⟨rfl,rfl⟩|⟨rfl,rfl⟩
  ·exact z7Z m
  ·exact z8M m) (f := 12) (c := zaf) Try.func12 rfl (by kernel_rfl) _ rfl Try.ntmps12 (Nat.le_of_ble_eq_true rfl) zab h
 ·cases h
noncomputable def z6a : Code := (Try.f11.body).getD .skip
def z6h : Hint := (.two .n (.join [0,1,3,6] (.two .n (.join [0,1,3,6,25] .n (.two (.two .n .n) .n))) (.join [0,1,6] (.join [0,1,6,49] .n (.two (.two .n .n) .n)) (.two .n (.two .n .n)))))
noncomputable def z4S (m : Nat) : Env := [(32, .tell (z4O m)),(33, .tell (z4I m)),(34, .keep (zei m)),(35, .keep (zfV m)),(12, .keep (z5z m)),(36, .keep (z5H m))]
noncomputable abbrev z7y (n0 : Nat) : KO (AV × List AObj) := z7z Try.prog n0 [.tmp 8]
noncomputable def zaK (m : Nat) (n0k : Nat) (s : ASt) : RO := joinW Try.prog GG (z4S m) m ⟨63,[]⟩ (cdR (cdR (cdR z6a))) z6h.r.r.r s (z7y n0k)
noncomputable def z98 (m : Nat) (n0k : Nat) (s : ASt) : RO := joinW Try.prog GG (z4S m) m ⟨63,[]⟩ (cdR (cdL (cdR (cdR z6a)))) z6h.r.r.l.r s (seqX (fun s=>zaK m n0k ⟨s.H,[(0,gt s.T 0),(1,gt s.T 1),(6,gt s.T 6)]⟩) (z7y n0k))
noncomputable def zd2 (m : Nat) (n0k : Nat) (s : ASt) : RO := joinW Try.prog GG (z4S m) m ⟨63,[]⟩ (cdR (cdR z6a)) z6h.r.r s (z7y n0k)
noncomputable def zdd (m : Nat) (n0k : Nat) (s : ASt) : RO := joinW Try.prog GG (z4S m) m ⟨63,[]⟩ (cdR (cdR (cdL (cdR z6a)))) z6h.r.l.r.r s (seqX (fun s=>zd2 m n0k ⟨s.H,[(0,gt s.T 0),(1,gt s.T 1),(3,gt s.T 3),(6,gt s.T 6)]⟩) (z7y n0k))
noncomputable def z6P (m : Nat) (t0 t1 t2 t3 : AV) (H : List AObj) : RO := exec Try.prog GG (z4S m) m ⟨63,[]⟩ z6a z6h ⟨H,argsT 0 [t0,t1,t2,t3]⟩ (z7y H.length)
theorem ziv (m : Nat) (n0k : Nat) (H : List AObj) (t0 t1 t6 : AV) : zaK m n0k ⟨H,[(0,t0),(1,t1),(6,t6)]⟩ =
 loadE 8 H t6 fun t52 =>
 keepE (z4a m (ro H t1) (ro H t52) H) fun t53 H2 =>
 extE t53 0 fun t54 =>
 extE t53 1 fun t55 =>
 z5a (some z09) z01 H2 fun t11 H3 =>
 z1p 7 H3 t11 t54 fun H4 =>
 binE none false false .eql t55 (V (.int .i64 0)) fun t57 =>
 condE t57 (
  loadE 7 H4 t11 fun t60 =>
  keepE (z86 m (ro H4 t0) (ro H4 t60) H4) fun t61 H5 =>
  keepK n0k H5 (ro H5 t61)) (
  keepK n0k H4 (ro H4 (V (.bool false)))) := by
 refine (z04 _ _ _ _ _ _ _ _ _).trans ?_
 kernel_rfl
theorem z5E (m : Nat) (n0k : Nat) (H : List AObj) (t0 t1 t6 t49 : AV) : z98 m n0k ⟨H,[(0,t0),(1,t1),(6,t6),(49,t49)]⟩ =
 condE t49 (
  keepK n0k H (ro H (V (.bool false)))) (
  zaK m n0k ⟨H,[(0,t0),(1,t1),(6,t6)]⟩) := by
 refine (z04 _ _ _ _ _ _ _ _ _).trans ?_
 kernel_rfl
theorem z5F (m : Nat) (n0k : Nat) (H : List AObj) (t0 t1 t3 t6 : AV) : zd2 m n0k ⟨H,[(0,t0),(1,t1),(3,t3),(6,t6)]⟩ =
 z02 (some (0,1)) t6 fun t26 =>
 loadE 1 H t26 fun t27 =>
 binE none false false .geq t27 t3 fun t29 =>
 condE t29 (
  z98 m n0k ⟨H,[(0,t0),(1,t1),(6,t6),(49,(V (.bool true)))]⟩) (
  z02 (some (1,1)) t6 fun t31 =>
  loadE 1 H t31 fun t32 =>
  binE none false false .lss t32 (V (.int .i64 1)) fun t33 =>
  condE t33 (
  z98 m n0k ⟨H,[(0,t0),(1,t1),(6,t6),(49,(V (.bool true)))]⟩) (
  loadE 8 H t6 fun t37 =>
  keepE (zf3 m (ro H t0) (ro H t37) (ro H t3) H) fun t39 H2 =>
  unE .not t39 fun t40 =>
  condE t40 (
  z98 m n0k ⟨H2,[(0,t0),(1,t1),(6,t6),(49,(V (.bool true)))]⟩) (
  loadE 8 H2 t6 fun t45 =>
  keepE (zh2 m (ro H2 t0) (ro H2 t1) (ro H2 t45) (ro H2 t3) H2) fun t47 H3 =>
  unE .not t47 fun t48 =>
  z98 m n0k ⟨H3,[(0,t0),(1,t1),(6,t6),(49,t48)]⟩))) := by
 refine (z04 _ _ _ _ _ _ _ _ _).trans ?_
 kernel_rfl
theorem z3V (m : Nat) (n0k : Nat) (H : List AObj) (t0 t1 t3 t6 t25 : AV) : zdd m n0k ⟨H,[(0,t0),(1,t1),(3,t3),(6,t6),(25,t25)]⟩ =
 condE t25 (
  keepK n0k H (ro H (V (.bool false)))) (
  zd2 m n0k ⟨H,[(0,t0),(1,t1),(3,t3),(6,t6)]⟩) := by
 refine (z04 _ _ _ _ _ _ _ _ _).trans ?_
 kernel_rfl
theorem zl6 (m : Nat) (t0 t1 t2 t3 : AV) (H : List AObj) : z6P m t0 t1 t2 t3 H =
 boxE z00 H t2 fun t6 H2 =>
 tellE (z5b m (ro H2 t3)) [(ro H2 t3)] fun t15 =>
 extE t15 0 fun t16 =>
 extE t15 1 fun t17 =>
 binE none false false .neq t17 (V (.int .i64 0)) fun t19 =>
 condE t19 (
  zdd m H.length ⟨H2,[(0,t0),(1,t1),(3,t3),(6,t6),(25,(V (.bool true)))]⟩) (
  loadE 8 H2 t6 fun t21 =>
  tellE (z5A m (ro H2 t21)) [(ro H2 t21)] fun t22 =>
  lenE false true H2 t22 fun t23 =>
  binE none false false .eql t23 (V (.int .i64 0)) fun t24 =>
  zdd m H.length ⟨H2,[(0,t0),(1,t1),(3,t3),(6,t6),(25,t24)]⟩) := by
 refine (keepX Try.prog GG (z4S m) m ⟨63,[]⟩ H.length z6a z6h ⟨H,argsT 0 [t0,t1,t2,t3]⟩ [.tmp 8]).trans ?_
 kernel_rfl
noncomputable def z9Z (m : Nat) : List AV → List AObj → RO|[t0,t1,t2,t3],H=>z6P m t0 t1 t2 t3 H|_,_=>none
theorem zdq (m : Nat) : ∀ args H X H',z9Z m args H = some (X,H') → AC Try.prog GG 11 args H (Is X H') := by
 intro args H X H' h
 unfold z9Z at h
 split at h
 ·exact z2K MIX (by
  intro f e h
  simp only [z4S,Prod.mk.injEq,List.mem_cons,List.not_mem_nil,or_false] at h
  rcases h with ⟨rfl,rfl⟩|⟨rfl,rfl⟩|⟨rfl,rfl⟩|⟨rfl,rfl⟩|⟨rfl,rfl⟩|⟨rfl,rfl⟩
  ·exact z6f m
  ·exact z7Z m
  ·exact zlH m
  ·exact zmv m
  ·exact z9w m
  ·exact z8X m) (f := 11) (c := z6a) Try.func11 rfl (by kernel_rfl) _ rfl Try.ntmps11 (Nat.le_of_ble_eq_true rfl) z6h h
 ·cases h
noncomputable def zhb : Code := (Try.f22.body).getD .skip
def zh6 : Hint := (.two .n (.two .n (.join [0,3,4,6] (.two .n (.one (.lp [] [0,3,4,6,13,14,15] [0,3,4,5,6] (.two .n (.two (.two .n .n) (.two (.one (.two .n (.two .n (.two (.two .n (.two (.two .n .n) .n)) .n)))) .n)))))) (.two .n (.two (.two .n (.two (.two .n .n) .n)) (.two .n .n))))))
noncomputable def zel (m : Nat) : Env := [(33, .tell (z4I m)),(28, .keep (z5G m))]
noncomputable abbrev zja (n0 : Nat) : KO (AV × List AObj) := z7z Try.prog n0 [.cell 4 41, .tmp 5]
noncomputable def znp (m : Nat) (t0 t1 : AV) (H : List AObj) : RO := exec Try.prog GG (zel m) m ⟨46,[]⟩ zhb zh6 ⟨H,argsT 0 [t0,t1]⟩ (zja H.length)
noncomputable def zdo (m : Nat) : List AV → List AObj → RO|[t0,t1],H=>znp m t0 t1 H|_,_=>none
theorem zkj (m : Nat) : ∀ args H X H',zdo m args H = some (X,H') → AC Try.prog GG 22 args H (Is X H') := by
 intro args H X H' h
 unfold zdo at h
 split at h
 ·exact z2K MIX (by
  intro f e h
  simp only [zel,Prod.mk.injEq,List.mem_cons,List.not_mem_nil,or_false] at h
  rcases h with ⟨rfl,rfl⟩|⟨rfl,rfl⟩
  ·exact z7Z m
  ·exact z8M m) (f := 22) (c := zhb) Try.func22 rfl (by kernel_rfl) _ rfl Try.ntmps22 (Nat.le_of_ble_eq_true rfl) zh6 h
 ·cases h
end Go.Proofs.Ytaaogcnjfkgnoaa

