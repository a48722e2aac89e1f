/-
  Texts laid together, part 4 of 7: laws of a walk over data, contracts of functions, each whole by itself.
-/
import Derived.Test.YtaaogcnjfkgnoaaMgc
set_option maxRecDepth 100000
set_option linter.unusedVariables false
set_option linter.unusedSimpArgs false
namespace Go.Proofs.Ytaaogcnjfkgnoaa
open Go.RowKit
section
variable {P : Program} {G : Gl} {n d : Nat} {w w' w0 : World} {S S' S0 : SS} {μ μ' μ0 : List Value} {H H' H0 : List AObj}
def IPost (l : Nat) (r : Loop) (w : World) (S : SS) (μ : List Value) (H : List AObj) (Q : Exit → List AObj → Prop) (w' : World) : Prop :=
 ∃ w2 S' μ' H' x,Q x H' ∧ Rel w2 S' μ' H' ∧ Step H.length w S μ H w2 S' μ' H' ∧ w2.heap[l]? = some (.loop r) ∧ ((x = .normal ∧ w' = w2) ∨ (∃ c,zqw x = some c ∧ w' = w2.putObj l (.loop { r with state := .done,pending := some c })))
def RPost (N : Nat) (T : Tm) (w : World) (S : SS) (μ : List Value) (H : List AObj) (Q : Exit → List AObj → Prop) (e : Exit) (a' : Act) (w' : World) : Prop :=
 ∃ S' μ' H',Q e H' ∧ Rel w' S' μ' H' ∧ Step H.length w S μ H w' S' μ' H' ∧ Fr S' μ' ⟨N,[⟨.collected w.heap.size,#[]⟩]⟩ T a' ∧ w'.heap[w.heap.size]? = some (.deferred (some [])) ∧ w.heap.size < w'.heap.size
theorem ztt {x : AV} {v : Value} (h : rep0 S μ x v) : rep S μ x v := by
 match x,h with
 |.nil,_=>trivial
 |.held (.inl u),h=>exact h
 |.held (.inr (.inl (i,o))),h=>exact h
 |.ptr d,h=>exact h
theorem range_law {g : Operand} {ps : List Nat} {assign body : Code} {a : Act} {N : Nat} {T : Tm} {f : FuncId} {caps : List AV} {q2 : Nat} {Q : Exit → List AObj → Prop}
    (hr : Rel w S μ H) (hf : Fr S μ (F0 N) T a) (hg : GOk G S) (hgv : ev G T g = .slice caps [.held (.inl (.func (.func f) #[] #[])), .held (.inr (.inl (0, q2)))]) (hc : zdb    P f = true)
    (hit : ∀ (l D fn : Nat) (w1 : World) (us : List Value), Rel w1 S μ H → w1.heap[l]? = some (.loop ⟨.ready, none, fn, a.tmps, ps.toArray, assign, body, D⟩) → us.length = caps.length → (∀ (j : Nat) (x : AV) (u : Value), caps[j]? = some x → us[j]? = some u → rep S μ x u) →
      CallsIn Fence.wide d P f (.func (.yield l) #[] #[] :: us).toArray w1 fun e w' => ∃ v, e = .returned v ∧ IPost l ⟨.ready, none, fn, a.tmps, ps.toArray, assign, body, D⟩ w1 S μ H Q w') :
    (Code.rangeFunc g ps.toArray assign body).wpIn Fence.wide (d + 1) P (RPost N T w S μ H Q) a w := by
  have hnl : ∀ r cs t p, (Obj.loop r) ≠ .cells cs t p := fun _ _ _ _ e => by cases e
  have hnd : ∀ r cs t p, (Obj.deferred r) ≠ .cells cs t p := fun _ _ _ _ e => by cases e
  have hro : Fence.wide.round = none := rfl
  have hv := hf.ev hg g
  rw [hgv] at hv
  obtain ⟨us, hu, hul, hur⟩ := hv
  have hu : a.eval g = .func (.func f) #[] us.toArray := by rw [hu]; simp
  refine wpIn_rangeFunc ?_
  intro fn hfn
  rw [hro]
  obtain ⟨wa, hwa⟩ : ∃ wa, w.alloc (.deferred (some [])) = wa := ⟨_, rfl⟩
  have hsa : wa.heap.size = w.heap.size + 1 := by rw [← hwa]; simp
  obtain ⟨r, hrr⟩ : ∃ r : Loop, (⟨.ready, none, fn, a.tmps, ps.toArray, assign, body, w.heap.size⟩ : Loop) = r := ⟨_, rfl⟩
  obtain ⟨w1, hw1⟩ : ∃ w1, wa.alloc (.loop r) = w1 := ⟨_, rfl⟩
  have hs1 : w1.heap.size = w.heap.size + 2 := by rw [← hw1]; simp [hsa]
  have hra : Rel wa S μ H := by rw [← hwa]; exact hr.touch _ (zoB      w) (zbv         w _)
  have hr1 : Rel w1 S μ H := by rw [← hw1]; exact hra.touch _ (zoB      wa) (zbv         wa _)
  have hst1 : Step H.length w S μ H w1 S μ H := by
    have h1 : Step H.length w S μ H wa S μ H := by rw [← hwa]; exact (Step.refl _ w S μ H).touch (Nat.le_refl _) rfl rfl rfl (by simp) (zbv         w _)
    rw [← hw1]
    exact h1.touch (l := wa.heap.size) (by omega) rfl rfl rfl (by simp) (zbv         wa _)
  have hl1 : w1.heap[w.heap.size + 1]? = some (.loop r) := by rw [← hw1, ← hsa]; exact World.alloc_heap_new wa _
  have hD1 : w1.heap[w.heap.size]? = some (.deferred (some [])) := by
    rw [← hw1, zbv         wa _ _ (by omega) (by omega), ← hwa]
    exact World.alloc_heap_new w _
  have hcall := hit (w.heap.size + 1) w.heap.size fn w1 us hr1 (by rw [hrr]; exact hl1) hul fun j x u hx hu => ztt      (hur j x u hx hu)
  rw [hrr] at hcall
  have hcf : ∃ fnn, P.funcs[f]? = some fnn ∧ (fnn.name == "runtime.NumGoroutine") = false ∧ fnn.body.isNone = false := by
    unfold zdb    at hc
    cases h : P.funcs[f]? with
    | none => rw [h] at hc; cases hc
    | some fnn =>
      rw [h] at hc
      simp only [Bool.and_eq_true, Bool.not_eq_true', Option.isSome_iff_ne_none] at hc
      obtain ⟨h1, h2⟩ := hc
      exact ⟨fnn, rfl, h1, by cases hb : fnn.body with | none => exact absurd hb h2 | some _ => rfl⟩
  obtain ⟨fnn, hf1, hf2, hf3⟩ := hcf
  refine ⟨w.heap.size + 1, [{ target := .collected w.heap.size, args := #[] }], w1, { target := .fn (.func f) us.toArray, args := #[.func (.yield (w.heap.size + 1)) #[] #[]] }, w1, f, #[.func (.yield (w.heap.size + 1)) #[] #[]] ++ us.toArray, w1, ?_, ?_, fun _ _ => trivial, ?_, fun q => (by cases q), ?_⟩
  · rw [run_enterLoop_outer, hwa, hrr, hw1]
  · simp only [resolve, rangeCall, hu, Deferred.ofValue, Sem.run_bind, Sem.run_pure, Result.andThen_ok]
    simp [Sem.run_pure, Act.eval]
  · simp only [invoke, callFunc, Sem.run_bind, Sem.run_pure, Result.andThen_ok, run_program, hf1, hf2, hf3]
    simp [Sem.run_pure]
  · have e0 : (#[.func (.yield (w.heap.size + 1)) #[] #[]] ++ us.toArray : Array Value) = (.func (.yield (w.heap.size + 1)) #[] #[] :: us).toArray := by simp
    rw [e0]
    refine CallsIn.mono hcall ?_
    rintro e w' ⟨v, rfl, w2, S', μ', H', x, hq, hr2, hs2, hl2, hx⟩
    have hst2 := hst1.trans hs2
    have hD2 := hs2.keeps hr1 hD1 (hnd _)
    have hll2 := (Array.getElem?_eq_some_iff.1 hl2).1
    have hfr : Fr S' μ' ⟨N, [⟨.collected w.heap.size, #[]⟩]⟩ T { a with defers := [{ target := .collected w.heap.size, args := #[] }] ++ a.defers } := by
      have h := hf.ext (hst2.toExt hr)
      exact ⟨h.size, by rw [h.nodef]; rfl, h.slot⟩
    have fin : ∀ o, w2.heap.size = (w2.putObj (w.heap.size + 1) o).heap.size ∧ Rel (w2.putObj (w.heap.size + 1) o) S' μ' H' ∧ Step H.length w S μ H (w2.putObj (w.heap.size + 1) o) S' μ' H' ∧ (w2.putObj (w.heap.size + 1) o).heap[w.heap.size]? = some (.deferred (some [])) := fun o =>
      ⟨(z7M         _ _ _).symm, hr2.touch _ (NoCells.of hl2 (hnl _)) (z8Y          _ _ _), hst2.touch (l := w.heap.size + 1) (by omega) rfl rfl rfl (by rw [z7M        ]; exact Nat.le_refl _) (z8Y          _ _ _), by rw [World.putObj_heap_other (by omega)]; exact hD2⟩
    have hsz : w.heap.size < w2.heap.size := by omega
    rcases hx with ⟨rfl, rfl⟩ | ⟨c, hj, rfl⟩
    · have hend := run_endLoop (P := P) hl2 (by rw [← hrr]; simp)
      refine ⟨none, _, by rw [hend, ← hrr], ?_⟩
      rw [hrr]
      obtain ⟨f0, f1, f2, f3⟩ := fin (.loop { r with state := .exhausted })
      exact ⟨S', μ', H', hq, f1, f2, hfr, f3, by rw [← f0]; exact hsz⟩
    · have hl3 : (w2.putObj (w.heap.size + 1) (.loop { r with state := .done, pending := some c })).heap[w.heap.size + 1]? = some (.loop { r with state := .done, pending := some c }) := World.putObj_heap_same hll2
      have hend := run_endLoop (P := P) hl3 (by simp)
      refine ⟨some c, _, hend, ?_⟩
      have hpp : ∀ o o' : Obj, (w2.putObj (w.heap.size + 1) o).putObj (w.heap.size + 1) o' = w2.putObj (w.heap.size + 1) o' := fun o o' => by
        unfold World.putObj
        simp [Array.setIfInBounds_setIfInBounds]
      rw [hpp]
      obtain ⟨f0, f1, f2, f3⟩ := fin (.loop { r with state := .exhausted, pending := some c })
      cases x with
      | ret =>
        cases hj
        exact wpIn_ret ⟨S', μ', H', hq, f1, f2, hfr, f3, by rw [← f0]; exact hsz⟩
      | exit id =>
        cases hj
        exact wpIn_exit ⟨S', μ', H', hq, f1, f2, hfr, f3, by rw [← f0]; exact hsz⟩
      | normal => cases hj
      | goto t => cases hj
      | panic ch => cases hj
      | outgrown => cases hj
theorem zli {lo : Option Nat} {N : FS} {ops : Array Oper} {L : List Oper} {K : ASt → Prop} {Q : Exit → Act → World → Prop} {l2 : List Oper} {w0 : World} {S0 : SS} {μ0 : List Value} {H0 : List AObj} (hl0 : μ0.length = H0.length)
  (hK : ∀ s w S μ a,K s → Rel w S μ s.H → Fr S μ N s.T a → GOk G S → Step H0.length w0 S0 μ0 H0 w S μ s.H → wpListIn (FL lo) d P ops Q l2 a w) : ∀ (l : List Oper) (s : ASt),(l.all fun o=>o.guard.isNone) = true → zbu P G L l s K → fits N l = true →
  ∀ w S μ a,Rel w S μ s.H → Fr S μ N s.T a → GOk G S → Step H0.length w0 S0 μ0 H0 w S μ s.H → wpListIn (FL lo) d P ops Q (l ++ l2) a w
 |[],s,_,h,_,w,S,μ,a,hr,hf,hg,hs=>hK s w S μ a h hr hf hg hs
 |o :: r,s,hgu,h,hfit,w,S,μ,a,hr,hf,hg,hs=>by
  simp only [fits,List.all_cons,Bool.and_eq_true] at hfit hgu
  have hd : ∀ i,o.dst = some i → i < N := fun i e=>by have := hfit.1;rw [e] at this;simpa using this
  have hgd : o.guard = none := by simpa using hgu.1
  unfold zbu at h
  rw [hgd] at h
  dsimp only at h
  show wpListIn (FL lo) d P ops Q (o :: (r ++ l2)) a w
  unfold wpListIn
  rw [if_pos (by simp [Region.wanted,hgd])]
  refine op_in (zil h) (_root_.Go.Proofs.Ytaaogcnjfkgnoaa.Oper.wp_next (zeh h hr hf hg Q) fun a' w'=>?_)
  rintro ⟨x,u,H',S',μ',hrest,rfl,hrep,hr',hs',_⟩
  have hst := (hf.ext (hs'.toExt hr)).put o.dst hd hrep
  have hn' : H0.length ≤ s.H.length := by
   have := hs.objs
   rcases Nat.lt_or_ge s.H.length H0.length with hlt|hge
   ·have hlm : s.H.length < μ0.length := by omega
    obtain ⟨x',hx',_⟩ := hs.objs s.H.length μ0[s.H.length] hlt (List.getElem?_eq_getElem hlm)
    have := (List.getElem?_eq_some_iff.1 hx').1
    rw [hr.len] at this;omega
   ·exact hge
  exact zli hl0 hK r _ hgu.2 hrest hfit.2 w' S' μ' _ hr' hst (hg.ext hs'.still) (hs.trans (hs'.less hn'))
theorem zjC {R : Type} {E : Env} {M : Nat} {N : FS} (hE : EnvOk P G E) (hp : E.any isPan = false) {r : R} {id : Nat} {ops : List Oper} {h : Hint} {s : ASt} {k : KO R} (hx : exec P G E M N (.region id ops.toArray false) h s k = some r) :
  fits N ops = true ∧ zbu P G ops ops s (Aft (fun s=>k .normal s) r) := by
 obtain ⟨h1,h2⟩ := z03 (show whenE (fits N ops) (match panQ E ops with
  |true=>runP P G E ops s (fun s=>k .normal s) (fun u s=>k (.panic (pch u)) s)
  |false=>runE P G E false ops [] ops s fun s=>k .normal s) = some r from hx)
 have hq : panQ E ops = false := by unfold panQ;rw [hp];rfl
 rw [hq] at h2
 exact ⟨h1,zfD hE (TEq.refl s.T) SkOk.nil h2⟩
def zmo (n : Nat) (H : List AObj) (X : AV) : RO := whenE (decide (n ≤ H.length) && (H.take n).all (ltO n)) (some (X,H.take n))
noncomputable abbrev rndFK (n : Nat) : KO (AV × List AObj) := fun e s=>match e with
 |.normal=>zmo n s.H (V (.bool true))
 |.ret=>zmo n s.H (V (.bool false))
 |.exit i=>zmo n s.H (V (.int .i64 i))
 |_=>none
theorem rndX (P : Program) (G : Gl) (E : Env) (M : Nat) (N : FS) (n : Nat) (c : Code) (h : Hint) (s : ASt) : exec P G E M N c h s (rndFK n) = execK P G E M N c h s (rndFK n) := (z8w c h s _).symm
theorem ztB {X : AV} : zmo n H X = whenE (decide (n ≤ H.length) && (H.take n).all (ltO n)) (some (X,H.take n)) := _root_.id rfl
attribute [go_sem] ztB
def xA : Exit → AV
 |.normal=>V (.bool true)
 |.ret=>V (.bool false)
 |.exit i=>V (.int .i64 i)
 |_=>.nil
theorem ztK {e : Exit} {s : ASt} {X : AV} (h : rndFK n e s = some (X,H')) : (e = .normal ∨ ∃ c,zqw e = some c) ∧ X = xA e ∧ n ≤ s.H.length ∧ H' = s.H.take n ∧ (s.H.take n).all (ltO n) = true := by
 have key : ∀ Y,zmo n s.H Y = some (X,H') → X = Y ∧ n ≤ s.H.length ∧ H' = s.H.take n ∧ (s.H.take n).all (ltO n) = true := fun Y q=>by
  obtain ⟨h1,h2⟩ := z03 q
  simp only [Bool.and_eq_true,decide_eq_true_eq] at h1
  cases h2
  exact ⟨rfl,h1.1,rfl,h1.2⟩
 cases e with
 |normal=>exact ⟨.inl rfl,key _ h⟩
 |ret=>exact ⟨.inr ⟨_,rfl⟩,key _ h⟩
 |exit i=>exact ⟨.inr ⟨_,rfl⟩,key _ h⟩
 |goto l=>cases h
 |panic ch=>cases h
 |outgrown=>cases h
def rfS : Code → Code|.rangeFunc _ _ a b=>.seq a b|c=>c
def regP (k : Nat) : Code → Code|.region id ops dr=>.region id (ops.toList.take k).toArray dr|c=>c
def regD (k : Nat) : Code → Code|.region id ops dr=>.region id (ops.toList.drop k).toArray dr|c=>c
theorem zln {E : Env} {M : Nat} (hE : EnvOk P G E) (hp : E.any isPan = false) {l fn D N : Nat} {tm : Array Value} {ps : List Nat} {id : Nat} {ops : List Oper} {body : Code} {T : Tm} {xs : List AV} {vs : List Value} {h : Hint} {X : AV}
  (hr : Rel w S μ H) (hf : Fr S μ (F0 N) T ⟨tm,[]⟩) (hg : GOk G S) (hps : ∀ p ∈ ps,p < N) (hl : w.heap[l]? = some (.loop ⟨.ready,none,fn,tm,ps.toArray, .region id ops.toArray false,body,D⟩)) (h1 : vs.length = xs.length) (h2 : xs.length = ps.length)
  (hv : ∀ (j : Nat) (x : AV) (v : Value),xs[j]? = some x → vs[j]? = some v → rep S μ x v) (hfl : flatC body = true) (hJ : h.J = none)
  (hx : exec P G E M (F0 N) (.seq (.region id ops.toArray false) body) h ⟨H,setPs ps xs T⟩ (rndFK H.length) = some (X,H')) :
  YieldAt Fence.wide d P l vs.toArray w (YPost l ⟨.ready,none,fn,tm,ps.toArray, .region id ops.toArray false,body,D⟩ w S μ H fun x H2=>X = xA x ∧ H2 = H') := by
 have hx' : exec P G E M (F0 N) (.region id ops.toArray false) h.l ⟨H,setPs ps xs T⟩ (fun e s'=>match e with|.normal=>exec P G E M (F0 N) body h.r (ghJ h.gho (joinS h.J s')) (rndFK H.length)|e=>rndFK H.length e s') = some (X,H') := hx
 obtain ⟨f1,f2⟩ := zjC hE hp hx'
 have hgn : h.gho = none := Hint.gho_none hJ
 refine zsH (Q := fun e s=>rndFK H.length e s = some (X,H')) hr hf hg hps hl h1 h2 hv ?_ ?_
 ·have q := zlx (lo := some l) (d := d) (n := H.length) (id := id) (s := ⟨H,setPs ps xs T⟩) (G := G) (Q := fun e s'=>e = .normal ∧ Aft (fun s'=>exec P G E M (F0 N) body h.r (ghJ h.gho (joinS h.J s')) (rndFK H.length)) (X,H') s') f1 (Nat.le_refl _) (za7 (fun s q=>⟨rfl,q⟩) f2)
  refine AWi.mono (AWi.len q (Nat.le_refl _)) fun e s' q=>?_
  obtain ⟨⟨rfl,T2,ht,q⟩,hl⟩ := q
  rw [hgn,hJ] at q
  exact AWi.text ht (zim hE hp body h.r ⟨s'.H,T2⟩ _ hfl hl q)
 ·intro e s q
  obtain ⟨q1,q2,q3,q4,q5⟩ := ztK q
  have hl : (s.H.take H.length).length = H.length := by rw [List.length_take];omega
  exact ⟨q1,s.H.take H.length,HLe.take _ _,by rw [hl];exact q5,by rw [hl];exact Nat.le_refl _,q2,q4.symm⟩
theorem zlh {o : Oper} {a : Act} {t : Tmp} {args : Array Operand} {ts : Array TypeId} {l : Nat} {x : Next} {w' : World} {lo : Option Nat} (ho : o.op = .call { callee := .value (.tmp t),args := args,argTypes := ts }) (ht : a.eval (.tmp t) = .func (.yield l) #[] #[])
  (hy : (Instr.yield l (args.map a.eval)).run P w = .ok x w') : (Oper.semAt lo a.eval o).run P w = .ok x w' := by
 have e : Oper.semAt lo a.eval o = execOp a.eval o := by
  cases lo with
  |none=>exact Oper.semAt_none _ _
  |some l=>exact Oper.semAt_some _ _ _ (fun c q=>by rw [ho] at q;cases q)
 rw [e]
 unfold execOp
 rw [ho]
 simp only [resolve,ht,Deferred.ofValue,Sem.run_bind,Sem.run_pure,Result.andThen_ok,invoke]
 simp [hy]
theorem zsM {o : Oper} {a : Act} {t : Tmp} {args : Array Operand} {ts : Array TypeId} {l : Nat} {R : Ending → World → Prop} {next : Act → World → Prop} {Q : Exit → Act → World → Prop} (ho : o.op = .call { callee := .value (.tmp t),args := args,argTypes := ts }) (ht : a.eval (.tmp t) = .func (.yield l) #[] #[])
  (hy : YieldAt Fence.wide (d - 1) P l (args.map a.eval) w R) (h : ∀ e w',R e w' → ∃ v,e = .returned v ∧ next (a.put o.dst v) w') : o.wpIn (FL none) d P a w next Q := by
 refine ⟨fun _ _=>trivial,?_⟩
 obtain ⟨fn,tmps,asg,bd,h1,h2⟩ := hy
 rw [zlh ho ht h1]
 refine ⟨fun q=>(by cases q),RoundIn.mono h2 ?_⟩
 intro e w' hR
 obtain ⟨v,rfl,hn⟩ := h e w' hR
 exact hn
end
end Go.Proofs.Ytaaogcnjfkgnoaa

namespace Go.Proofs.Ytaaogcnjfkgnoaa
open Go.RowKit
section
variable {P : Program} {G : Gl} {n d : Nat} {N : FS} {w w' w0 : World} {S S' S0 : SS} {μ μ' μ0 : List Value} {H H' H0 : List AObj} {E : Env} {M : Nat}
theorem zm3 {T2 : Tm} : ∀ {rs : List Tmp} {ds : List AV},(TU ds : AV) = TU (sltK T2 rs) → ∀ i,get (rs.zip ds) i = get T2 i ∨ get (rs.zip ds) i = .nil := by
 intro rs ds h
 rw [zrl] at h
 simp only [DataW.iface.injEq,DataW.agg.injEq,true_and] at h
 subst h
 induction rs with
 |nil=>exact fun i=>.inr rfl
 |cons t r ih =>
  intro i
  simp only [List.map_cons,List.zip_cons_cons,_root_.Go.Proofs.Ytaaogcnjfkgnoaa.get]
  split
  ·rename_i e;subst e;exact .inl rfl
  ·exact ih i
theorem Fr.less {T T' : Tm} {a : Act} (hf : Fr S μ N T a) (h : ∀ i,get T' i = get T i ∨ get T' i = .nil) : Fr S μ N T' a :=
 ⟨hf.size,hf.nodef,fun i=>by
  rcases h i with e|e
  ·rw [e];exact hf.slot i
  ·rw [e];exact zlJ _ _ _⟩
theorem Fr.some {T T' : Tm} {a : Act} (hf : Fr S μ N T a) (h : ∀ p ∈ T',get T p.1 = p.2) : Fr S μ N T' a := hf.less (by
 intro i
 induction T' with
 |nil=>exact .inr rfl
 |cons p r ih =>
  obtain ⟨j,x⟩ := p
  simp only [_root_.Go.Proofs.Ytaaogcnjfkgnoaa.get]
  split
  ·rename_i e
   subst e
   exact .inl (h (j,x) (List.mem_cons_self ..)).symm
  ·exact ih fun p hp=>h p (List.mem_cons_of_mem _ hp))
theorem zm4 {rs : List Tmp} {e : Exit} {s : ASt} {X : AV} (h : nslFK rs e s = some (X,H')) : e = .normal ∧ X = TU (sltK s.T rs) ∧ s.H = H' := by
 cases e with
 |normal=>cases h;exact ⟨rfl,rfl,rfl⟩
 |exit id=>cases h
 |goto l=>cases h
 |ret=>cases h
 |panic ch=>cases h
 |outgrown=>cases h
def PartP (G : Gl) (N : FS) (rs : List Tmp) (ds : List AV) (w : World) (S : SS) (μ : List Value) (H H' : List AObj) (a' : Act) (w' : World) : Prop :=
 ∃ S' μ',Rel w' S' μ' H' ∧ Fr S' μ' N (rs.zip ds) a' ∧ GOk G S' ∧ Step H.length w S μ H w' S' μ' H'
theorem zkC (hm : P.follows .mixedOrders = true) (hE : EnvOk P G E) {c : Code} {h : Hint} {s : ASt} {rs : List Tmp} {ds : List AV} {a : Act} (hx : exec P G E M N c h s (nslFK rs) = some (TU ds,H')) (hr : Rel w S μ s.H) (hf : Fr S μ N s.T a) (hg : GOk G S) :
  c.wpIn (FL none) d P (fun e a' w'=>e = .normal ∧ PartP G N rs ds w S μ s.H H' a' w') a w := by
 refine wpIn_wide.2 (wp_mono (zat (n := s.H.length) hm hE c h s _ (Nat.le_refl _) hx w S μ a hr hf hg) ?_)
 rintro e a' w' ⟨s',S',μ',hq,hr',hf',hst⟩
 obtain ⟨rfl,e2,rfl⟩ := zm4 hq
 exact ⟨rfl,S',μ',hr',hf'.less (zm3 e2),hg.ext hst.still,hst⟩
theorem zoK (hE : EnvOk P G E) (hp : E.any isPan = false) {id : Nat} {l : List Oper} {h : Hint} {s : ASt} {rs : List Tmp} {ds : List AV} {a : Act} {ops : Array Oper} {l2 : List Oper} {Q : Exit → Act → World → Prop} (hgu : (l.all fun o=>o.guard.isNone) = true) (hx : exec P G E M N (.region id l.toArray false) h s (nslFK rs) = some (TU ds,H'))
  (hr : Rel w S μ s.H) (hf : Fr S μ N s.T a) (hg : GOk G S) (hK : ∀ a' w',PartP G N rs ds w S μ s.H H' a' w' → wpListIn (FL none) d P ops Q l2 a' w') : wpListIn (FL none) d P ops Q (l ++ l2) a w := by
 obtain ⟨f1,f2⟩ := zjC hE hp hx
 refine zli (L := l) (N := N) hr.len ?_ l s hgu f2 f1 w S μ a hr hf hg (Step.refl _ _ _ _ _)
 rintro s' w' S' μ' a' ⟨T2,ht,hk⟩ hr' hf' hg' hst
 obtain ⟨_,e2,e3⟩ := zm4 (s := ⟨s'.H,T2⟩) hk
 dsimp only at e2 e3
 subst e3
 exact hK a' w' ⟨S',μ',hr',(hf'.less fun i=>.inl (ht i).symm).less (zm3 e2),hg',hst⟩
theorem ztl (hE : EnvOk P G E) (hp : E.any isPan = false) {id : Nat} {l : List Oper} {h : Hint} {s : ASt} {rs : List Tmp} {ds : List AV} {a : Act} {ops : Array Oper} {Q : Exit → Act → World → Prop} (hgu : (l.all fun o=>o.guard.isNone) = true) (hx : exec P G E M N (.region id l.toArray false) h s (nslFK rs) = some (TU ds,H'))
  (hr : Rel w S μ s.H) (hf : Fr S μ N s.T a) (hg : GOk G S) (hK : ∀ a' w',PartP G N rs ds w S μ s.H H' a' w' → Q .normal a' w') : wpListIn (FL none) d P ops Q l a w := by
 have key := zoK (d := d) (ops := ops) (l2 := []) (Q := Q) hE hp hgu hx hr hf hg fun a' w' q=>wpListIn_nil (hK a' w' q)
 rwa [List.append_nil] at key
theorem zi7 (hm : P.follows .mixedOrders = true) (hE : EnvOk P G E) {rs : List Tmp} {ds : List AV} {Q : Exit → Act → World → Prop} : ∀ (m : Nat) (c : Code) (h : Hint) (s : ASt) {w : World} {S : SS} {μ : List Value} {a : Act},deepC m c = true → exec P G E M N (farC m c .skip) h s (nslFK rs) = some (TU ds,H') →
  Rel w S μ s.H → Fr S μ N s.T a → GOk G S →
  (∀ a' w',(∃ S' μ',n ≤ H'.length ∧ Rel w' S' μ' H' ∧ Fr S' μ' N (rs.zip ds) a' ∧ GOk G S' ∧ Step n w S μ s.H w' S' μ' H') → (endC m c).wpIn (FL none) d P Q a' w') → n ≤ s.H.length → c.wpIn (FL none) d P Q a w
 |0,c,h,s,w,S,μ,a,hd,hx,hr,hf,hg,hK,hn=>by
  have hx : nslFK rs .normal s = some (TU ds,H') := hx
  obtain ⟨_,e2,e3⟩ := zm4 hx
  subst e3
  exact hK a w ⟨S,μ,hn,hr,hf.less (zm3 e2),hg,Step.refl _ _ _ _ _⟩
 |m + 1, .seq x y,h,s,w,S,μ,a,hd,hx,hr,hf,hg,hK,hn=>by
  refine wpIn_seq (wpIn_mono (wpIn_wide.2 (AWp.len (zat (n := n) hm hE x h.l s _ hn hx) hn w S μ a hr hf hg)) ?_)
  rintro e a' w' ⟨s',S',μ',⟨hq,hl⟩,hr',hf',hst⟩
  cases e with
  |normal =>
   have q : exec P G E M N (farC m y .skip) h.r (ghJ h.gho (joinS h.J s')) (nslFK rs) = some (TU ds,H') := hq
   have key : ∀ (T3 : Tm),(∀ i,get T3 i = get s'.T i ∨ get T3 i = .nil) → exec P G E M N (farC m y .skip) h.r (ghJ h.gho ⟨s'.H,T3⟩) (nslFK rs) = some (TU ds,H') → y.wpIn (FL none) d P Q a' w' := by
    intro T3 h3 q
    have gh : ∀ g,∃ μ2,Rel w' S' μ2 (ghJ g ⟨s'.H,T3⟩).H ∧ Fr S' μ2 N (ghJ g ⟨s'.H,T3⟩).T a' ∧ Step n w' S' μ' s'.H w' S' μ2 (ghJ g ⟨s'.H,T3⟩).H := by
     intro g
     have triv : ∃ μ2,Rel w' S' μ2 s'.H ∧ Fr S' μ2 N T3 a' ∧ Step n w' S' μ' s'.H w' S' μ2 s'.H := ⟨μ',hr',hf'.less h3,Step.refl _ _ _ _ _⟩
     cases g with
     |none=>exact triv
     |some g =>
      obtain ⟨i,off,e,z⟩ := g
      show ∃ μ2,Rel w' S' μ2 (ghS i off e z ⟨s'.H,T3⟩).H ∧ Fr S' μ2 N (ghS i off e z ⟨s'.H,T3⟩).T a' ∧ Step n w' S' μ' s'.H w' S' μ2 (ghS i off e z ⟨s'.H,T3⟩).H
      unfold ghS
      split
      ·rename_i j hi
       split
       ·rename_i ob hj
        split
        ·rename_i hk hc
         obtain ⟨h1,h2⟩ := hr'.nilRow none e z
         have hjl : j < s'.H.length := (List.getElem?_eq_some_iff.1 hj).1
         obtain ⟨h3',h4⟩ := h1.recell (off := off) (d' := OW s'.H.length 0) (by rw [List.getElem?_append_left hjl];exact hj) hk hc (fun u hu=>⟨none,0,0,none,0,by rw [← hr'.len];simp,Nat.le_refl _,hu.1,fun _=>⟨rfl,rfl⟩⟩)
         rw [List.set_append_left _ _ hjl] at h3' h4
         have hx : Ext S' μ' S' (μ' ++ [.slice none 0 0]) := zjZ S' μ' _
         exact ⟨_,h3',(hf'.less h3).ext hx,(h2.less hl).trans (h4.less (by simp only [List.length_append];omega))⟩
        ·exact triv
       ·exact triv
      ·exact triv
    obtain ⟨μ2,g1,g2,g3⟩ := gh h.gho
    have hl2 : n ≤ (ghJ h.gho ⟨s'.H,T3⟩).H.length := Nat.le_trans hl (zkR h.gho ⟨s'.H,T3⟩)
    refine zi7 hm hE m y h.r (ghJ h.gho ⟨s'.H,T3⟩) hd q g1 g2 (hg.ext hst.still) ?_ hl2
    rintro a2 w2 ⟨S2,μ3,b1,b2,b3,b4,b5⟩
    exact hK a2 w2 ⟨S2,μ3,b1,b2,b3,b4,(hst.trans g3).trans b5⟩
   cases hj : h.J with
   |none=>rw [hj] at q;exact key s'.T (fun i=>.inl rfl) q
   |some L=>rw [hj] at q;exact key (keepT L s'.T) (zek L s'.T) q
  |exit id=>cases hq
  |goto l=>cases hq
  |ret=>cases hq
  |panic ch=>cases hq
  |outgrown=>cases hq
end
end Go.Proofs.Ytaaogcnjfkgnoaa

namespace Go.Proofs.Ytaaogcnjfkgnoaa
open Go.RowKit
def z0a : TypeId := 54
def z00 : TypeId := 30
def z01 : TypeId := 41
def z6Y : TypeId := 3
def zc_api_Cert : List AV := [(V (.int .i64 0)),(V (.int .i64 0)),(V (.int .i64 0)),(V (.string ⟨#[]⟩)),(V (.slice none 0 0))]
def zc_api_Stmt : List AV := [(V (.int .i64 0)),(V (.int .i64 0)),(V (.int .i64 0)),(V (.int .i64 0)),(V (.int .i64 0))]
noncomputable def z7C : Code := (Try.f80.body).getD .skip
def wire_number_h : Hint := (.two .n (.join [] (.two .n (.one (.lp [] [5,6,7] [2] (.two .n (.two (.two .n .n) (.join [5,6,7] (.one (.two .n (.join [5,6,7,16] .n (.two (.two .n .n) .n)))) .n)))))) (.two .n .n)))
noncomputable def z76 (m : Nat) : Env := []
noncomputable abbrev zbf : KO (AV × List AObj) := z3I Try.prog [.tmp 2]
noncomputable def zck (m : Nat) (n0 : Nat) (kc : ASt → RO) (kx : KO (AV × List AObj)) (s : ASt) : RO := joinW Try.prog GG (z76 m) m ⟨18,[]⟩ (cdR (cdR (cdR (cdL (cdL (cdR (cdL (cdR z7C)))))))) wire_number_h.r.l.r.c.c.r.r.r s (backW n0 [5,6,7] [2] kc kx)
noncomputable def zcG (m : Nat) (n0 : Nat) (kc : ASt → RO) (kx : KO (AV × List AObj)) (s : ASt) : RO := joinW Try.prog GG (z76 m) m ⟨18,[]⟩ (cdR (cdR (cdL (cdL (cdR (cdR (cdL (cdL (cdR (cdL (cdR z7C))))))))))) wire_number_h.r.l.r.c.c.r.r.l.c.r.r s (z3K 1 (seqX (fun s=>zck m n0 kc kx ⟨s.H,[(5,gt s.T 5),(6,gt s.T 6),(7,gt s.T 7)]⟩) (backW n0 [5,6,7] [2] kc kx)))
noncomputable def zg9 (m : Nat) (s : ASt) : RO := joinW Try.prog GG (z76 m) m ⟨18,[]⟩ (cdR (cdR z7C)) wire_number_h.r.r s (zbf)
noncomputable def zfK (m : Nat) (s : ASt) (kc : ASt → RO) (kx : KO (AV × List AObj)) : RO := bodyW Try.prog GG (z76 m) m ⟨18,[]⟩ (cdL (cdL (cdR (cdL (cdR z7C))))) wire_number_h.r.l.r.c.c [5,6,7] [2] s kc kx
noncomputable def zaa (m : Nat) (t0 : AV) : RO := exec Try.prog GG (z76 m) m ⟨18,[]⟩ z7C wire_number_h ⟨[],argsT 0 [t0]⟩ (zbf)
theorem z7h (m : Nat) (n0 : Nat) (kc : ASt → RO) (kx : KO (AV × List AObj)) (H : List AObj) (t5 t6 t7 : AV) : zck m n0 kc kx ⟨H,[(5,t5),(6,t6),(7,t7)]⟩ =
 binE none false false .add t7 (V (.int .i64 1)) fun t17 =>
 backE n0 H [(5,t5),(6,t6),(7,t17)] kc := by
 refine (z04 _ _ _ _ _ _ _ _ _).trans ?_
 kernel_rfl
theorem z7i (m : Nat) (n0 : Nat) (kc : ASt → RO) (kx : KO (AV × List AObj)) (H : List AObj) (t5 t6 t7 t16 : AV) : zcG m n0 kc kx ⟨H,[(5,t5),(6,t6),(7,t7),(16,t16)]⟩ =
 condE t16 (
  kx .ret ⟨H,[(2,(V (.bool false)))]⟩) (
  zck m n0 kc kx ⟨H,[(5,t5),(6,t6),(7,t7)]⟩) := by
 refine (z04 _ _ _ _ _ _ _ _ _).trans ?_
 kernel_rfl
theorem z7e (m : Nat) (H : List AObj) : zg9 m ⟨H,[]⟩ =
 tellK H (ro H (V (.bool true))) := by
 refine (z04 _ _ _ _ _ _ _ _ _).trans ?_
 kernel_rfl
theorem zhQ (m : Nat) (H : List AObj) (t5 t6 t7 : AV) (kc : ASt → RO) (kx : KO (AV × List AObj)) : zfK m ⟨H,[(5,t5),(6,t6),(7,t7)]⟩ kc kx =
 binE none false false .lss t7 t6 fun t8 =>
 condE t8 (
  idxSE 1 H t5 t7 fun t9 =>
  loadE 1 H t9 fun t10 =>
  binE none false false .lss t10 (V (.int .i64 0)) fun t12 =>
  condE t12 (
   zcG m H.length kc kx ⟨H,[(5,t5),(6,t6),(7,t7),(16,(V (.bool true)))]⟩) (
   binE none false false .gtr t10 (V (.int .i64 2147483647)) fun t15 =>
   zcG m H.length kc kx ⟨H,[(5,t5),(6,t6),(7,t7),(16,t15)]⟩)) (
  kx (.exit 0) ⟨H,[(2, .nil)]⟩) := by
 refine (z2i _ _ _ _ _ _ _ _ _ _ _ _).trans ?_
 kernel_rfl
theorem zkj (m : Nat) (t0 : AV) : zaa m t0 =
 lenE false true [] t0 fun t6 =>
 iterC m (zfK m) ⟨[],[(5,t0),(6,t6),(7,(V (.int .i64 0)))]⟩ (z3K 0 (seqX (fun s=>zg9 m ⟨s.H,[]⟩) (zbf))) := by
 refine (tellX _ _ _ _ _ _ _ _ _).trans ?_
 kernel_rfl
noncomputable def z9s (m : Nat) : List AV → RO|[t0]=>zaa m t0|_=>none
theorem zcK (m : Nat) : ∀ args X H',z9s m args = some (X,H') → ACp Try.prog GG 80 args X := by
 intro args X H' h
 unfold z9s at h
 split at h
 ·exact z0B MIX (by intro f e h;cases h) (f := 80) (c := z7C) Try.func80 rfl (by kernel_rfl) _ rfl Try.ntmps80 (Nat.le_of_ble_eq_true rfl) wire_number_h h
 ·cases h
noncomputable def ziB : Code := (Try.f79.body).getD .skip
def ziF : Hint := (.two .n (.two .n .n))
noncomputable def zks (m : Nat) : Env := []
noncomputable abbrev zkN : KO (AV × List AObj) := z3I Try.prog [.tmp 2]
noncomputable def zdW (m : Nat) (t0 : AV) : RO := exec Try.prog GG (zks m) m ⟨9,[]⟩ ziB ziF ⟨[],argsT 0 [t0]⟩ (zkN)
theorem zkP (m : Nat) (t0 : AV) : zdW m t0 =
 binE none false false .geq t0 (V (.int .i64 0)) fun t4 =>
 condE t4 (
  binE none false false .lss t0 (V (.int .i64 64)) fun t7 =>
  tellK [] (ro [] t7)) (
  tellK [] (ro [] (V (.bool false)))) := by
 refine (tellX _ _ _ _ _ _ _ _ _).trans ?_
 kernel_rfl
noncomputable def zcp (m : Nat) : List AV → RO|[t0]=>zdW m t0|_=>none
theorem zhw (m : Nat) : ∀ args X H',zcp m args = some (X,H') → ACp Try.prog GG 79 args X := by
 intro args X H' h
 unfold zcp at h
 split at h
 ·exact z0B MIX (by intro f e h;cases h) (f := 79) (c := ziB) Try.func79 rfl (by kernel_rfl) _ rfl Try.ntmps79 (Nat.le_of_ble_eq_true rfl) ziF h
 ·cases h
noncomputable def zk8 : Code := (Try.f82.body).getD .skip
def zk1 : Hint := (.two .n (.two .n .n))
noncomputable def zhu (m : Nat) : Env := [(79, .tell (zcp m)),(80, .tell (z9s m))]
noncomputable abbrev zl7 : KO (AV × List AObj) := z3I Try.prog [.tmp 2]
noncomputable def zi9 (m : Nat) (t0 : AV) : RO := exec Try.prog GG (zhu m) m ⟨18,[]⟩ zk8 zk1 ⟨[],argsT 0 [t0]⟩ (zl7)
theorem zlW (m : Nat) (t0 : AV) : zi9 m t0 =
 boxE z01 [] t0 fun t1 H1 =>
 z02 (some (0,1)) t1 fun t3 =>
 loadE 1 H1 t3 fun t4 =>
 tellE (zdW m (ro H1 t4)) [(ro H1 t4)] fun t5 =>
 condE t5 (
  z02 (some (1,1)) t1 fun t7 =>
  loadE 1 H1 t7 fun t8 =>
  z02 (some (2,1)) t1 fun t9 =>
  loadE 1 H1 t9 fun t10 =>
  z02 (some (3,1)) t1 fun t11 =>
  loadE 1 H1 t11 fun t12 =>
  z02 (some (4,1)) t1 fun t13 =>
  loadE 1 H1 t13 fun t14 =>
  z1a (some (z6Y,1)) 4 [(0,t8),(1,t10),(2,t12),(3,t14)] fun t15 =>
  tellE (zaa m (ro H1 t15)) [(ro H1 t15)] fun t16 =>
  tellK H1 (ro H1 t16)) (
  tellK H1 (ro H1 (V (.bool false)))) := by
 refine (tellX _ _ _ _ _ _ _ _ _).trans ?_
 kernel_rfl
noncomputable def zbK (m : Nat) : List AV → RO|[t0]=>zi9 m t0|_=>none
theorem zlT (m : Nat) : ∀ args X H',zbK m args = some (X,H') → ACp Try.prog GG 82 args X := by
 intro args X H' h
 unfold zbK at h
 split at h
 ·exact z0B MIX (by
  intro f e h
  simp only [zhu,Prod.mk.injEq,List.mem_cons,List.not_mem_nil,or_false] at h
  rcases h with ⟨rfl,rfl⟩|⟨rfl,rfl⟩
  ·exact zhw m
  ·exact zcK m) (f := 82) (c := zk8) Try.func82 rfl (by kernel_rfl) _ rfl Try.ntmps82 (Nat.le_of_ble_eq_true rfl) zk1 h
 ·cases h
noncomputable def z7S : Code := (Try.f81.body).getD .skip
def wire_list_Stmt_h : Hint := (.two .n (.two (.two .n (.two (.two .n .n) .n)) (.join [] (.two .n (.one (.lp [] [1,10,11,12] [4] (.two .n (.two (.two .n .n) (.two (.one (.two .n (.two .n (.two (.two .n .n) .n)))) .n)))))) (.two .n .n))))
noncomputable def z3X (m : Nat) : Env := [(82, .tell (zbK m))]
noncomputable abbrev z98 : KO (AV × List AObj) := z3I Try.prog [.tmp 4]
noncomputable def zcO (m : Nat) (s : ASt) : RO := joinW Try.prog GG (z3X m) m ⟨21,[]⟩ (cdR (cdR (cdR z7S))) wire_list_Stmt_h.r.r.r s (z98)
noncomputable def zd5 (m : Nat) (s : ASt) (kc : ASt → RO) (kx : KO (AV × List AObj)) : RO := bodyW Try.prog GG (z3X m) m ⟨21,[]⟩ (cdL (cdL (cdR (cdL (cdR (cdR z7S)))))) wire_list_Stmt_h.r.r.l.r.c.c [1,10,11,12] [4] s kc kx
noncomputable def z8h (m : Nat) (t0 t1 : AV) : RO := exec Try.prog GG (z3X m) m ⟨21,[]⟩ z7S wire_list_Stmt_h ⟨[],argsT 0 [t0,t1]⟩ (z98)
theorem z7k (m : Nat) (H : List AObj) : zcO m ⟨H,[]⟩ =
 tellK H (ro H (V (.bool true))) := by
 refine (z04 _ _ _ _ _ _ _ _ _).trans ?_
 kernel_rfl
theorem zf4 (m : Nat) (H : List AObj) (t1 t10 t11 t12 : AV) (kc : ASt → RO) (kx : KO (AV × List AObj)) : zd5 m ⟨H,[(1,t1),(10,t10),(11,t11),(12,t12)]⟩ kc kx =
 binE none false false .lss t12 t11 fun t13 =>
 condE t13 (
  idxSE 7 H t10 t12 fun t14 =>
  loadE 7 H t14 fun t15 =>
  z4P (some zc_api_Stmt) z01 H fun t6 H2 =>
  z1e 7 H2 t6 t15 fun H3 =>
  loadE 7 H3 t6 fun t17 =>
  zec (z3X m) t1 [t17] H3 fun t18 H4 =>
  unE .not t18 fun t19 =>
  condE t19 (
   kx .ret ⟨H4,[(4,(V (.bool false)))]⟩) (
   binE none false false .add t12 (V (.int .i64 1)) fun t20 =>
   backE H.length H4 [(1,t1),(10,t10),(11,t11),(12,t20)] kc)) (
  kx (.exit 0) ⟨H,[(4, .nil)]⟩) := by
 refine (z2i _ _ _ _ _ _ _ _ _ _ _ _).trans ?_
 kernel_rfl
theorem zhJ (m : Nat) (t0 t1 : AV) : z8h m t0 t1 =
 lenE false true [] t0 fun t8 =>
 binE none false false .gtr t8 (V (.int .i64 64)) fun t9 =>
 condE t9 (
  tellK [] (ro [] (V (.bool false)))) (
  lenE false true [] t0 fun t11 =>
  iterC m (zd5 m) ⟨[],[(1,t1),(10,t0),(11,t11),(12,(V (.int .i64 0)))]⟩ (z3K 0 (seqX (fun s=>zcO m ⟨s.H,[]⟩) (z98)))) := by
 refine (tellX _ _ _ _ _ _ _ _ _).trans ?_
 kernel_rfl
noncomputable def z80 (m : Nat) : List AV → RO|[t0,t1]=>z8h m t0 t1|_=>none
theorem zd7 (m : Nat) : ∀ args X H',z80 m args = some (X,H') → ACp Try.prog GG 81 args X := by
 intro args X H' h
 unfold z80 at h
 split at h
 ·exact z0B MIX (by
  intro f e h
  simp only [z3X,Prod.mk.injEq,List.mem_cons,List.not_mem_nil,or_false] at h
  obtain ⟨rfl,rfl⟩ := h
  ·exact zlT m) (f := 81) (c := z7S) Try.func81 rfl (by kernel_rfl) _ rfl Try.ntmps81 (Nat.le_of_ble_eq_true rfl) wire_list_Stmt_h h
 ·cases h
noncomputable def zjP : Code := (Try.f84.body).getD .skip
def zjK : Hint := (.two .n (.two .n .n))
noncomputable def zhq (m : Nat) : Env := [(80, .tell (z9s m)),(81, .tell (z80 m))]
noncomputable abbrev zl5 : KO (AV × List AObj) := z3I Try.prog [.tmp 2]
noncomputable def zid (m : Nat) (t0 : AV) : RO := exec Try.prog GG (zhq m) m ⟨22,[]⟩ zjP zjK ⟨[],argsT 0 [t0]⟩ (zl5)
theorem zmd (m : Nat) (t0 : AV) : zid m t0 =
 boxE z0a [] t0 fun t1 H1 =>
 z02 (some (0,1)) t1 fun t3 =>
 loadE 1 H1 t3 fun t4 =>
 z02 (some (1,1)) t1 fun t5 =>
 loadE 1 H1 t5 fun t6 =>
 z02 (some (2,1)) t1 fun t7 =>
 loadE 1 H1 t7 fun t8 =>
 z1a (some (z6Y,1)) 3 [(0,t4),(1,t6),(2,t8)] fun t9 =>
 tellE (zaa m (ro H1 t9)) [(ro H1 t9)] fun t10 =>
 condE t10 (
  z02 (some (3,1)) t1 fun t12 =>
  loadE 1 H1 t12 fun t13 =>
  lenE true false H1 t13 fun t14 =>
  binE none false false .leq t14 (V (.int .i64 65536)) fun t15 =>
  condE t15 (
  z02 (some (4,1)) t1 fun t18 =>
  loadE 1 H1 t18 fun t19 =>
  tellE (z8h m (ro H1 t19) (ro H1 (V (.func (.func 82) #[] #[])))) [(ro H1 t19),(ro H1 (V (.func (.func 82) #[] #[])))] fun t20 =>
  tellK H1 (ro H1 t20)) (
  tellK H1 (ro H1 (V (.bool false))))) (
  tellK H1 (ro H1 (V (.bool false)))) := by
 refine (tellX _ _ _ _ _ _ _ _ _).trans ?_
 kernel_rfl
noncomputable def zbU (m : Nat) : List AV → RO|[t0]=>zid m t0|_=>none
theorem zmx (m : Nat) : ∀ args X H',zbU m args = some (X,H') → ACp Try.prog GG 84 args X := by
 intro args X H' h
 unfold zbU at h
 split at h
 ·exact z0B MIX (by
  intro f e h
  simp only [zhq,Prod.mk.injEq,List.mem_cons,List.not_mem_nil,or_false] at h
  rcases h with ⟨rfl,rfl⟩|⟨rfl,rfl⟩
  ·exact zcK m
  ·exact zd7 m) (f := 84) (c := zjP) Try.func84 rfl (by kernel_rfl) _ rfl Try.ntmps84 (Nat.le_of_ble_eq_true rfl) zjK h
 ·cases h
noncomputable def z8p : Code := (Try.f83.body).getD .skip
def wire_list_Cert_h : Hint := (.two .n (.two (.two .n (.two (.two .n .n) .n)) (.join [] (.two .n (.one (.lp [] [1,10,11,12] [4] (.two .n (.two (.two .n .n) (.two (.one (.two .n (.two .n (.two (.two .n .n) .n)))) .n)))))) (.two .n .n))))
noncomputable def z3Y (m : Nat) : Env := [(84, .tell (zbU m))]
noncomputable abbrev z9a : KO (AV × List AObj) := z3I Try.prog [.tmp 4]
noncomputable def zcP (m : Nat) (s : ASt) : RO := joinW Try.prog GG (z3Y m) m ⟨21,[]⟩ (cdR (cdR (cdR z8p))) wire_list_Cert_h.r.r.r s (z9a)
noncomputable def zda (m : Nat) (s : ASt) (kc : ASt → RO) (kx : KO (AV × List AObj)) : RO := bodyW Try.prog GG (z3Y m) m ⟨21,[]⟩ (cdL (cdL (cdR (cdL (cdR (cdR z8p)))))) wire_list_Cert_h.r.r.l.r.c.c [1,10,11,12] [4] s kc kx
noncomputable def za0 (m : Nat) (t0 t1 : AV) : RO := exec Try.prog GG (z3Y m) m ⟨21,[]⟩ z8p wire_list_Cert_h ⟨[],argsT 0 [t0,t1]⟩ (z9a)
theorem z7m (m : Nat) (H : List AObj) : zcP m ⟨H,[]⟩ =
 tellK H (ro H (V (.bool true))) := by
 refine (z04 _ _ _ _ _ _ _ _ _).trans ?_
 kernel_rfl
theorem zfv (m : Nat) (H : List AObj) (t1 t10 t11 t12 : AV) (kc : ASt → RO) (kx : KO (AV × List AObj)) : zda m ⟨H,[(1,t1),(10,t10),(11,t11),(12,t12)]⟩ kc kx =
 binE none false false .lss t12 t11 fun t13 =>
 condE t13 (
  idxSE 7 H t10 t12 fun t14 =>
  loadE 7 H t14 fun t15 =>
  z4P (some zc_api_Cert) z0a H fun t6 H2 =>
  z1e 7 H2 t6 t15 fun H3 =>
  loadE 7 H3 t6 fun t17 =>
  zec (z3Y m) t1 [t17] H3 fun t18 H4 =>
  unE .not t18 fun t19 =>
  condE t19 (
   kx .ret ⟨H4,[(4,(V (.bool false)))]⟩) (
   binE none false false .add t12 (V (.int .i64 1)) fun t20 =>
   backE H.length H4 [(1,t1),(10,t10),(11,t11),(12,t20)] kc)) (
  kx (.exit 0) ⟨H,[(4, .nil)]⟩) := by
 refine (z2i _ _ _ _ _ _ _ _ _ _ _ _).trans ?_
 kernel_rfl
theorem zhM (m : Nat) (t0 t1 : AV) : za0 m t0 t1 =
 lenE false true [] t0 fun t8 =>
 binE none false false .gtr t8 (V (.int .i64 64)) fun t9 =>
 condE t9 (
  tellK [] (ro [] (V (.bool false)))) (
  lenE false true [] t0 fun t11 =>
  iterC m (zda m) ⟨[],[(1,t1),(10,t0),(11,t11),(12,(V (.int .i64 0)))]⟩ (z3K 0 (seqX (fun s=>zcP m ⟨s.H,[]⟩) (z9a)))) := by
 refine (tellX _ _ _ _ _ _ _ _ _).trans ?_
 kernel_rfl
noncomputable def zan (m : Nat) : List AV → RO|[t0,t1]=>za0 m t0 t1|_=>none
theorem zhW (m : Nat) : ∀ args X H',zan m args = some (X,H') → ACp Try.prog GG 83 args X := by
 intro args X H' h
 unfold zan at h
 split at h
 ·exact z0B MIX (by
  intro f e h
  simp only [z3Y,Prod.mk.injEq,List.mem_cons,List.not_mem_nil,or_false] at h
  obtain ⟨rfl,rfl⟩ := h
  ·exact zmx m) (f := 83) (c := z8p) Try.func83 rfl (by kernel_rfl) _ rfl Try.ntmps83 (Nat.le_of_ble_eq_true rfl) wire_list_Cert_h h
 ·cases h
noncomputable def zht : Code := (Try.f60.body).getD .skip
def zhx : Hint := (.two .n (.two .n .n))
noncomputable def zeQ (m : Nat) : Env := [(79, .tell (zcp m)),(80, .tell (z9s m)),(81, .tell (z80 m)),(83, .tell (zan m))]
noncomputable abbrev zjn : KO (AV × List AObj) := z3I Try.prog [.tmp 2]
noncomputable def zes (m : Nat) (t0 : AV) : RO := exec Try.prog GG (zeQ m) m ⟨26,[]⟩ zht zhx ⟨[],argsT 0 [t0]⟩ (zjn)
theorem zke (m : Nat) (t0 : AV) : zes m t0 =
 boxE z00 [] t0 fun t1 H1 =>
 z02 (some (0,1)) t1 fun t3 =>
 loadE 1 H1 t3 fun t4 =>
 tellE (zdW m (ro H1 t4)) [(ro H1 t4)] fun t5 =>
 condE t5 (
  z02 (some (1,1)) t1 fun t7 =>
  loadE 1 H1 t7 fun t8 =>
  z02 (some (2,1)) t1 fun t9 =>
  loadE 1 H1 t9 fun t10 =>
  z02 (some (3,1)) t1 fun t11 =>
  loadE 1 H1 t11 fun t12 =>
  z1a (some (z6Y,1)) 3 [(0,t8),(1,t10),(2,t12)] fun t13 =>
  tellE (zaa m (ro H1 t13)) [(ro H1 t13)] fun t14 =>
  condE t14 (
  z02 (some (4,1)) t1 fun t17 =>
  loadE 1 H1 t17 fun t18 =>
  tellE (z8h m (ro H1 t18) (ro H1 (V (.func (.func 82) #[] #[])))) [(ro H1 t18),(ro H1 (V (.func (.func 82) #[] #[])))] fun t19 =>
  condE t19 (
  z02 (some (5,1)) t1 fun t22 =>
  loadE 1 H1 t22 fun t23 =>
  tellE (za0 m (ro H1 t23) (ro H1 (V (.func (.func 84) #[] #[])))) [(ro H1 t23),(ro H1 (V (.func (.func 84) #[] #[])))] fun t24 =>
  tellK H1 (ro H1 t24)) (
  tellK H1 (ro H1 (V (.bool false))))) (
  tellK H1 (ro H1 (V (.bool false))))) (
  tellK H1 (ro H1 (V (.bool false)))) := by
 refine (tellX _ _ _ _ _ _ _ _ _).trans ?_
 kernel_rfl
noncomputable def zeb (m : Nat) : List AV → RO|[t0]=>zes m t0|_=>none
theorem zkb (m : Nat) : ∀ args X H',zeb m args = some (X,H') → ACp Try.prog GG 60 args X := by
 intro args X H' h
 unfold zeb at h
 split at h
 ·exact z0B MIX (by
  intro f e h
  simp only [zeQ,Prod.mk.injEq,List.mem_cons,List.not_mem_nil,or_false] at h
  rcases h with ⟨rfl,rfl⟩|⟨rfl,rfl⟩|⟨rfl,rfl⟩|⟨rfl,rfl⟩
  ·exact zhw m
  ·exact zcK m
  ·exact zd7 m
  ·exact zhW m) (f := 60) (c := zht) Try.func60 rfl (by kernel_rfl) _ rfl Try.ntmps60 (Nat.le_of_ble_eq_true rfl) zhx h
 ·cases h
end Go.Proofs.Ytaaogcnjfkgnoaa

namespace Go.Proofs.Ytaaogcnjfkgnoaa
open Go.RowKit
def z2C : TypeId := 5
def z0r : TypeId := 124
def zg1 : List AV := [(V (.slice none 0 0))]
def zgp : List (Nat × Nat) := [(0,1)]
noncomputable def z6q : Code := (Try.f85.body).getD .skip
def wire_writer_nums_h : Hint := (.two .n (.one (.lp [] [0,6,7,8] [] (.two .n (.two (.two .n .n) (.two (.one (.two .n .n)) .n))))))
noncomputable def z4S (m : Nat) : Env := [(95, .add (z5T m))]
noncomputable abbrev zam (n0 : Nat) : KO (AV × List AObj) := z77 Try.prog n0 []
noncomputable def zaK (m : Nat) (s : ASt) (kc : ASt → RO) (kx : KO (AV × List AObj)) : RO := bodyW Try.prog GG (z4S m) m ⟨24,[]⟩ (cdL (cdL (cdR z6q))) wire_writer_nums_h.r.c.c [0,6,7,8] [] s kc kx
noncomputable def z2n (m : Nat) (t0 t1 : AV) (H : List AObj) : RO := exec Try.prog GG (z4S m) m ⟨24,[]⟩ z6q wire_writer_nums_h ⟨H,argsT 0 [t0,t1]⟩ (zam H.length)
theorem zdQ (m : Nat) (H : List AObj) (t0 t6 t7 t8 : AV) (kc : ASt → RO) (kx : KO (AV × List AObj)) : zaK m ⟨H,[(0,t0),(6,t6),(7,t7),(8,t8)]⟩ kc kx =
 binE none false false .lss t8 t7 fun t9 =>
 condE t9 (
  idxSE 1 H t6 t8 fun t10 =>
  loadE 1 H t10 fun t11 =>
  nilE t0 fun t14 =>
  z02 (some (0,1)) t14 fun t15 =>
  loadE 1 H t15 fun t16 =>
  convE false (some .u64) true false false (ro H t11) fun t18 =>
  addE (z5T m [(ro H t18)] H.length) H fun t19 H2 =>
  appE (some (z2C,1)) H2 t16 t19 fun t20 H3 =>
  nilE t0 fun t21 =>
  z02 (some (0,1)) t21 fun t22 =>
  z1e 1 H3 t22 t20 fun H4 =>
  binE none false false .add t8 (V (.int .i64 1)) fun t23 =>
  backE H.length H4 [(0,t0),(6,t6),(7,t7),(8,t23)] kc) (
  kx (.exit 0) ⟨H,[]⟩) := by
 refine (z2i _ _ _ _ _ _ _ _ _ _ _ _).trans ?_
 kernel_rfl
theorem zfA (m : Nat) (t0 t1 : AV) (H : List AObj) : z2n m t0 t1 H =
 lenE false true H t1 fun t7 =>
 iterC m (zaK m) ⟨H,[(0,t0),(6,t1),(7,t7),(8,(V (.int .i64 0)))]⟩ (z3K 0 (zam H.length)) := by
 refine (keepX Try.prog GG (z4S m) m ⟨24,[]⟩ H.length z6q wire_writer_nums_h ⟨H,argsT 0 [t0,t1]⟩ []).trans ?_
 kernel_rfl
noncomputable def z2j (m : Nat) : List AV → List AObj → RO|[t0,t1],H=>z2n m t0 t1 H|_,_=>none
theorem z3f (m : Nat) : ∀ args H X H',z2j m args H = some (X,H') → AC Try.prog GG 85 args H (Is X H') := by
 intro args H X H' h
 unfold z2j at h
 split at h
 ·exact z2x MIX (by
  intro f e h
  simp only [z4S,Prod.mk.injEq,List.mem_cons,List.not_mem_nil,or_false] at h
  obtain ⟨rfl,rfl⟩ := h
  ·exact zle m) (f := 85) (c := z6q) Try.func85 rfl (by kernel_rfl) _ rfl Try.ntmps85 (Nat.le_of_ble_eq_true rfl) wire_writer_nums_h h
 ·cases h
noncomputable def z8P : Code := (Try.f96.body).getD .skip
def z8Q : Hint := (.two .n .n)
noncomputable def z7q (m : Nat) : Env := [(85, .keep (z2j m))]
noncomputable abbrev zfs (n0 : Nat) : KO (AV × List AObj) := z77 Try.prog n0 []
noncomputable def z86 (m : Nat) (t0 t1 : AV) (H : List AObj) : RO := exec Try.prog GG (z7q m) m ⟨18,[]⟩ z8P z8Q ⟨H,argsT 0 [t0,t1]⟩ (zfs H.length)
theorem zgj (m : Nat) (t0 t1 : AV) (H : List AObj) : z86 m t0 t1 H =
 lenE true false H t1 fun t6 =>
 z1a (some (z6Y,1)) 1 [(0,t6)] fun t7 =>
 keepE (z2n m (ro H t0) (ro H t7) H) fun t8 H2 =>
 nilE t0 fun t11 =>
 z02 (some (0,1)) t11 fun t12 =>
 loadE 1 H2 t12 fun t13 =>
 appSE (some (z2C,1)) H2 t13 t1 fun t15 H3 =>
 nilE t0 fun t16 =>
 z02 (some (0,1)) t16 fun t17 =>
 z1e 1 H3 t17 t15 fun H4 =>
 keepK H.length H4 (ro H4 (TU [])) := by
 refine (keepX Try.prog GG (z7q m) m ⟨18,[]⟩ H.length z8P z8Q ⟨H,argsT 0 [t0,t1]⟩ []).trans ?_
 kernel_rfl
noncomputable def z8S (m : Nat) : List AV → List AObj → RO|[t0,t1],H=>z86 m t0 t1 H|_,_=>none
theorem zfS (m : Nat) : ∀ args H X H',z8S m args H = some (X,H') → AC Try.prog GG 96 args H (Is X H') := by
 intro args H X H' h
 unfold z8S at h
 split at h
 ·exact z2x MIX (by
  intro f e h
  simp only [z7q,Prod.mk.injEq,List.mem_cons,List.not_mem_nil,or_false] at h
  obtain ⟨rfl,rfl⟩ := h
  ·exact z3f m) (f := 96) (c := z8P) Try.func96 rfl (by kernel_rfl) _ rfl Try.ntmps96 (Nat.le_of_ble_eq_true rfl) z8Q h
 ·cases h
noncomputable def z9b : Code := (Try.f87.body).getD .skip
def z8Z : Hint := (.two .n .n)
noncomputable def z7p (m : Nat) : Env := [(85, .keep (z2j m))]
noncomputable abbrev zfc (n0 : Nat) : KO (AV × List AObj) := z77 Try.prog n0 []
noncomputable def z88 (m : Nat) (t0 t1 : AV) (H : List AObj) : RO := exec Try.prog GG (z7p m) m ⟨17,[]⟩ z9b z8Z ⟨H,argsT 0 [t0,t1]⟩ (zfc H.length)
theorem zgc (m : Nat) (t0 t1 : AV) (H : List AObj) : z88 m t0 t1 H =
 boxE z01 H t1 fun t3 H2 =>
 z02 (some (0,1)) t3 fun t5 =>
 loadE 1 H2 t5 fun t6 =>
 z02 (some (1,1)) t3 fun t7 =>
 loadE 1 H2 t7 fun t8 =>
 z02 (some (2,1)) t3 fun t9 =>
 loadE 1 H2 t9 fun t10 =>
 z02 (some (3,1)) t3 fun t11 =>
 loadE 1 H2 t11 fun t12 =>
 z02 (some (4,1)) t3 fun t13 =>
 loadE 1 H2 t13 fun t14 =>
 z1a (some (z6Y,1)) 5 [(0,t6),(1,t8),(2,t10),(3,t12),(4,t14)] fun t15 =>
 keepE (z2n m (ro H2 t0) (ro H2 t15) H2) fun t16 H3 =>
 keepK H.length H3 (ro H3 (TU [])) := by
 refine (keepX Try.prog GG (z7p m) m ⟨17,[]⟩ H.length z9b z8Z ⟨H,argsT 0 [t0,t1]⟩ []).trans ?_
 kernel_rfl
noncomputable def z4J (m : Nat) : List AV → List AObj → RO|[t0,t1],H=>z88 m t0 t1 H|_,_=>none
theorem zfz (m : Nat) : ∀ args H X H',z4J m args H = some (X,H') → AC Try.prog GG 87 args H (Is X H') := by
 intro args H X H' h
 unfold z4J at h
 split at h
 ·exact z2x MIX (by
  intro f e h
  simp only [z7p,Prod.mk.injEq,List.mem_cons,List.not_mem_nil,or_false] at h
  obtain ⟨rfl,rfl⟩ := h
  ·exact z3f m) (f := 87) (c := z9b) Try.func87 rfl (by kernel_rfl) _ rfl Try.ntmps87 (Nat.le_of_ble_eq_true rfl) z8Z h
 ·cases h
noncomputable def z7Q : Code := (Try.f86.body).getD .skip
def wire_each_Stmt_h : Hint := (.two .n (.two .n (.one (.lp [] [2,13,14,15] [] (.two .n (.two (.two .n .n) (.two (.one (.two .n .n)) .n)))))))
noncomputable def z3W (m : Nat) : Env := [(85, .keep (z2j m)),(87, .keep (z4J m))]
noncomputable abbrev zbD (n0 : Nat) : KO (AV × List AObj) := z77 Try.prog n0 []
noncomputable def zd4 (m : Nat) (s : ASt) (kc : ASt → RO) (kx : KO (AV × List AObj)) : RO := bodyW Try.prog GG (z3W m) m ⟨23,[]⟩ (cdL (cdL (cdR (cdR z7Q)))) wire_each_Stmt_h.r.r.c.c [2,13,14,15] [] s kc kx
noncomputable def z8o (m : Nat) (t0 t1 t2 : AV) (H : List AObj) : RO := exec Try.prog GG (z3W m) m ⟨23,[]⟩ z7Q wire_each_Stmt_h ⟨H,argsT 0 [t0,t1,t2]⟩ (zbD H.length)
theorem zfk (m : Nat) (H : List AObj) (t2 t13 t14 t15 : AV) (kc : ASt → RO) (kx : KO (AV × List AObj)) : zd4 m ⟨H,[(2,t2),(13,t13),(14,t14),(15,t15)]⟩ kc kx =
 binE none false false .lss t15 t14 fun t16 =>
 condE t16 (
  idxSE 7 H t13 t15 fun t17 =>
  loadE 7 H t17 fun t18 =>
  z4P (some zc_api_Stmt) z01 H fun t7 H2 =>
  z1e 7 H2 t7 t18 fun H3 =>
  loadE 7 H3 t7 fun t20 =>
  zec (z3W m) t2 [t20] H3 fun t21 H4 =>
  binE none false false .add t15 (V (.int .i64 1)) fun t22 =>
  backE H.length H4 [(2,t2),(13,t13),(14,t14),(15,t22)] kc) (
  kx (.exit 0) ⟨H,[]⟩) := by
 refine (z2i _ _ _ _ _ _ _ _ _ _ _ _).trans ?_
 kernel_rfl
theorem zi1 (m : Nat) (t0 t1 t2 : AV) (H : List AObj) : z8o m t0 t1 t2 H =
 lenE false true H t1 fun t10 =>
 z1a (some (z6Y,1)) 1 [(0,t10)] fun t11 =>
 keepE (z2n m (ro H t0) (ro H t11) H) fun t12 H2 =>
 lenE false true H2 t1 fun t14 =>
 iterC m (zd4 m) ⟨H2,[(2,t2),(13,t1),(14,t14),(15,(V (.int .i64 0)))]⟩ (z3K 0 (zbD H.length)) := by
 refine (keepX Try.prog GG (z3W m) m ⟨23,[]⟩ H.length z7Q wire_each_Stmt_h ⟨H,argsT 0 [t0,t1,t2]⟩ []).trans ?_
 kernel_rfl
noncomputable def z8i (m : Nat) : List AV → List AObj → RO|[t0,t1,t2],H=>z8o m t0 t1 t2 H|_,_=>none
theorem zd0 (m : Nat) : ∀ args H X H',z8i m args H = some (X,H') → AC Try.prog GG 86 args H (Is X H') := by
 intro args H X H' h
 unfold z8i at h
 split at h
 ·exact z2x MIX (by
  intro f e h
  simp only [z3W,Prod.mk.injEq,List.mem_cons,List.not_mem_nil,or_false] at h
  rcases h with ⟨rfl,rfl⟩|⟨rfl,rfl⟩
  ·exact z3f m
  ·exact zfz m) (f := 86) (c := z7Q) Try.func86 rfl (by kernel_rfl) _ rfl Try.ntmps86 (Nat.le_of_ble_eq_true rfl) wire_each_Stmt_h h
 ·cases h
noncomputable def z8J : Code := (Try.f89.body).getD .skip
def z8X : Hint := (.two .n (.two .n (.two .n .n)))
noncomputable def z7x (m : Nat) : Env := [(85, .keep (z2j m)),(96, .keep (z8S m)),(86, .keep (z8i m))]
noncomputable abbrev zfq (n0 : Nat) : KO (AV × List AObj) := z77 Try.prog n0 []
noncomputable def z8j (m : Nat) (t0 t1 : AV) (H : List AObj) : RO := exec Try.prog GG (z7x m) m ⟨23,[]⟩ z8J z8X ⟨H,argsT 0 [t0,t1]⟩ (zfq H.length)
theorem zg0 (m : Nat) (t0 t1 : AV) (H : List AObj) : z8j m t0 t1 H =
 boxE z0a H t1 fun t3 H2 =>
 z02 (some (0,1)) t3 fun t5 =>
 loadE 1 H2 t5 fun t6 =>
 z02 (some (1,1)) t3 fun t7 =>
 loadE 1 H2 t7 fun t8 =>
 z02 (some (2,1)) t3 fun t9 =>
 loadE 1 H2 t9 fun t10 =>
 z1a (some (z6Y,1)) 3 [(0,t6),(1,t8),(2,t10)] fun t11 =>
 keepE (z2n m (ro H2 t0) (ro H2 t11) H2) fun t12 H3 =>
 z02 (some (3,1)) t3 fun t14 =>
 loadE 1 H3 t14 fun t15 =>
 keepE (z86 m (ro H3 t0) (ro H3 t15) H3) fun t16 H4 =>
 z02 (some (4,1)) t3 fun t18 =>
 loadE 1 H4 t18 fun t19 =>
 whenE (([t0] : List AV).all cap0) (
 keepE (z8o m (ro H4 t0) (ro H4 t19) (ro H4 (CL (.func 87) 1 [t0])) H4) fun t22 H5 =>
 keepK H.length H5 (ro H5 (TU []))) := by
 refine (keepX Try.prog GG (z7x m) m ⟨23,[]⟩ H.length z8J z8X ⟨H,argsT 0 [t0,t1]⟩ []).trans ?_
 kernel_rfl
noncomputable def z4N (m : Nat) : List AV → List AObj → RO|[t0,t1],H=>z8j m t0 t1 H|_,_=>none
theorem zfJ (m : Nat) : ∀ args H X H',z4N m args H = some (X,H') → AC Try.prog GG 89 args H (Is X H') := by
 intro args H X H' h
 unfold z4N at h
 split at h
 ·exact z2x MIX (by
  intro f e h
  simp only [z7x,Prod.mk.injEq,List.mem_cons,List.not_mem_nil,or_false] at h
  rcases h with ⟨rfl,rfl⟩|⟨rfl,rfl⟩|⟨rfl,rfl⟩
  ·exact z3f m
  ·exact zfS m
  ·exact zd0 m) (f := 89) (c := z8J) Try.func89 rfl (by kernel_rfl) _ rfl Try.ntmps89 (Nat.le_of_ble_eq_true rfl) z8X h
 ·cases h
noncomputable def z8b : Code := (Try.f88.body).getD .skip
def wire_each_Cert_h : Hint := (.two .n (.two .n (.one (.lp [] [2,13,14,15] [] (.two .n (.two (.two .n .n) (.two (.one (.two .n .n)) .n)))))))
noncomputable def z3V (m : Nat) : Env := [(85, .keep (z2j m)),(89, .keep (z4N m))]
noncomputable abbrev zc0 (n0 : Nat) : KO (AV × List AObj) := z77 Try.prog n0 []
noncomputable def zcN (m : Nat) (s : ASt) (kc : ASt → RO) (kx : KO (AV × List AObj)) : RO := bodyW Try.prog GG (z3V m) m ⟨23,[]⟩ (cdL (cdL (cdR (cdR z8b)))) wire_each_Cert_h.r.r.c.c [2,13,14,15] [] s kc kx
noncomputable def za5 (m : Nat) (t0 t1 t2 : AV) (H : List AObj) : RO := exec Try.prog GG (z3V m) m ⟨23,[]⟩ z8b wire_each_Cert_h ⟨H,argsT 0 [t0,t1,t2]⟩ (zc0 H.length)
theorem zfe (m : Nat) (H : List AObj) (t2 t13 t14 t15 : AV) (kc : ASt → RO) (kx : KO (AV × List AObj)) : zcN m ⟨H,[(2,t2),(13,t13),(14,t14),(15,t15)]⟩ kc kx =
 binE none false false .lss t15 t14 fun t16 =>
 condE t16 (
  idxSE 7 H t13 t15 fun t17 =>
  loadE 7 H t17 fun t18 =>
  z4P (some zc_api_Cert) z0a H fun t7 H2 =>
  z1e 7 H2 t7 t18 fun H3 =>
  loadE 7 H3 t7 fun t20 =>
  zec (z3V m) t2 [t20] H3 fun t21 H4 =>
  binE none false false .add t15 (V (.int .i64 1)) fun t22 =>
  backE H.length H4 [(2,t2),(13,t13),(14,t14),(15,t22)] kc) (
  kx (.exit 0) ⟨H,[]⟩) := by
 refine (z2i _ _ _ _ _ _ _ _ _ _ _ _).trans ?_
 kernel_rfl
theorem zhE (m : Nat) (t0 t1 t2 : AV) (H : List AObj) : za5 m t0 t1 t2 H =
 lenE false true H t1 fun t10 =>
 z1a (some (z6Y,1)) 1 [(0,t10)] fun t11 =>
 keepE (z2n m (ro H t0) (ro H t11) H) fun t12 H2 =>
 lenE false true H2 t1 fun t14 =>
 iterC m (zcN m) ⟨H2,[(2,t2),(13,t1),(14,t14),(15,(V (.int .i64 0)))]⟩ (z3K 0 (zc0 H.length)) := by
 refine (keepX Try.prog GG (z3V m) m ⟨23,[]⟩ H.length z8b wire_each_Cert_h ⟨H,argsT 0 [t0,t1,t2]⟩ []).trans ?_
 kernel_rfl
noncomputable def zaw (m : Nat) : List AV → List AObj → RO|[t0,t1,t2],H=>za5 m t0 t1 t2 H|_,_=>none
theorem zhX (m : Nat) : ∀ args H X H',zaw m args H = some (X,H') → AC Try.prog GG 88 args H (Is X H') := by
 intro args H X H' h
 unfold zaw at h
 split at h
 ·exact z2x MIX (by
  intro f e h
  simp only [z3V,Prod.mk.injEq,List.mem_cons,List.not_mem_nil,or_false] at h
  rcases h with ⟨rfl,rfl⟩|⟨rfl,rfl⟩
  ·exact z3f m
  ·exact zfJ m) (f := 88) (c := z8b) Try.func88 rfl (by kernel_rfl) _ rfl Try.ntmps88 (Nat.le_of_ble_eq_true rfl) wire_each_Cert_h h
 ·cases h
noncomputable def z7n : Code := (Try.f61.body).getD .skip
def z7r : Hint := (.two .n (.two .n (.two .n .n)))
noncomputable def z5R (m : Nat) : Env := [(85, .keep (z2j m)),(86, .keep (z8i m)),(88, .keep (zaw m))]
noncomputable abbrev zdq (n0 : Nat) : KO (AV × List AObj) := z77 Try.prog n0 []
noncomputable def z6l (m : Nat) (t0 t1 : AV) (H : List AObj) : RO := exec Try.prog GG (z5R m) m ⟨27,[]⟩ z7n z7r ⟨H,argsT 0 [t0,t1]⟩ (zdq H.length)
theorem zeM (m : Nat) (t0 t1 : AV) (H : List AObj) : z6l m t0 t1 H =
 boxE z00 H t1 fun t3 H2 =>
 z02 (some (0,1)) t3 fun t5 =>
 loadE 1 H2 t5 fun t6 =>
 z02 (some (1,1)) t3 fun t7 =>
 loadE 1 H2 t7 fun t8 =>
 z02 (some (2,1)) t3 fun t9 =>
 loadE 1 H2 t9 fun t10 =>
 z02 (some (3,1)) t3 fun t11 =>
 loadE 1 H2 t11 fun t12 =>
 z1a (some (z6Y,1)) 4 [(0,t6),(1,t8),(2,t10),(3,t12)] fun t13 =>
 keepE (z2n m (ro H2 t0) (ro H2 t13) H2) fun t14 H3 =>
 z02 (some (4,1)) t3 fun t16 =>
 loadE 1 H3 t16 fun t17 =>
 whenE (([t0] : List AV).all cap0) (
 keepE (z8o m (ro H3 t0) (ro H3 t17) (ro H3 (CL (.func 87) 1 [t0])) H3) fun t20 H4 =>
 z02 (some (5,1)) t3 fun t22 =>
 loadE 1 H4 t22 fun t23 =>
 whenE (([t0] : List AV).all cap0) (
 keepE (za5 m (ro H4 t0) (ro H4 t23) (ro H4 (CL (.func 89) 1 [t0])) H4) fun t26 H5 =>
 keepK H.length H5 (ro H5 (TU [])))) := by
 refine (keepX Try.prog GG (z5R m) m ⟨27,[]⟩ H.length z7n z7r ⟨H,argsT 0 [t0,t1]⟩ []).trans ?_
 kernel_rfl
noncomputable def z7s (m : Nat) : List AV → List AObj → RO|[t0,t1],H=>z6l m t0 t1 H|_,_=>none
theorem zeG (m : Nat) : ∀ args H X H',z7s m args H = some (X,H') → AC Try.prog GG 61 args H (Is X H') := by
 intro args H X H' h
 unfold z7s at h
 split at h
 ·exact z2x MIX (by
  intro f e h
  simp only [z5R,Prod.mk.injEq,List.mem_cons,List.not_mem_nil,or_false] at h
  rcases h with ⟨rfl,rfl⟩|⟨rfl,rfl⟩|⟨rfl,rfl⟩
  ·exact z3f m
  ·exact zd0 m
  ·exact zhX m) (f := 61) (c := z7n) Try.func61 rfl (by kernel_rfl) _ rfl Try.ntmps61 (Nat.le_of_ble_eq_true rfl) z7r h
 ·cases h
noncomputable def z8g : Code := (Try.f33.body).getD .skip
def wire_EncodeChange_h : Hint := (.two .n (.two (.two .n (.two (.two .n .n) .n)) (.gh (3,0,z2C,1) [1,3] .n (.two .n (.two .n .n)))))
noncomputable def z6V (m : Nat) : Env := [(60, .tell (zeb m)),(61, .keep (z7s m))]
noncomputable abbrev z9U : KO (AV × List AObj) := z3I Try.prog [.tmp 2]
noncomputable def zau (m : Nat) (s : ASt) : RO := joinW Try.prog GG (z6V m) m ⟨16,[]⟩ (cdR (cdR (cdR z8g))) wire_EncodeChange_h.r.r.r s (z9U)
noncomputable def z5f (m : Nat) (t0 : AV) : RO := exec Try.prog GG (z6V m) m ⟨16,[]⟩ z8g wire_EncodeChange_h ⟨[],argsT 0 [t0]⟩ (z9U)
theorem zdm (m : Nat) (H : List AObj) (t1 t3 : AV) : zau m ⟨H,[(1,t1),(3,t3)]⟩ =
 loadE 8 H t1 fun t10 =>
 keepE (z6l m (ro H t3) (ro H t10) H) fun t11 H2 =>
 nilE t3 fun t13 =>
 z02 (some (0,1)) t13 fun t14 =>
 loadE 1 H2 t14 fun t15 =>
 tellK H2 (ro H2 t15) := by
 refine (z04 _ _ _ _ _ _ _ _ _).trans ?_
 kernel_rfl
theorem zf5 (m : Nat) (t0 : AV) : z5f m t0 =
 boxE z00 [] t0 fun t1 H1 =>
 loadE 8 H1 t1 fun t4 =>
 tellE (zes m (ro H1 t4)) [(ro H1 t4)] fun t5 =>
 unE .not t5 fun t6 =>
 condE t6 (
  tellK H1 (ro H1 (V (.slice none 0 0)))) (
  z49 (some zgp) (some zg1) [] fun t7 =>
  boxE z0r H1 t7 fun t8 H2 =>
  zau m (ghS 3 0 z2C 1 ⟨H2,[(1,t1),(3,t8)]⟩)) := by
 refine (tellX _ _ _ _ _ _ _ _ _).trans ?_
 kernel_rfl
noncomputable def z4o (m : Nat) : List AV → RO|[t0]=>z5f m t0|_=>none
theorem z7u (m : Nat) : ∀ args X H',z4o m args = some (X,H') → ACp Try.prog GG 33 args X := by
 intro args X H' h
 unfold z4o at h
 split at h
 ·exact z0B MIX (by
  intro f e h
  simp only [z6V,Prod.mk.injEq,List.mem_cons,List.not_mem_nil,or_false] at h
  rcases h with ⟨rfl,rfl⟩|⟨rfl,rfl⟩
  ·exact zkb m
  ·exact zeG m) (f := 33) (c := z8g) Try.func33 rfl (by kernel_rfl) _ rfl Try.ntmps33 (Nat.le_of_ble_eq_true rfl) wire_EncodeChange_h h
 ·cases h
end Go.Proofs.Ytaaogcnjfkgnoaa

namespace Go.Proofs.Ytaaogcnjfkgnoaa
open Go.RowKit
def zo8 : TypeId := 65
def zc_api_Change : List AV := [(V (.int .i64 0)),(V (.int .i64 0)),(V (.int .i64 0)),(V (.int .i64 0)),(V (.slice none 0 0)),(V (.slice none 0 0))]
def zc_api_Msg : List AV := [(V (.int .i64 0)),(V (.int .i64 0)),(V (.int .i64 0)),(V (.int .i64 0)),(V (.int .i64 0)),(V (.string ⟨#[]⟩)),(V (.slice none 0 0)),(V (.slice none 0 0))]
noncomputable def ze5 : Code := (Try.f69.body).getD .skip
def zdM : Hint := (.two .n (.two .n .n))
noncomputable def zhb (m : Nat) : Env := []
noncomputable abbrev zgy : KO (AV × List AObj) := z3I Try.prog [.tmp 4]
noncomputable def z6B (m : Nat) (t0 t1 : AV) : RO := exec Try.prog GG (zhb m) m ⟨12,[]⟩ ze5 zdM ⟨[],argsT 0 [t0,t1]⟩ (zgy)
theorem zcX (m : Nat) (t0 t1 : AV) : z6B m t0 t1 =
 binE none false false .leq (V (.int .i64 0)) t0 fun t6 =>
 condE t6 (
  binE none false false .leq t0 t1 fun t10 =>
  tellK [] (ro [] t10)) (
  tellK [] (ro [] (V (.bool false)))) := by
 refine (tellX _ _ _ _ _ _ _ _ _).trans ?_
 kernel_rfl
noncomputable def z60 (m : Nat) : List AV → RO|[t0,t1]=>z6B m t0 t1|_=>none
theorem z9J (m : Nat) : ∀ args X H',z60 m args = some (X,H') → ACp Try.prog GG 69 args X := by
 intro args X H' h
 unfold z60 at h
 split at h
 ·exact z0B MIX (by intro f e h;cases h) (f := 69) (c := ze5) Try.func69 rfl (by kernel_rfl) _ rfl Try.ntmps69 (Nat.le_of_ble_eq_true rfl) zdM h
 ·cases h
noncomputable def zcR : Code := (Try.f70.body).getD .skip
def zcQ : Hint := (.two .n (.two .n .n))
noncomputable def zaP (m : Nat) : Env := [(69, .tell (z60 m))]
noncomputable abbrev zfN : KO (AV × List AObj) := z3I Try.prog [.tmp 2]
noncomputable def z1f (m : Nat) (t0 : AV) : RO := exec Try.prog GG (zaP m) m ⟨5,[]⟩ zcR zcQ ⟨[],argsT 0 [t0]⟩ (zfN)
theorem zgw (m : Nat) (t0 : AV) : z1f m t0 =
 tellE (z6B m (ro [] t0) (V (.int .i64 2147483647))) [(ro [] t0),(V (.int .i64 2147483647))] fun t4 =>
 tellK [] (ro [] t4) := by
 refine (tellX _ _ _ _ _ _ _ _ _).trans ?_
 kernel_rfl
noncomputable def z7j (m : Nat) : List AV → RO|[t0]=>z1f m t0|_=>none
theorem zbB (m : Nat) : ∀ args X H',z7j m args = some (X,H') → ACp Try.prog GG 70 args X := by
 intro args X H' h
 unfold z7j at h
 split at h
 ·exact z0B MIX (by
  intro f e h
  simp only [zaP,Prod.mk.injEq,List.mem_cons,List.not_mem_nil,or_false] at h
  obtain ⟨rfl,rfl⟩ := h
  ·exact z9J m) (f := 70) (c := zcR) Try.func70 rfl (by kernel_rfl) _ rfl Try.ntmps70 (Nat.le_of_ble_eq_true rfl) zcQ h
 ·cases h
noncomputable def z3w : Code := (Try.f71.body).getD .skip
def plenumref28_stmts_h : Hint := (.two .n (.join [0] (.two .n (.one (.lp [] [0,3] [0,2] (.two (.two .n (.two .n .n)) (.join [0,3] (.one (.join [0,3,52] .n (.two (.two .n .n) .n))) .n))))) (.two .n .n)))
noncomputable def z2u (m : Nat) : Env := [(69, .tell (z60 m)),(70, .tell (z7j m))]
noncomputable abbrev z6W : KO (AV × List AObj) := z3I Try.prog [.tmp 2]
noncomputable def z7t (m : Nat) (n0 : Nat) (kc : ASt → RO) (kx : KO (AV × List AObj)) (s : ASt) : RO := joinW Try.prog GG (z2u m) m ⟨56,[]⟩ (cdR (cdR (cdL (cdL (cdR (cdL (cdR z3w))))))) plenumref28_stmts_h.r.l.r.c.c.r.r s (backW n0 [0,3] [0,2] kc kx)
noncomputable def z2E (m : Nat) (n0 : Nat) (kc : ASt → RO) (kx : KO (AV × List AObj)) (s : ASt) : RO := joinW Try.prog GG (z2u m) m ⟨56,[]⟩ (cdR (cdL (cdL (cdR (cdL (cdL (cdR (cdL (cdR z3w))))))))) plenumref28_stmts_h.r.l.r.c.c.r.l.c.r s (z3K 1 (seqX (fun s=>z7t m n0 kc kx ⟨s.H,[(0,gt s.T 0),(3,gt s.T 3)]⟩) (backW n0 [0,3] [0,2] kc kx)))
noncomputable def zah (m : Nat) (s : ASt) : RO := joinW Try.prog GG (z2u m) m ⟨56,[]⟩ (cdR (cdR z3w)) plenumref28_stmts_h.r.r s (z6W)
noncomputable def zav (m : Nat) (s : ASt) (kc : ASt → RO) (kx : KO (AV × List AObj)) : RO := bodyW Try.prog GG (z2u m) m ⟨56,[]⟩ (cdL (cdL (cdR (cdL (cdR z3w))))) plenumref28_stmts_h.r.l.r.c.c [0,3] [0,2] s kc kx
noncomputable def z5g (m : Nat) (t0 : AV) : RO := exec Try.prog GG (z2u m) m ⟨56,[]⟩ z3w plenumref28_stmts_h ⟨[],argsT 0 [t0]⟩ (z6W)
theorem z1k (m : Nat) (n0 : Nat) (kc : ASt → RO) (kx : KO (AV × List AObj)) (H : List AObj) (t0 t3 : AV) : z7t m n0 kc kx ⟨H,[(0,t0),(3,t3)]⟩ =
 binE none false false .add t3 (V (.int .i64 1)) fun t9 =>
 backE n0 H [(0,t0),(3,t9)] kc := by
 refine (z04 _ _ _ _ _ _ _ _ _).trans ?_
 kernel_rfl
theorem z1j (m : Nat) (n0 : Nat) (kc : ASt → RO) (kx : KO (AV × List AObj)) (H : List AObj) (t0 t3 t52 : AV) : z2E m n0 kc kx ⟨H,[(0,t0),(3,t3),(52,t52)]⟩ =
 condE t52 (
  kx .ret ⟨H,[(0,t0),(2,(V (.bool false)))]⟩) (
  z7t m n0 kc kx ⟨H,[(0,t0),(3,t3)]⟩) := by
 refine (z04 _ _ _ _ _ _ _ _ _).trans ?_
 kernel_rfl
theorem z1i (m : Nat) (H : List AObj) (t0 : AV) : zah m ⟨H,[(0,t0)]⟩ =
 lenE false true H t0 fun t54 =>
 binE none false false .leq t54 (V (.int .i64 64)) fun t55 =>
 tellK H (ro H t55) := by
 refine (z04 _ _ _ _ _ _ _ _ _).trans ?_
 kernel_rfl
theorem zdo (m : Nat) (H : List AObj) (t0 t3 : AV) (kc : ASt → RO) (kx : KO (AV × List AObj)) : zav m ⟨H,[(0,t0),(3,t3)]⟩ kc kx =
 lenE false true H t0 fun t6 =>
 binE none false false .lss t3 t6 fun t7 =>
 condE t7 (
  idxSE 7 H t0 t3 fun t12 =>
  z02 (some (0,1)) t12 fun t13 =>
  loadE 1 H t13 fun t14 =>
  tellE (z6B m (ro H t14) (V (.int .i64 63))) [(ro H t14),(V (.int .i64 63))] fun t15 =>
  unE .not t15 fun t16 =>
  condE t16 (
   z2E m H.length kc kx ⟨H,[(0,t0),(3,t3),(52,(V (.bool true)))]⟩) (
   idxSE 7 H t0 t3 fun t20 =>
   z02 (some (1,1)) t20 fun t21 =>
   loadE 1 H t21 fun t22 =>
   tellE (z1f m (ro H t22)) [(ro H t22)] fun t23 =>
   unE .not t23 fun t24 =>
   condE t24 (
   z2E m H.length kc kx ⟨H,[(0,t0),(3,t3),(52,(V (.bool true)))]⟩) (
   idxSE 7 H t0 t3 fun t29 =>
   z02 (some (2,1)) t29 fun t30 =>
   loadE 1 H t30 fun t31 =>
   tellE (z1f m (ro H t31)) [(ro H t31)] fun t32 =>
   unE .not t32 fun t33 =>
   condE t33 (
   z2E m H.length kc kx ⟨H,[(0,t0),(3,t3),(52,(V (.bool true)))]⟩) (
   idxSE 7 H t0 t3 fun t38 =>
   z02 (some (3,1)) t38 fun t39 =>
   loadE 1 H t39 fun t40 =>
   tellE (z1f m (ro H t40)) [(ro H t40)] fun t41 =>
   unE .not t41 fun t42 =>
   condE t42 (
   z2E m H.length kc kx ⟨H,[(0,t0),(3,t3),(52,(V (.bool true)))]⟩) (
   idxSE 7 H t0 t3 fun t47 =>
   z02 (some (4,1)) t47 fun t48 =>
   loadE 1 H t48 fun t49 =>
   tellE (z1f m (ro H t49)) [(ro H t49)] fun t50 =>
   unE .not t50 fun t51 =>
   z2E m H.length kc kx ⟨H,[(0,t0),(3,t3),(52,t51)]⟩))))) (
  kx (.exit 0) ⟨H,[(0,t0),(2, .nil)]⟩) := by
 refine (z2i _ _ _ _ _ _ _ _ _ _ _ _).trans ?_
 kernel_rfl
theorem zfp (m : Nat) (t0 : AV) : z5g m t0 =
 iterC m (zav m) ⟨[],[(0,t0),(3,(V (.int .i64 0)))]⟩ (z3K 0 (seqX (fun s=>zah m ⟨s.H,[(0,gt s.T 0)]⟩) (z6W))) := by
 refine (tellX _ _ _ _ _ _ _ _ _).trans ?_
 kernel_rfl
noncomputable def z7U (m : Nat) : List AV → RO|[t0]=>z5g m t0|_=>none
theorem zfw (m : Nat) : ∀ args X H',z7U m args = some (X,H') → ACp Try.prog GG 71 args X := by
 intro args X H' h
 unfold z7U at h
 split at h
 ·exact z0B MIX (by
  intro f e h
  simp only [z2u,Prod.mk.injEq,List.mem_cons,List.not_mem_nil,or_false] at h
  rcases h with ⟨rfl,rfl⟩|⟨rfl,rfl⟩
  ·exact z9J m
  ·exact zbB m) (f := 71) (c := z3w) Try.func71 rfl (by kernel_rfl) _ rfl Try.ntmps71 (Nat.le_of_ble_eq_true rfl) plenumref28_stmts_h h
 ·cases h
noncomputable def z1n : Code := (Try.f47.body).getD .skip
def plenumref28_Change_h : Hint := (.two .n (.join [1] (.join [1,38] .n (.two (.two .n .n) .n)) (.join [] (.two .n (.one (.lp [] [1,3] [2] (.two (.two .n (.two .n .n)) (.join [1,3] (.one (.two .n (.join [1,3,78] .n (.two (.two .n .n) .n)))) .n))))) (.two .n .n))))
noncomputable def z1b (m : Nat) : Env := [(69, .tell (z60 m)),(70, .tell (z7j m)),(71, .tell (z7U m))]
noncomputable abbrev z2P : KO (AV × List AObj) := z3I Try.prog [.tmp 2]
noncomputable def z6X (m : Nat) (n0 : Nat) (kc : ASt → RO) (kx : KO (AV × List AObj)) (s : ASt) : RO := joinW Try.prog GG (z1b m) m ⟨79,[]⟩ (cdR (cdR (cdL (cdL (cdR (cdL (cdR (cdR z1n)))))))) plenumref28_Change_h.r.r.l.r.c.c.r.r s (backW n0 [1,3] [2] kc kx)
noncomputable def z2t (m : Nat) (n0 : Nat) (kc : ASt → RO) (kx : KO (AV × List AObj)) (s : ASt) : RO := joinW Try.prog GG (z1b m) m ⟨79,[]⟩ (cdR (cdR (cdL (cdL (cdR (cdL (cdL (cdR (cdL (cdR (cdR z1n))))))))))) plenumref28_Change_h.r.r.l.r.c.c.r.l.c.r.r s (z3K 1 (seqX (fun s=>z6X m n0 kc kx ⟨s.H,[(1,gt s.T 1),(3,gt s.T 3)]⟩) (backW n0 [1,3] [2] kc kx)))
noncomputable def z9T (m : Nat) (s : ASt) : RO := joinW Try.prog GG (z1b m) m ⟨79,[]⟩ (cdR (cdR (cdR z1n))) plenumref28_Change_h.r.r.r s (z2P)
noncomputable def z9Z (m : Nat) (s : ASt) (kc : ASt → RO) (kx : KO (AV × List AObj)) : RO := bodyW Try.prog GG (z1b m) m ⟨79,[]⟩ (cdL (cdL (cdR (cdL (cdR (cdR z1n)))))) plenumref28_Change_h.r.r.l.r.c.c [1,3] [2] s kc kx
noncomputable def z73 (m : Nat) (s : ASt) : RO := joinW Try.prog GG (z1b m) m ⟨79,[]⟩ (cdR (cdR z1n)) plenumref28_Change_h.r.r s (z2P)
noncomputable def z2e (m : Nat) (s : ASt) : RO := joinW Try.prog GG (z1b m) m ⟨79,[]⟩ (cdR (cdL (cdR z1n))) plenumref28_Change_h.r.l.r s (seqX (fun s=>z73 m ⟨s.H,[(1,gt s.T 1)]⟩) (z2P))
noncomputable def z3U (m : Nat) (t0 : AV) : RO := exec Try.prog GG (z1b m) m ⟨79,[]⟩ z1n plenumref28_Change_h ⟨[],argsT 0 [t0]⟩ (z2P)
theorem z0c (m : Nat) (n0 : Nat) (kc : ASt → RO) (kx : KO (AV × List AObj)) (H : List AObj) (t1 t3 : AV) : z6X m n0 kc kx ⟨H,[(1,t1),(3,t3)]⟩ =
 binE none false false .add t3 (V (.int .i64 1)) fun t45 =>
 backE n0 H [(1,t1),(3,t45)] kc := by
 refine (z04 _ _ _ _ _ _ _ _ _).trans ?_
 kernel_rfl
theorem z0e (m : Nat) (n0 : Nat) (kc : ASt → RO) (kx : KO (AV × List AObj)) (H : List AObj) (t1 t3 t78 : AV) : z2t m n0 kc kx ⟨H,[(1,t1),(3,t3),(78,t78)]⟩ =
 condE t78 (
  kx .ret ⟨H,[(2,(V (.bool false)))]⟩) (
  z6X m n0 kc kx ⟨H,[(1,t1),(3,t3)]⟩) := by
 refine (z04 _ _ _ _ _ _ _ _ _).trans ?_
 kernel_rfl
theorem z0f (m : Nat) (H : List AObj) : z9T m ⟨H,[]⟩ =
 tellK H (ro H (V (.bool true))) := by
 refine (z04 _ _ _ _ _ _ _ _ _).trans ?_
 kernel_rfl
theorem zcM (m : Nat) (H : List AObj) (t1 t3 : AV) (kc : ASt → RO) (kx : KO (AV × List AObj)) : z9Z m ⟨H,[(1,t1),(3,t3)]⟩ kc kx =
 z02 (some (5,1)) t1 fun t40 =>
 loadE 1 H t40 fun t41 =>
 lenE false true H t41 fun t42 =>
 binE none false false .lss t3 t42 fun t43 =>
 condE t43 (
  z02 (some (5,1)) t1 fun t46 =>
  loadE 1 H t46 fun t47 =>
  idxSE 7 H t47 t3 fun t49 =>
  loadE 7 H t49 fun t50 =>
  z4P (some zc_api_Cert) z0a H fun t4 H2 =>
  z1e 7 H2 t4 t50 fun H3 =>
  z02 (some (0,1)) t4 fun t51 =>
  loadE 1 H3 t51 fun t52 =>
  tellE (z1f m (ro H3 t52)) [(ro H3 t52)] fun t53 =>
  unE .not t53 fun t54 =>
  condE t54 (
   z2t m H.length kc kx ⟨H3,[(1,t1),(3,t3),(78,(V (.bool true)))]⟩) (
   z02 (some (1,1)) t4 fun t56 =>
   loadE 1 H3 t56 fun t57 =>
   tellE (z1f m (ro H3 t57)) [(ro H3 t57)] fun t58 =>
   unE .not t58 fun t59 =>
   condE t59 (
   z2t m H.length kc kx ⟨H3,[(1,t1),(3,t3),(78,(V (.bool true)))]⟩) (
   z02 (some (2,1)) t4 fun t62 =>
   loadE 1 H3 t62 fun t63 =>
   tellE (z1f m (ro H3 t63)) [(ro H3 t63)] fun t64 =>
   unE .not t64 fun t65 =>
   condE t65 (
   z2t m H.length kc kx ⟨H3,[(1,t1),(3,t3),(78,(V (.bool true)))]⟩) (
   z02 (some (3,1)) t4 fun t68 =>
   loadE 1 H3 t68 fun t69 =>
   lenE true false H3 t69 fun t70 =>
   binE none false false .gtr t70 (V (.int .i64 65536)) fun t71 =>
   condE t71 (
   z2t m H.length kc kx ⟨H3,[(1,t1),(3,t3),(78,(V (.bool true)))]⟩) (
   z02 (some (4,1)) t4 fun t74 =>
   loadE 1 H3 t74 fun t75 =>
   tellE (z5g m (ro H3 t75)) [(ro H3 t75)] fun t76 =>
   unE .not t76 fun t77 =>
   z2t m H.length kc kx ⟨H3,[(1,t1),(3,t3),(78,t77)]⟩))))) (
  kx (.exit 0) ⟨H,[(2, .nil)]⟩) := by
 refine (z2i _ _ _ _ _ _ _ _ _ _ _ _).trans ?_
 kernel_rfl
theorem z0d (m : Nat) (H : List AObj) (t1 : AV) : z73 m ⟨H,[(1,t1)]⟩ =
 iterC m (z9Z m) ⟨H,[(1,t1),(3,(V (.int .i64 0)))]⟩ (z3K 0 (seqX (fun s=>z9T m ⟨s.H,[]⟩) (z2P))) := by
 refine (z04 _ _ _ _ _ _ _ _ _).trans ?_
 kernel_rfl
theorem z0b (m : Nat) (H : List AObj) (t1 t38 : AV) : z2e m ⟨H,[(1,t1),(38,t38)]⟩ =
 condE t38 (
  tellK H (ro H (V (.bool false)))) (
  z73 m ⟨H,[(1,t1)]⟩) := by
 refine (z04 _ _ _ _ _ _ _ _ _).trans ?_
 kernel_rfl
theorem zeH (m : Nat) (t0 : AV) : z3U m t0 =
 boxE z00 [] t0 fun t1 H1 =>
 z02 (some (0,1)) t1 fun t5 =>
 loadE 1 H1 t5 fun t6 =>
 tellE (z6B m (ro H1 t6) (V (.int .i64 63))) [(ro H1 t6),(V (.int .i64 63))] fun t7 =>
 unE .not t7 fun t8 =>
 condE t8 (
  z2e m ⟨H1,[(1,t1),(38,(V (.bool true)))]⟩) (
  z02 (some (1,1)) t1 fun t10 =>
  loadE 1 H1 t10 fun t11 =>
  tellE (z1f m (ro H1 t11)) [(ro H1 t11)] fun t12 =>
  unE .not t12 fun t13 =>
  condE t13 (
  z2e m ⟨H1,[(1,t1),(38,(V (.bool true)))]⟩) (
  z02 (some (2,1)) t1 fun t16 =>
  loadE 1 H1 t16 fun t17 =>
  tellE (z1f m (ro H1 t17)) [(ro H1 t17)] fun t18 =>
  unE .not t18 fun t19 =>
  condE t19 (
  z2e m ⟨H1,[(1,t1),(38,(V (.bool true)))]⟩) (
  z02 (some (3,1)) t1 fun t22 =>
  loadE 1 H1 t22 fun t23 =>
  tellE (z1f m (ro H1 t23)) [(ro H1 t23)] fun t24 =>
  unE .not t24 fun t25 =>
  condE t25 (
  z2e m ⟨H1,[(1,t1),(38,(V (.bool true)))]⟩) (
  z02 (some (4,1)) t1 fun t28 =>
  loadE 1 H1 t28 fun t29 =>
  tellE (z5g m (ro H1 t29)) [(ro H1 t29)] fun t30 =>
  unE .not t30 fun t31 =>
  condE t31 (
  z2e m ⟨H1,[(1,t1),(38,(V (.bool true)))]⟩) (
  z02 (some (5,1)) t1 fun t34 =>
  loadE 1 H1 t34 fun t35 =>
  lenE false true H1 t35 fun t36 =>
  binE none false false .gtr t36 (V (.int .i64 64)) fun t37 =>
  z2e m ⟨H1,[(1,t1),(38,t37)]⟩))))) := by
 refine (tellX _ _ _ _ _ _ _ _ _).trans ?_
 kernel_rfl
noncomputable def z51 (m : Nat) : List AV → RO|[t0]=>z3U m t0|_=>none
theorem z9P (m : Nat) : ∀ args X H',z51 m args = some (X,H') → ACp Try.prog GG 47 args X := by
 intro args X H' h
 unfold z51 at h
 split at h
 ·exact z0B MIX (by
  intro f e h
  simp only [z1b,Prod.mk.injEq,List.mem_cons,List.not_mem_nil,or_false] at h
  rcases h with ⟨rfl,rfl⟩|⟨rfl,rfl⟩|⟨rfl,rfl⟩
  ·exact z9J m
  ·exact zbB m
  ·exact zfw m) (f := 47) (c := z1n) Try.func47 rfl (by kernel_rfl) _ rfl Try.ntmps47 (Nat.le_of_ble_eq_true rfl) plenumref28_Change_h h
 ·cases h
noncomputable def z7g : Code := (Try.f72.body).getD .skip
def plenumref28_put_h : Hint := (.two .n (.two .n (.join [3] (.two .n (.one (.lp [] [0,3,4] [3] (.two (.two .n (.two .n .n)) (.two (.one .n) .n))))) (.two .n .n))))
noncomputable def z5w (m : Nat) : Env := [(92, .tell (z5c m))]
noncomputable abbrev z8n : KO (AV × List AObj) := z3I Try.prog [.tmp 2]
noncomputable def zbQ (m : Nat) (s : ASt) : RO := joinW Try.prog GG (z5w m) m ⟨20,[]⟩ (cdR (cdR (cdR z7g))) plenumref28_put_h.r.r.r s (z8n)
noncomputable def zbP (m : Nat) (s : ASt) (kc : ASt → RO) (kx : KO (AV × List AObj)) : RO := bodyW Try.prog GG (z5w m) m ⟨20,[]⟩ (cdL (cdL (cdR (cdL (cdR (cdR z7g)))))) plenumref28_put_h.r.r.l.r.c.c [0,3,4] [3] s kc kx
noncomputable def z2I (m : Nat) (t0 : AV) : RO := exec Try.prog GG (z5w m) m ⟨20,[]⟩ z7g plenumref28_put_h ⟨[],argsT 0 [t0]⟩ (z8n)
theorem zex (m : Nat) (H : List AObj) (t3 : AV) : zbQ m ⟨H,[(3,t3)]⟩ =
 tellK H (ro H t3) := by
 refine (z04 _ _ _ _ _ _ _ _ _).trans ?_
 kernel_rfl
theorem zeJ (m : Nat) (H : List AObj) (t0 t3 t4 : AV) (kc : ASt → RO) (kx : KO (AV × List AObj)) : zbP m ⟨H,[(0,t0),(3,t3),(4,t4)]⟩ kc kx =
 lenE false true H t0 fun t7 =>
 binE none false false .lss t4 t7 fun t8 =>
 condE t8 (
  idxSE 1 H t0 t4 fun t14 =>
  loadE 1 H t14 fun t15 =>
  convE false (some .u64) true false false (ro H t15) fun t16 =>
  tellE (z5c m [(ro H t16)]) [(ro H t16)] fun t17 =>
  binE none false false .add t3 t17 fun t18 =>
  binE none false false .add t4 (V (.int .i64 1)) fun t10 =>
  backE H.length H [(0,t0),(3,t18),(4,t10)] kc) (
  kx (.exit 0) ⟨H,[(3,t3)]⟩) := by
 refine (z2i _ _ _ _ _ _ _ _ _ _ _ _).trans ?_
 kernel_rfl
theorem zgv (m : Nat) (t0 : AV) : z2I m t0 =
 iterC m (zbP m) ⟨[],[(0,t0),(3,(V (.string ⟨#[]⟩))),(4,(V (.int .i64 0)))]⟩ (z3K 0 (seqX (fun s=>zbQ m ⟨s.H,[(3,gt s.T 3)]⟩) (z8n))) := by
 refine (tellX _ _ _ _ _ _ _ _ _).trans ?_
 kernel_rfl
noncomputable def z7c (m : Nat) : List AV → RO|[t0]=>z2I m t0|_=>none
theorem zbM (m : Nat) : ∀ args X H',z7c m args = some (X,H') → ACp Try.prog GG 72 args X := by
 intro args X H' h
 unfold z7c at h
 split at h
 ·exact z0B MIX (by
  intro f e h
  simp only [z5w,Prod.mk.injEq,List.mem_cons,List.not_mem_nil,or_false] at h
  obtain ⟨rfl,rfl⟩ := h
  ·exact zgD m) (f := 72) (c := z7g) Try.func72 rfl (by kernel_rfl) _ rfl Try.ntmps72 (Nat.le_of_ble_eq_true rfl) plenumref28_put_h h
 ·cases h
noncomputable def z4V : Code := (Try.f73.body).getD .skip
def plenumref28_voices_h : Hint := (.two .n (.two .n (.join [3] (.two .n (.one (.lp [] [0,3,4] [3] (.two (.two .n (.two .n .n)) (.two (.one .n) .n))))) (.two .n .n))))
noncomputable def z4r (m : Nat) : Env := [(72, .tell (z7c m))]
noncomputable abbrev z5N : KO (AV × List AObj) := z3I Try.prog [.tmp 2]
noncomputable def z9Y (m : Nat) (s : ASt) : RO := joinW Try.prog GG (z4r m) m ⟨45,[]⟩ (cdR (cdR (cdR z4V))) plenumref28_voices_h.r.r.r s (z5N)
noncomputable def z9O (m : Nat) (s : ASt) (kc : ASt → RO) (kx : KO (AV × List AObj)) : RO := bodyW Try.prog GG (z4r m) m ⟨45,[]⟩ (cdL (cdL (cdR (cdL (cdR (cdR z4V)))))) plenumref28_voices_h.r.r.l.r.c.c [0,3,4] [3] s kc kx
noncomputable def z4L (m : Nat) (t0 : AV) : RO := exec Try.prog GG (z4r m) m ⟨45,[]⟩ z4V plenumref28_voices_h ⟨[],argsT 0 [t0]⟩ (z5N)
theorem zc6 (m : Nat) (H : List AObj) (t3 : AV) : z9Y m ⟨H,[(3,t3)]⟩ =
 tellK H (ro H t3) := by
 refine (z04 _ _ _ _ _ _ _ _ _).trans ?_
 kernel_rfl
theorem zc7 (m : Nat) (H : List AObj) (t0 t3 t4 : AV) (kc : ASt → RO) (kx : KO (AV × List AObj)) : z9O m ⟨H,[(0,t0),(3,t3),(4,t4)]⟩ kc kx =
 lenE false true H t0 fun t11 =>
 binE none false false .lss t4 t11 fun t12 =>
 condE t12 (
  idxSE 7 H t0 t4 fun t18 =>
  z02 (some (0,1)) t18 fun t19 =>
  loadE 1 H t19 fun t20 =>
  idxSE 7 H t0 t4 fun t23 =>
  z02 (some (1,1)) t23 fun t24 =>
  loadE 1 H t24 fun t25 =>
  idxSE 7 H t0 t4 fun t28 =>
  z02 (some (2,1)) t28 fun t29 =>
  loadE 1 H t29 fun t30 =>
  idxSE 7 H t0 t4 fun t33 =>
  z02 (some (3,1)) t33 fun t34 =>
  loadE 1 H t34 fun t35 =>
  idxSE 7 H t0 t4 fun t38 =>
  z02 (some (4,1)) t38 fun t39 =>
  loadE 1 H t39 fun t40 =>
  z1a (some (z6Y,1)) 5 [(0,t20),(1,t25),(2,t30),(3,t35),(4,t40)] fun t41 =>
  tellE (z2I m (ro H t41)) [(ro H t41)] fun t42 =>
  binE none false false .add t3 t42 fun t43 =>
  binE none false false .add t4 (V (.int .i64 1)) fun t14 =>
  backE H.length H [(0,t0),(3,t43),(4,t14)] kc) (
  kx (.exit 0) ⟨H,[(3,t3)]⟩) := by
 refine (z2i _ _ _ _ _ _ _ _ _ _ _ _).trans ?_
 kernel_rfl
theorem zeI (m : Nat) (t0 : AV) : z4L m t0 =
 lenE false true [] t0 fun t6 =>
 z1a (some (z6Y,1)) 1 [(0,t6)] fun t7 =>
 tellE (z2I m (ro [] t7)) [(ro [] t7)] fun t8 =>
 iterC m (z9O m) ⟨[],[(0,t0),(3,t8),(4,(V (.int .i64 0)))]⟩ (z3K 0 (seqX (fun s=>z9Y m ⟨s.H,[(3,gt s.T 3)]⟩) (z5N))) := by
 refine (tellX _ _ _ _ _ _ _ _ _).trans ?_
 kernel_rfl
noncomputable def z7l (m : Nat) : List AV → RO|[t0]=>z4L m t0|_=>none
theorem zeD (m : Nat) : ∀ args X H',z7l m args = some (X,H') → ACp Try.prog GG 73 args X := by
 intro args X H' h
 unfold z7l at h
 split at h
 ·exact z0B MIX (by
  intro f e h
  simp only [z4r,Prod.mk.injEq,List.mem_cons,List.not_mem_nil,or_false] at h
  obtain ⟨rfl,rfl⟩ := h
  ·exact zbM m) (f := 73) (c := z4V) Try.func73 rfl (by kernel_rfl) _ rfl Try.ntmps73 (Nat.le_of_ble_eq_true rfl) plenumref28_voices_h h
 ·cases h
noncomputable def z2H : Code := (Try.f50.body).getD .skip
def plenumref28_EncodeChange_h : Hint := (.two .n (.two .n (.join [3] (.two .n (.one (.lp [] [1,3,4] [3] (.two (.two .n (.two .n .n)) (.two (.one (.two .n .n)) .n))))) (.two .n .n))))
noncomputable def z2q (m : Nat) : Env := [(72, .tell (z7c m)),(73, .tell (z7l m))]
noncomputable abbrev z3Z : KO (AV × List AObj) := z3I Try.prog [.tmp 2]
noncomputable def z6T (m : Nat) (s : ASt) : RO := joinW Try.prog GG (z2q m) m ⟨59,[]⟩ (cdR (cdR (cdR z2H))) plenumref28_EncodeChange_h.r.r.r s (z3Z)
noncomputable def z6P (m : Nat) (s : ASt) (kc : ASt → RO) (kx : KO (AV × List AObj)) : RO := bodyW Try.prog GG (z2q m) m ⟨59,[]⟩ (cdL (cdL (cdR (cdL (cdR (cdR z2H)))))) plenumref28_EncodeChange_h.r.r.l.r.c.c [1,3,4] [3] s kc kx
noncomputable def z3P (m : Nat) (t0 : AV) : RO := exec Try.prog GG (z2q m) m ⟨59,[]⟩ z2H plenumref28_EncodeChange_h ⟨[],argsT 0 [t0]⟩ (z3Z)
theorem z9y (m : Nat) (H : List AObj) (t3 : AV) : z6T m ⟨H,[(3,t3)]⟩ =
 tellK H (ro H t3) := by
 refine (z04 _ _ _ _ _ _ _ _ _).trans ?_
 kernel_rfl
theorem z9z (m : Nat) (H : List AObj) (t1 t3 t4 : AV) (kc : ASt → RO) (kx : KO (AV × List AObj)) : z6P m ⟨H,[(1,t1),(3,t3),(4,t4)]⟩ kc kx =
 z02 (some (5,1)) t1 fun t27 =>
 loadE 1 H t27 fun t28 =>
 lenE false true H t28 fun t29 =>
 binE none false false .lss t4 t29 fun t30 =>
 condE t30 (
  z02 (some (5,1)) t1 fun t33 =>
  loadE 1 H t33 fun t34 =>
  idxSE 7 H t34 t4 fun t36 =>
  loadE 7 H t36 fun t37 =>
  z4P (some zc_api_Cert) z0a H fun t5 H2 =>
  z1e 7 H2 t5 t37 fun H3 =>
  z02 (some (0,1)) t5 fun t39 =>
  loadE 1 H3 t39 fun t40 =>
  z02 (some (1,1)) t5 fun t41 =>
  loadE 1 H3 t41 fun t42 =>
  z02 (some (2,1)) t5 fun t43 =>
  loadE 1 H3 t43 fun t44 =>
  z02 (some (3,1)) t5 fun t45 =>
  loadE 1 H3 t45 fun t46 =>
  lenE true false H3 t46 fun t47 =>
  z1a (some (z6Y,1)) 4 [(0,t40),(1,t42),(2,t44),(3,t47)] fun t48 =>
  tellE (z2I m (ro H3 t48)) [(ro H3 t48)] fun t49 =>
  z02 (some (3,1)) t5 fun t50 =>
  loadE 1 H3 t50 fun t51 =>
  binE none false false .add t49 t51 fun t52 =>
  z02 (some (4,1)) t5 fun t53 =>
  loadE 1 H3 t53 fun t54 =>
  tellE (z4L m (ro H3 t54)) [(ro H3 t54)] fun t55 =>
  binE none false false .add t52 t55 fun t56 =>
  binE none false false .add t3 t56 fun t57 =>
  binE none false false .add t4 (V (.int .i64 1)) fun t32 =>
  backE H.length H3 [(1,t1),(3,t57),(4,t32)] kc) (
  kx (.exit 0) ⟨H,[(3,t3)]⟩) := by
 refine (z2i _ _ _ _ _ _ _ _ _ _ _ _).trans ?_
 kernel_rfl
theorem zaG (m : Nat) (t0 : AV) : z3P m t0 =
 boxE z00 [] t0 fun t1 H1 =>
 z02 (some (0,1)) t1 fun t6 =>
 loadE 1 H1 t6 fun t7 =>
 z02 (some (1,1)) t1 fun t8 =>
 loadE 1 H1 t8 fun t9 =>
 z02 (some (2,1)) t1 fun t10 =>
 loadE 1 H1 t10 fun t11 =>
 z02 (some (3,1)) t1 fun t12 =>
 loadE 1 H1 t12 fun t13 =>
 z1a (some (z6Y,1)) 4 [(0,t7),(1,t9),(2,t11),(3,t13)] fun t14 =>
 tellE (z2I m (ro H1 t14)) [(ro H1 t14)] fun t15 =>
 z02 (some (4,1)) t1 fun t16 =>
 loadE 1 H1 t16 fun t17 =>
 tellE (z4L m (ro H1 t17)) [(ro H1 t17)] fun t18 =>
 binE none false false .add t15 t18 fun t19 =>
 z02 (some (5,1)) t1 fun t20 =>
 loadE 1 H1 t20 fun t21 =>
 lenE false true H1 t21 fun t22 =>
 z1a (some (z6Y,1)) 1 [(0,t22)] fun t23 =>
 tellE (z2I m (ro H1 t23)) [(ro H1 t23)] fun t24 =>
 binE none false false .add t19 t24 fun t25 =>
 iterC m (z6P m) ⟨H1,[(1,t1),(3,t25),(4,(V (.int .i64 0)))]⟩ (z3K 0 (seqX (fun s=>z6T m ⟨s.H,[(3,gt s.T 3)]⟩) (z3Z))) := by
 refine (tellX _ _ _ _ _ _ _ _ _).trans ?_
 kernel_rfl
noncomputable def z4t (m : Nat) : List AV → RO|[t0]=>z3P m t0|_=>none
theorem zaH (m : Nat) : ∀ args X H',z4t m args = some (X,H') → ACp Try.prog GG 50 args X := by
 intro args X H' h
 unfold z4t at h
 split at h
 ·exact z0B MIX (by
  intro f e h
  simp only [z2q,Prod.mk.injEq,List.mem_cons,List.not_mem_nil,or_false] at h
  rcases h with ⟨rfl,rfl⟩|⟨rfl,rfl⟩
  ·exact zbM m
  ·exact zeD m) (f := 50) (c := z2H) Try.func50 rfl (by kernel_rfl) _ rfl Try.ntmps50 (Nat.le_of_ble_eq_true rfl) plenumref28_EncodeChange_h h
 ·cases h
noncomputable def z6s : Code := (Try.f25.body).getD .skip
def plenumlaw28_text_h : Hint := (.two .n (.join [0] (.join [0,10] .n (.two (.two .n .n) .n)) (.two (.two .n (.two (.two .n .n) .n)) (.two .n .n))))
noncomputable def z7z (m : Nat) : Env := []
noncomputable abbrev z7w : KO (AV × List AObj) := z3I Try.prog [.tmp 2]
noncomputable def z87 (m : Nat) (s : ASt) : RO := joinW Try.prog GG (z7z m) m ⟨19,[]⟩ (cdR (cdR z6s)) plenumlaw28_text_h.r.r s (z7w)
noncomputable def z8t (m : Nat) (s : ASt) : RO := joinW Try.prog GG (z7z m) m ⟨19,[]⟩ (cdR (cdL (cdR z6s))) plenumlaw28_text_h.r.l.r s (seqX (fun s=>z87 m ⟨s.H,[(0,gt s.T 0)]⟩) (z7w))
noncomputable def z8c (m : Nat) (t0 : AV) : RO := exec Try.prog GG (z7z m) m ⟨19,[]⟩ z6s plenumlaw28_text_h ⟨[],argsT 0 [t0]⟩ (z7w)
theorem z4h (m : Nat) (H : List AObj) (t0 : AV) : z87 m ⟨H,[(0,t0)]⟩ =
 lenE true false H t0 fun t14 =>
 binE none false false .gtr t14 (V (.int .i64 65540)) fun t15 =>
 condE t15 (
  zgo true none H t0 none (some (V (.int .i64 65540))) fun t17 =>
  tellK H (ro H t17)) (
  tellK H (ro H t0)) := by
 refine (z04 _ _ _ _ _ _ _ _ _).trans ?_
 kernel_rfl
theorem z4n (m : Nat) (H : List AObj) (t0 t10 : AV) : z8t m ⟨H,[(0,t0),(10,t10)]⟩ =
 condE t10 (
  zgo true none H t0 none (some (V (.int .i64 3000))) fun t12 =>
  tellK H (ro H t12)) (
  z87 m ⟨H,[(0,t0)]⟩) := by
 refine (z04 _ _ _ _ _ _ _ _ _).trans ?_
 kernel_rfl
theorem zg2 (m : Nat) (t0 : AV) : z8c m t0 =
 lenE true false [] t0 fun t4 =>
 binE none false false .gtr t4 (V (.int .i64 3000)) fun t5 =>
 condE t5 (
  lenE true false [] t0 fun t8 =>
  binE none false false .leq t8 (V (.int .i64 65536)) fun t9 =>
  z8t m ⟨[],[(0,t0),(10,t9)]⟩) (
  z8t m ⟨[],[(0,t0),(10,(V (.bool false)))]⟩) := by
 refine (tellX _ _ _ _ _ _ _ _ _).trans ?_
 kernel_rfl
noncomputable def z93 (m : Nat) : List AV → RO|[t0]=>z8c m t0|_=>none
theorem zgi (m : Nat) : ∀ args X H',z93 m args = some (X,H') → ACp Try.prog GG 25 args X := by
 intro args X H' h
 unfold z93 at h
 split at h
 ·exact z0B MIX (by intro f e h;cases h) (f := 25) (c := z6s) Try.func25 rfl (by kernel_rfl) _ rfl Try.ntmps25 (Nat.le_of_ble_eq_true rfl) plenumlaw28_text_h h
 ·cases h
noncomputable def zaR : Code := (Try.f24.body).getD .skip
def zaW : Hint := (.two .n (.two (.two .n (.two (.two .n .n) .n)) (.two .n .n)))
noncomputable def zeF (m : Nat) : Env := []
noncomputable abbrev zeK : KO (AV × List AObj) := z3I Try.prog [.tmp 2]
noncomputable def z59 (m : Nat) (t0 : AV) : RO := exec Try.prog GG (zeF m) m ⟨9,[]⟩ zaR zaW ⟨[],argsT 0 [t0]⟩ (zeK)
theorem zf3 (m : Nat) (t0 : AV) : z59 m t0 =
 lenE false true [] t0 fun t4 =>
 binE none false false .gtr t4 (V (.int .i64 66)) fun t5 =>
 condE t5 (
  zgo false (some (z01,7)) [] t0 none (some (V (.int .i64 66))) fun t7 =>
  tellK [] (ro [] t7)) (
  tellK [] (ro [] t0)) := by
 refine (tellX _ _ _ _ _ _ _ _ _).trans ?_
 kernel_rfl
noncomputable def z8e (m : Nat) : List AV → RO|[t0]=>z59 m t0|_=>none
theorem zfr (m : Nat) : ∀ args X H',z8e m args = some (X,H') → ACp Try.prog GG 24 args X := by
 intro args X H' h
 unfold z8e at h
 split at h
 ·exact z0B MIX (by intro f e h;cases h) (f := 24) (c := zaR) Try.func24 rfl (by kernel_rfl) _ rfl Try.ntmps24 (Nat.le_of_ble_eq_true rfl) zaW h
 ·cases h
noncomputable def z2A : Code := (Try.f7.body).getD .skip
def plenumlaw28_FewChange_h : Hint := (.two .n (.two .n (.join [1,2] (.two .n (.two .n .n)) (.two .n (.join [1,2,3] (.two .n (.one (.lp [(3,z0a,5)] [1,2,3,4] [1,2,3] (.two (.two .n (.two .n .n)) (.two (.one (.two .n (.two .n (.two .n .n)))) .n))))) (.two .n (.two .n .n)))))))
noncomputable def z2l (m : Nat) : Env := [(24, .tell (z8e m)),(25, .tell (z93 m))]
noncomputable abbrev z34 : KO (AV × List AObj) := z3I Try.prog [.cell 2 30]
noncomputable def z8f (m : Nat) (s : ASt) : RO := joinW Try.prog GG (z2l m) m ⟨45,[]⟩ (cdR (cdR (cdR (cdR (cdR z2A))))) plenumlaw28_FewChange_h.r.r.r.r.r s (z34)
noncomputable def z7P (m : Nat) (s : ASt) (kc : ASt → RO) (kx : KO (AV × List AObj)) : RO := bodyW Try.prog GG (z2l m) m ⟨45,[]⟩ (cdL (cdL (cdR (cdL (cdR (cdR (cdR (cdR z2A)))))))) plenumlaw28_FewChange_h.r.r.r.r.l.r.c.c [1,2,3,4] [1,2,3] s kc kx
noncomputable def z3M (m : Nat) (s : ASt) : RO := joinW Try.prog GG (z2l m) m ⟨45,[]⟩ (cdR (cdR (cdR z2A))) plenumlaw28_FewChange_h.r.r.r s (z34)
noncomputable def z4D (m : Nat) (t0 : AV) : RO := exec Try.prog GG (z2l m) m ⟨45,[]⟩ z2A plenumlaw28_FewChange_h ⟨[],argsT 0 [t0]⟩ (z34)
theorem z6R (m : Nat) (H : List AObj) (t1 t2 t3 : AV) : z8f m ⟨H,[(1,t1),(2,t2),(3,t3)]⟩ =
 z02 (some (5,1)) t1 fun t43 =>
 z1e 1 H t43 t3 fun H2 =>
 loadE 8 H2 t1 fun t44 =>
 z1e 8 H2 t2 t44 fun H3 =>
 loadE 8 H3 t2 fun t9000 =>
 tellK H3 (ro H3 t9000) := by
 refine (z04 _ _ _ _ _ _ _ _ _).trans ?_
 kernel_rfl
theorem zaE (m : Nat) (H : List AObj) (t1 t2 t3 t4 : AV) (kc : ASt → RO) (kx : KO (AV × List AObj)) : z7P m ⟨H,[(1,t1),(2,t2),(3,t3),(4,t4)]⟩ kc kx =
 z02 (some (5,1)) t1 fun t19 =>
 loadE 1 H t19 fun t20 =>
 lenE false true H t20 fun t21 =>
 binE none false false .lss t4 t21 fun t22 =>
 condE t22 (
  z02 (some (5,1)) t1 fun t25 =>
  loadE 1 H t25 fun t26 =>
  idxSE 7 H t26 t4 fun t28 =>
  loadE 7 H t28 fun t29 =>
  z4P (some zc_api_Cert) z0a H fun t5 H2 =>
  z1e 7 H2 t5 t29 fun H3 =>
  z02 (some (3,1)) t5 fun t30 =>
  loadE 1 H3 t30 fun t31 =>
  tellE (z8c m (ro H3 t31)) [(ro H3 t31)] fun t32 =>
  z02 (some (3,1)) t5 fun t33 =>
  z1e 1 H3 t33 t32 fun H4 =>
  z02 (some (4,1)) t5 fun t34 =>
  loadE 1 H4 t34 fun t35 =>
  tellE (z59 m (ro H4 t35)) [(ro H4 t35)] fun t36 =>
  z02 (some (4,1)) t5 fun t37 =>
  z1e 1 H4 t37 t36 fun H5 =>
  loadE 7 H5 t5 fun t39 =>
  z1a (some (z0a,5)) 1 [(0,t39)] fun t40 =>
  appE (some (z0a,5)) H5 t3 t40 fun t41 H6 =>
  binE none false false .add t4 (V (.int .i64 1)) fun t24 =>
  backE H.length H6 [(1,t1),(2,t2),(3,t41),(4,t24)] kc) (
  kx (.exit 0) ⟨H,[(1,t1),(2,t2),(3,t3)]⟩) := by
 refine (z2i _ _ _ _ _ _ _ _ _ _ _ _).trans ?_
 kernel_rfl
theorem z4c (m : Nat) (H : List AObj) (t1 t2 : AV) : z3M m ⟨H,[(1,t1),(2,t2)]⟩ =
 rowE (V (.slice none 0 0)) z0a 5 H fun t3 H2 =>
 iterC m (z7P m) ⟨H2,[(1,t1),(2,t2),(3,t3),(4,(V (.int .i64 0)))]⟩ (z3K 0 (seqX (fun s=>z8f m ⟨s.H,[(1,gt s.T 1),(2,gt s.T 2),(3,gt s.T 3)]⟩) (z34))) := by
 refine (z04 _ _ _ _ _ _ _ _ _).trans ?_
 kernel_rfl
theorem zcH (m : Nat) (t0 : AV) : z4D m t0 =
 boxE z00 [] t0 fun t1 H1 =>
 z4P (some zc_api_Change) z00 H1 fun t2 H2 =>
 z02 (some (4,1)) t1 fun t6 =>
 loadE 1 H2 t6 fun t7 =>
 tellE (z59 m (ro H2 t7)) [(ro H2 t7)] fun t8 =>
 z02 (some (4,1)) t1 fun t9 =>
 z1e 1 H2 t9 t8 fun H3 =>
 z02 (some (5,1)) t1 fun t10 =>
 loadE 1 H3 t10 fun t11 =>
 lenE false true H3 t11 fun t12 =>
 binE none false false .gtr t12 (V (.int .i64 66)) fun t13 =>
 condE t13 (
  z02 (some (5,1)) t1 fun t14 =>
  loadE 1 H3 t14 fun t15 =>
  zgo false (some (z0a,7)) H3 t15 none (some (V (.int .i64 66))) fun t16 =>
  z02 (some (5,1)) t1 fun t17 =>
  z1e 1 H3 t17 t16 fun H4 =>
  z3M m ⟨H4,[(1,t1),(2,t2)]⟩) (
  z3M m ⟨H3,[(1,t1),(2,t2)]⟩) := by
 refine (tellX _ _ _ _ _ _ _ _ _).trans ?_
 kernel_rfl
noncomputable def z5p (m : Nat) : List AV → RO|[t0]=>z4D m t0|_=>none
theorem zcs (m : Nat) : ∀ args X H',z5p m args = some (X,H') → ACp Try.prog GG 7 args X := by
 intro args X H' h
 unfold z5p at h
 split at h
 ·exact z0B MIX (by
  intro f e h
  simp only [z2l,Prod.mk.injEq,List.mem_cons,List.not_mem_nil,or_false] at h
  rcases h with ⟨rfl,rfl⟩|⟨rfl,rfl⟩
  ·exact zfr m
  ·exact zgi m) (f := 7) (c := z2A) Try.func7 rfl (by kernel_rfl) _ rfl Try.ntmps7 (Nat.le_of_ble_eq_true rfl) plenumlaw28_FewChange_h h
 ·cases h
end Go.Proofs.Ytaaogcnjfkgnoaa

namespace Go.Proofs.Ytaaogcnjfkgnoaa
open Go.RowKit
def z2v : TypeId := 73
def zc_api_Choice : List AV := [(V (.int .i64 0)),(V (.int .i64 0)),(V (.string ⟨#[]⟩)),(V (.bool false))]
def zaO : List (Nat × Nat) := [(0,1),(1,1),(2,1),(3,1)]
noncomputable def z4m : Code := (Try.f74.body).getD .skip
def choose_certs_h : Hint := (.two .n (.two .n (.join [] (.two .n (.one (.lp [] [1,3,9,10,11] [2] (.two .n (.two (.two .n .n) (.join [1,3,9,10,11] (.one (.two .n (.join [1,5,9,10,11] (.join [1,5,9,10,11,37] .n (.two (.two .n .n) .n)) .n))) .n)))))) (.two .n .n))))
noncomputable def z41 (m : Nat) : Env := []
noncomputable abbrev zao : KO (AV × List AObj) := z3I Try.prog [.tmp 2]
noncomputable def zb9 (m : Nat) (n0 : Nat) (kc : ASt → RO) (kx : KO (AV × List AObj)) (s : ASt) : RO := joinW Try.prog GG (z41 m) m ⟨41,[]⟩ (cdR (cdR (cdR (cdL (cdL (cdR (cdL (cdR (cdR z4m))))))))) choose_certs_h.r.r.l.r.c.c.r.r.r s (backW n0 [1,3,9,10,11] [2] kc kx)
noncomputable def zjl (m : Nat) (n0 : Nat) (kc : ASt → RO) (kx : KO (AV × List AObj)) (s : ASt) : RO := joinW Try.prog GG (z41 m) m ⟨41,[]⟩ (cdR (cdR (cdR (cdL (cdL (cdR (cdL (cdR (cdR z4m))))))))) choose_certs_h.r.r.l.r.c.c.r.r.r s (backW n0 [1,3,9,10,11] [2] kc kx)
noncomputable def zbm (m : Nat) (n0 : Nat) (kc : ASt → RO) (kx : KO (AV × List AObj)) (s : ASt) : RO := joinW Try.prog GG (z41 m) m ⟨41,[]⟩ (cdR (cdR (cdL (cdL (cdR (cdR (cdL (cdL (cdR (cdL (cdR (cdR z4m)))))))))))) choose_certs_h.r.r.l.r.c.c.r.r.l.c.r.r s (z3K 1 (seqX (fun s=>zb9 m n0 kc kx ⟨s.H,[(1,gt s.T 1),(3,gt s.T 3),(9,gt s.T 9),(10,gt s.T 10),(11,gt s.T 11)]⟩) (backW n0 [1,3,9,10,11] [2] kc kx)))
noncomputable def z7a (m : Nat) (n0 : Nat) (kc : ASt → RO) (kx : KO (AV × List AObj)) (s : ASt) : RO := joinW Try.prog GG (z41 m) m ⟨41,[]⟩ (cdR (cdL (cdR (cdL (cdL (cdR (cdR (cdL (cdL (cdR (cdL (cdR (cdR z4m))))))))))))) choose_certs_h.r.r.l.r.c.c.r.r.l.c.r.l.r s (seqX (fun s=>zbm m n0 kc kx ⟨s.H,[(1,gt s.T 1),(5,gt s.T 5),(9,gt s.T 9),(10,gt s.T 10),(11,gt s.T 11)]⟩) (z3K 1 (seqX (fun s=>zjl m n0 kc kx ⟨s.H,[(1,gt s.T 1),(3,gt s.T 3),(9,gt s.T 9),(10,gt s.T 10),(11,gt s.T 11)]⟩) (backW n0 [1,3,9,10,11] [2] kc kx))))
noncomputable def zeP (m : Nat) (s : ASt) : RO := joinW Try.prog GG (z41 m) m ⟨41,[]⟩ (cdR (cdR (cdR z4m))) choose_certs_h.r.r.r s (zao)
noncomputable def zeO (m : Nat) (s : ASt) (kc : ASt → RO) (kx : KO (AV × List AObj)) : RO := bodyW Try.prog GG (z41 m) m ⟨41,[]⟩ (cdL (cdL (cdR (cdL (cdR (cdR z4m)))))) choose_certs_h.r.r.l.r.c.c [1,3,9,10,11] [2] s kc kx
noncomputable def zax (m : Nat) (t0 : AV) : RO := exec Try.prog GG (z41 m) m ⟨41,[]⟩ z4m choose_certs_h ⟨[],argsT 0 [t0]⟩ (zao)
theorem zh5 (m : Nat) (n0 : Nat) (kc : ASt → RO) (kx : KO (AV × List AObj)) (H : List AObj) (t1 t3 t9 t10 t11 : AV) : zb9 m n0 kc kx ⟨H,[(1,t1),(3,t3),(9,t9),(10,t10),(11,t11)]⟩ =
 binE none false false .add t11 (V (.int .i64 1)) fun t40 =>
 backE n0 H [(1,t1),(3,t3),(9,t9),(10,t10),(11,t40)] kc := by
 refine (z04 _ _ _ _ _ _ _ _ _).trans ?_
 kernel_rfl
theorem zhc (m : Nat) (n0 : Nat) (kc : ASt → RO) (kx : KO (AV × List AObj)) (H : List AObj) (t1 t5 t9 t10 t11 : AV) : zbm m n0 kc kx ⟨H,[(1,t1),(5,t5),(9,t9),(10,t10),(11,t11)]⟩ =
 z02 (some (0,1)) t5 fun t38 =>
 loadE 1 H t38 fun t39 =>
 zb9 m n0 kc kx ⟨H,[(1,t1),(3,t39),(9,t9),(10,t10),(11,t11)]⟩ := by
 refine (z04 _ _ _ _ _ _ _ _ _).trans ?_
 kernel_rfl
theorem zh2 (m : Nat) (n0 : Nat) (kc : ASt → RO) (kx : KO (AV × List AObj)) (H : List AObj) (t1 t5 t9 t10 t11 t37 : AV) : z7a m n0 kc kx ⟨H,[(1,t1),(5,t5),(9,t9),(10,t10),(11,t11),(37,t37)]⟩ =
 condE t37 (
  kx .ret ⟨H,[(2,(V (.bool false)))]⟩) (
  zbm m n0 kc kx ⟨H,[(1,t1),(5,t5),(9,t9),(10,t10),(11,t11)]⟩) := by
 refine (z04 _ _ _ _ _ _ _ _ _).trans ?_
 kernel_rfl
theorem zgZ (m : Nat) (H : List AObj) : zeP m ⟨H,[]⟩ =
 tellK H (ro H (V (.bool true))) := by
 refine (z04 _ _ _ _ _ _ _ _ _).trans ?_
 kernel_rfl
theorem zgH (m : Nat) (H : List AObj) (t1 t3 t9 t10 t11 : AV) (kc : ASt → RO) (kx : KO (AV × List AObj)) : zeO m ⟨H,[(1,t1),(3,t3),(9,t9),(10,t10),(11,t11)]⟩ kc kx =
 binE none false false .lss t11 t10 fun t12 =>
 condE t12 (
  idxSE 7 H t9 t11 fun t13 =>
  loadE 7 H t13 fun t14 =>
  z4P (some zc_api_Cert) z0a H fun t5 H2 =>
  z1e 7 H2 t5 t14 fun H3 =>
  z02 (some (0,1)) t5 fun t15 =>
  loadE 1 H3 t15 fun t16 =>
  binE none false false .leq t16 t3 fun t18 =>
  condE t18 (
   z7a m H.length kc kx ⟨H3,[(1,t1),(5,t5),(9,t9),(10,t10),(11,t11),(37,(V (.bool true)))]⟩) (
   z02 (some (0,1)) t5 fun t20 =>
   loadE 1 H3 t20 fun t21 =>
   z02 (some (2,1)) t1 fun t22 =>
   loadE 1 H3 t22 fun t23 =>
   binE none false false .sub t21 t23 fun t24 =>
   binE none false false .gtr t24 (V (.int .i64 16)) fun t25 =>
   condE t25 (
   z7a m H.length kc kx ⟨H3,[(1,t1),(5,t5),(9,t9),(10,t10),(11,t11),(37,(V (.bool true)))]⟩) (
   z02 (some (1,1)) t5 fun t28 =>
   loadE 1 H3 t28 fun t29 =>
   binE none false false .lss t29 (V (.int .i64 0)) fun t30 =>
   condE t30 (
   z7a m H.length kc kx ⟨H3,[(1,t1),(5,t5),(9,t9),(10,t10),(11,t11),(37,(V (.bool true)))]⟩) (
   z02 (some (3,1)) t5 fun t33 =>
   loadE 1 H3 t33 fun t34 =>
   lenE true false H3 t34 fun t35 =>
   binE none false false .gtr t35 (V (.int .i64 65536)) fun t36 =>
   z7a m H.length kc kx ⟨H3,[(1,t1),(5,t5),(9,t9),(10,t10),(11,t11),(37,t36)]⟩)))) (
  kx (.exit 0) ⟨H,[(2, .nil)]⟩) := by
 refine (z2i _ _ _ _ _ _ _ _ _ _ _ _).trans ?_
 kernel_rfl
theorem zjj (m : Nat) (t0 : AV) : zax m t0 =
 boxE z00 [] t0 fun t1 H1 =>
 z02 (some (2,1)) t1 fun t6 =>
 loadE 1 H1 t6 fun t7 =>
 z02 (some (5,1)) t1 fun t8 =>
 loadE 1 H1 t8 fun t9 =>
 lenE false true H1 t9 fun t10 =>
 iterC m (zeO m) ⟨H1,[(1,t1),(3,t7),(9,t9),(10,t10),(11,(V (.int .i64 0)))]⟩ (z3K 0 (seqX (fun s=>zeP m ⟨s.H,[]⟩) (zao))) := by
 refine (tellX _ _ _ _ _ _ _ _ _).trans ?_
 kernel_rfl
noncomputable def zct (m : Nat) : List AV → RO|[t0]=>zax m t0|_=>none
theorem zjr (m : Nat) : ∀ args X H',zct m args = some (X,H') → ACp Try.prog GG 74 args X := by
 intro args X H' h
 unfold zct at h
 split at h
 ·exact z0B MIX (by intro f e h;cases h) (f := 74) (c := z4m) Try.func74 rfl (by kernel_rfl) _ rfl Try.ntmps74 (Nat.le_of_ble_eq_true rfl) choose_certs_h h
 ·cases h
noncomputable def z5D : Code := (Try.f51.body).getD .skip
def choose_May_h : Hint := (.two .n (.two (.two .n (.two .n (.two (.two .n .n) .n))) (.two .n (.join [1,7] (.two .n (.one (.lp [] [1,7,17,18,19] [1,4,7] (.two .n (.two (.two .n .n) (.join [1,7,17,18,19] (.one (.two .n (.join [1,7,9,17,18,19] (.join [1,7,9,17,18,19,58] .n (.two (.two .n .n) .n)) .n))) .n)))))) (.two .n .n)))))
noncomputable def z4l (m : Nat) : Env := [(32, .tell (z4y m)),(38, .tell (zcD m)),(62, .tell (zem m)),(74, .tell (zct m)),(63, .tell (z7f m)),(75, .tell (zaM m))]
noncomputable abbrev zcI : KO (AV × List AObj) := z3I Try.prog [.tmp 4]
noncomputable def zdN (m : Nat) (n0 : Nat) (kc : ASt → RO) (kx : KO (AV × List AObj)) (s : ASt) : RO := joinW Try.prog GG (z4l m) m ⟨67,[]⟩ (cdR (cdR (cdR (cdL (cdL (cdR (cdL (cdR (cdR (cdR z5D)))))))))) choose_May_h.r.r.r.l.r.c.c.r.r.r s (backW n0 [1,7,17,18,19] [1,4,7] kc kx)
noncomputable def zlg (m : Nat) (n0 : Nat) (kc : ASt → RO) (kx : KO (AV × List AObj)) (s : ASt) : RO := joinW Try.prog GG (z4l m) m ⟨67,[]⟩ (cdR (cdR (cdR (cdL (cdL (cdR (cdL (cdR (cdR (cdR z5D)))))))))) choose_May_h.r.r.r.l.r.c.c.r.r.r s (backW n0 [1,7,17,18,19] [1,4,7] kc kx)
noncomputable def zdC (m : Nat) (n0 : Nat) (kc : ASt → RO) (kx : KO (AV × List AObj)) (s : ASt) : RO := joinW Try.prog GG (z4l m) m ⟨67,[]⟩ (cdR (cdR (cdL (cdL (cdR (cdR (cdL (cdL (cdR (cdL (cdR (cdR (cdR z5D))))))))))))) choose_May_h.r.r.r.l.r.c.c.r.r.l.c.r.r s (z3K 1 (seqX (fun s=>zdN m n0 kc kx ⟨s.H,[(1,gt s.T 1),(7,gt s.T 7),(17,gt s.T 17),(18,gt s.T 18),(19,gt s.T 19)]⟩) (backW n0 [1,7,17,18,19] [1,4,7] kc kx)))
noncomputable def z4j (m : Nat) (n0 : Nat) (kc : ASt → RO) (kx : KO (AV × List AObj)) (s : ASt) : RO := joinW Try.prog GG (z4l m) m ⟨67,[]⟩ (cdR (cdL (cdR (cdL (cdL (cdR (cdR (cdL (cdL (cdR (cdL (cdR (cdR (cdR z5D)))))))))))))) choose_May_h.r.r.r.l.r.c.c.r.r.l.c.r.l.r s (seqX (fun s=>zdC m n0 kc kx ⟨s.H,[(1,gt s.T 1),(7,gt s.T 7),(9,gt s.T 9),(17,gt s.T 17),(18,gt s.T 18),(19,gt s.T 19)]⟩) (z3K 1 (seqX (fun s=>zlg m n0 kc kx ⟨s.H,[(1,gt s.T 1),(7,gt s.T 7),(17,gt s.T 17),(18,gt s.T 18),(19,gt s.T 19)]⟩) (backW n0 [1,7,17,18,19] [1,4,7] kc kx))))
noncomputable def zhz (m : Nat) (s : ASt) : RO := joinW Try.prog GG (z4l m) m ⟨67,[]⟩ (cdR (cdR (cdR (cdR z5D)))) choose_May_h.r.r.r.r s (zcI)
noncomputable def zhB (m : Nat) (s : ASt) (kc : ASt → RO) (kx : KO (AV × List AObj)) : RO := bodyW Try.prog GG (z4l m) m ⟨67,[]⟩ (cdL (cdL (cdR (cdL (cdR (cdR (cdR z5D))))))) choose_May_h.r.r.r.l.r.c.c [1,7,17,18,19] [1,4,7] s kc kx
noncomputable def zg8 (m : Nat) (t0 t1 : AV) : RO := exec Try.prog GG (z4l m) m ⟨67,[]⟩ z5D choose_May_h ⟨[],argsT 0 [t0,t1]⟩ (zcI)
theorem zdz (m : Nat) (n0 : Nat) (kc : ASt → RO) (kx : KO (AV × List AObj)) (H : List AObj) (t1 t7 t17 t18 t19 : AV) : zdN m n0 kc kx ⟨H,[(1,t1),(7,t7),(17,t17),(18,t18),(19,t19)]⟩ =
 binE none false false .add t19 (V (.int .i64 1)) fun t63 =>
 backE n0 H [(1,t1),(7,t7),(17,t17),(18,t18),(19,t63)] kc := by
 refine (z04 _ _ _ _ _ _ _ _ _).trans ?_
 kernel_rfl
theorem ze6 (m : Nat) (n0 : Nat) (kc : ASt → RO) (kx : KO (AV × List AObj)) (H : List AObj) (t1 t7 t9 t17 t18 t19 : AV) : zdC m n0 kc kx ⟨H,[(1,t1),(7,t7),(9,t9),(17,t17),(18,t18),(19,t19)]⟩ =
 z02 (some (0,1)) t9 fun t60 =>
 loadE 1 H t60 fun t61 =>
 tellE (zbL m (ro H t7) (ro H t61)) [(ro H t7),(ro H t61)] fun t62 =>
 zdN m n0 kc kx ⟨H,[(1,t1),(7,t62),(17,t17),(18,t18),(19,t19)]⟩ := by
 refine (z04 _ _ _ _ _ _ _ _ _).trans ?_
 kernel_rfl
theorem ze7 (m : Nat) (n0 : Nat) (kc : ASt → RO) (kx : KO (AV × List AObj)) (H : List AObj) (t1 t7 t9 t17 t18 t19 t58 : AV) : z4j m n0 kc kx ⟨H,[(1,t1),(7,t7),(9,t9),(17,t17),(18,t18),(19,t19),(58,t58)]⟩ =
 condE t58 (
  kx .ret ⟨H,[(1,t1),(4,(V (.bool false))),(7,t7)]⟩) (
  zdC m n0 kc kx ⟨H,[(1,t1),(7,t7),(9,t9),(17,t17),(18,t18),(19,t19)]⟩) := by
 refine (z04 _ _ _ _ _ _ _ _ _).trans ?_
 kernel_rfl
theorem ziK (m : Nat) (H : List AObj) (t1 t7 : AV) : zhz m ⟨H,[(1,t1),(7,t7)]⟩ =
 tellE (z79 m (ro H t7) (ro H t1)) [(ro H t7),(ro H t1)] fun t66 =>
 tellK H (ro H t66) := by
 refine (z04 _ _ _ _ _ _ _ _ _).trans ?_
 kernel_rfl
theorem ziS (m : Nat) (H : List AObj) (t1 t7 t17 t18 t19 : AV) (kc : ASt → RO) (kx : KO (AV × List AObj)) : zhB m ⟨H,[(1,t1),(7,t7),(17,t17),(18,t18),(19,t19)]⟩ kc kx =
 binE none false false .lss t19 t18 fun t20 =>
 condE t20 (
  idxSE 8 H t17 t19 fun t21 =>
  loadE 8 H t21 fun t22 =>
  z4P (some zc_api_Change) z00 H fun t9 H2 =>
  z1e 8 H2 t9 t22 fun H3 =>
  z02 (some (0,1)) t9 fun t23 =>
  loadE 1 H3 t23 fun t24 =>
  binE none false false .lss t24 (V (.int .i64 0)) fun t25 =>
  condE t25 (
   z4j m H.length kc kx ⟨H3,[(1,t1),(7,t7),(9,t9),(17,t17),(18,t18),(19,t19),(58,(V (.bool true)))]⟩) (
   z02 (some (0,1)) t9 fun t27 =>
   loadE 1 H3 t27 fun t28 =>
   binE none false false .geq t28 t1 fun t30 =>
   condE t30 (
   z4j m H.length kc kx ⟨H3,[(1,t1),(7,t7),(9,t9),(17,t17),(18,t18),(19,t19),(58,(V (.bool true)))]⟩) (
   z02 (some (0,1)) t9 fun t34 =>
   loadE 1 H3 t34 fun t35 =>
   tellE (zdV m (ro H3 t7) (ro H3 t35)) [(ro H3 t7),(ro H3 t35)] fun t36 =>
   condE t36 (
   z4j m H.length kc kx ⟨H3,[(1,t1),(7,t7),(9,t9),(17,t17),(18,t18),(19,t19),(58,(V (.bool true)))]⟩) (
   z02 (some (2,1)) t9 fun t39 =>
   loadE 1 H3 t39 fun t40 =>
   binE none false false .neq t40 (V (.int .i64 0)) fun t41 =>
   condE t41 (
   z02 (some (2,1)) t9 fun t43 =>
   loadE 1 H3 t43 fun t44 =>
   tellE (zfT m (ro H3 t44)) [(ro H3 t44)] fun t45 =>
   unE .not t45 fun t46 =>
   condE t46 (
   z4j m H.length kc kx ⟨H3,[(1,t1),(7,t7),(9,t9),(17,t17),(18,t18),(19,t19),(58,(V (.bool true)))]⟩) (
   z02 (some (2,1)) t9 fun t50 =>
   loadE 1 H3 t50 fun t51 =>
   binE none false false .gtr t51 (V (.int .i64 2147483647)) fun t52 =>
   condE t52 (
   z4j m H.length kc kx ⟨H3,[(1,t1),(7,t7),(9,t9),(17,t17),(18,t18),(19,t19),(58,(V (.bool true)))]⟩) (
   loadE 8 H3 t9 fun t55 =>
   tellE (zax m (ro H3 t55)) [(ro H3 t55)] fun t56 =>
   unE .not t56 fun t57 =>
   z4j m H.length kc kx ⟨H3,[(1,t1),(7,t7),(9,t9),(17,t17),(18,t18),(19,t19),(58,t57)]⟩))) (
   z02 (some (2,1)) t9 fun t50 =>
   loadE 1 H3 t50 fun t51 =>
   binE none false false .gtr t51 (V (.int .i64 2147483647)) fun t52 =>
   condE t52 (
   z4j m H.length kc kx ⟨H3,[(1,t1),(7,t7),(9,t9),(17,t17),(18,t18),(19,t19),(58,(V (.bool true)))]⟩) (
   loadE 8 H3 t9 fun t55 =>
   tellE (zax m (ro H3 t55)) [(ro H3 t55)] fun t56 =>
   unE .not t56 fun t57 =>
   z4j m H.length kc kx ⟨H3,[(1,t1),(7,t7),(9,t9),(17,t17),(18,t18),(19,t19),(58,t57)]⟩)))))) (
  kx (.exit 0) ⟨H,[(1,t1),(4, .nil),(7,t7)]⟩) := by
 refine (z2i _ _ _ _ _ _ _ _ _ _ _ _).trans ?_
 kernel_rfl
theorem zlm (m : Nat) (t0 t1 : AV) : zg8 m t0 t1 =
 tellE (z4R m (ro [] t1)) [(ro [] t1)] fun t12 =>
 extE t12 0 fun t13 =>
 extE t12 1 fun t14 =>
 binE none false false .neq t14 (V (.int .i64 0)) fun t16 =>
 condE t16 (
  tellK [] (ro [] (V (.bool false)))) (
  lenE false true [] t0 fun t18 =>
  iterC m (zhB m) ⟨[],[(1,t1),(7,(V (.int .u64 0))),(17,t0),(18,t18),(19,(V (.int .i64 0)))]⟩ (z3K 0 (seqX (fun s=>zhz m ⟨s.H,[(1,gt s.T 1),(7,gt s.T 7)]⟩) (zcI)))) := by
 refine (tellX _ _ _ _ _ _ _ _ _).trans ?_
 kernel_rfl
noncomputable def zcq (m : Nat) : List AV → RO|[t0,t1]=>zg8 m t0 t1|_=>none
theorem zhC (m : Nat) : ∀ args X H',zcq m args = some (X,H') → ACp Try.prog GG 51 args X := by
 intro args X H' h
 unfold zcq at h
 split at h
 ·exact z0B MIX (by
  intro f e h
  simp only [z4l,Prod.mk.injEq,List.mem_cons,List.not_mem_nil,or_false] at h
  rcases h with ⟨rfl,rfl⟩|⟨rfl,rfl⟩|⟨rfl,rfl⟩|⟨rfl,rfl⟩|⟨rfl,rfl⟩|⟨rfl,rfl⟩
  ·exact z5W m
  ·exact zho m
  ·exact ziA m
  ·exact zjr m
  ·exact zbR m
  ·exact zg6 m) (f := 51) (c := z5D) Try.func51 rfl (by kernel_rfl) _ rfl Try.ntmps51 (Nat.le_of_ble_eq_true rfl) choose_May_h h
 ·cases h
noncomputable def zaA : Code := (Try.f76.body).getD .skip
def choose_Low_h : Hint := (.two .n (.two (.two .n (.two (.two .n .n) .n)) (.two .n (.join [7] (.two .n (.one (.lp [] [7,17,18,19] [7] (.two .n (.two (.two .n .n) (.join [7,17,18,19] (.one (.two .n (.two .n (.two .n .n)))) .n)))))) (.two .n .n)))))
noncomputable def z8l (m : Nat) : Env := [(51, .tell (zcq m))]
noncomputable abbrev zcA : KO (AV × List AObj) := z3I Try.prog [.tmp 4, .tmp 5, .tmp 6]
noncomputable def zdD (m : Nat) (n0 : Nat) (kc : ASt → RO) (kx : KO (AV × List AObj)) (s : ASt) : RO := joinW Try.prog GG (z8l m) m ⟨34,[]⟩ (cdR (cdR (cdR (cdL (cdL (cdR (cdL (cdR (cdR (cdR zaA)))))))))) choose_Low_h.r.r.r.l.r.c.c.r.r.r s (backW n0 [7,17,18,19] [7] kc kx)
noncomputable def zhj (m : Nat) (s : ASt) : RO := joinW Try.prog GG (z8l m) m ⟨34,[]⟩ (cdR (cdR (cdR (cdR zaA)))) choose_Low_h.r.r.r.r s (zcA)
noncomputable def zhg (m : Nat) (s : ASt) (kc : ASt → RO) (kx : KO (AV × List AObj)) : RO := bodyW Try.prog GG (z8l m) m ⟨34,[]⟩ (cdL (cdL (cdR (cdL (cdR (cdR (cdR zaA))))))) choose_Low_h.r.r.r.l.r.c.c [7,17,18,19] [7] s kc kx
noncomputable def zga (m : Nat) (t0 t1 : AV) : RO := exec Try.prog GG (z8l m) m ⟨34,[]⟩ zaA choose_Low_h ⟨[],argsT 0 [t0,t1]⟩ (zcA)
theorem zdx (m : Nat) (n0 : Nat) (kc : ASt → RO) (kx : KO (AV × List AObj)) (H : List AObj) (t7 t17 t18 t19 : AV) : zdD m n0 kc kx ⟨H,[(7,t7),(17,t17),(18,t18),(19,t19)]⟩ =
 binE none false false .add t19 (V (.int .i64 1)) fun t29 =>
 backE n0 H [(7,t7),(17,t17),(18,t18),(19,t29)] kc := by
 refine (z04 _ _ _ _ _ _ _ _ _).trans ?_
 kernel_rfl
theorem ziU (m : Nat) (H : List AObj) (t7 : AV) : zhj m ⟨H,[(7,t7)]⟩ =
 z02 (some (2,1)) t7 fun t30 =>
 loadE 1 H t30 fun t31 =>
 z02 (some (3,1)) t7 fun t32 =>
 loadE 1 H t32 fun t33 =>
 tellK H (ro H (TU [noT t31,noT t33,noT (V (.int .i64 0))])) := by
 refine (z04 _ _ _ _ _ _ _ _ _).trans ?_
 kernel_rfl
theorem ziQ (m : Nat) (H : List AObj) (t7 t17 t18 t19 : AV) (kc : ASt → RO) (kx : KO (AV × List AObj)) : zhg m ⟨H,[(7,t7),(17,t17),(18,t18),(19,t19)]⟩ kc kx =
 binE none false false .lss t19 t18 fun t20 =>
 condE t20 (
  idxSE 8 H t17 t19 fun t21 =>
  loadE 8 H t21 fun t22 =>
  z4P (some zc_api_Change) z00 H fun t9 H2 =>
  z1e 8 H2 t9 t22 fun H3 =>
  z02 (some (2,1)) t9 fun t23 =>
  loadE 1 H3 t23 fun t24 =>
  z02 (some (2,1)) t7 fun t25 =>
  loadE 1 H3 t25 fun t26 =>
  binE none false false .gtr t24 t26 fun t27 =>
  condE t27 (
   loadE 8 H3 t9 fun t28 =>
   z1e 8 H3 t7 t28 fun H4 =>
   zdD m H.length kc kx ⟨H4,[(7,t7),(17,t17),(18,t18),(19,t19)]⟩) (
   zdD m H.length kc kx ⟨H3,[(7,t7),(17,t17),(18,t18),(19,t19)]⟩)) (
  kx (.exit 0) ⟨H,[(7,t7)]⟩) := by
 refine (z2i _ _ _ _ _ _ _ _ _ _ _ _).trans ?_
 kernel_rfl
theorem zlu (m : Nat) (t0 t1 : AV) : zga m t0 t1 =
 tellE (zg8 m (ro [] t0) (ro [] t1)) [(ro [] t0),(ro [] t1)] fun t12 =>
 unE .not t12 fun t13 =>
 condE t13 (
  tellK [] (ro [] (TU [noT (V (.int .i64 0)),noT (V (.int .i64 0)),noT (V (.int .i64 1))]))) (
  idxSE 8 [] t0 (V (.int .i64 0)) fun t15 =>
  loadE 8 [] t15 fun t16 =>
  z4P (some zc_api_Change) z00 [] fun t7 H1 =>
  z1e 8 H1 t7 t16 fun H2 =>
  lenE false true H2 t0 fun t18 =>
  iterC m (zhg m) ⟨H2,[(7,t7),(17,t0),(18,t18),(19,(V (.int .i64 0)))]⟩ (z3K 0 (seqX (fun s=>zhj m ⟨s.H,[(7,gt s.T 7)]⟩) (zcA)))) := by
 refine (tellX _ _ _ _ _ _ _ _ _).trans ?_
 kernel_rfl
noncomputable def zf8 (m : Nat) : List AV → RO|[t0,t1]=>zga m t0 t1|_=>none
theorem zkW (m : Nat) : ∀ args X H',zf8 m args = some (X,H') → ACp Try.prog GG 76 args X := by
 intro args X H' h
 unfold zf8 at h
 split at h
 ·exact z0B MIX (by
  intro f e h
  simp only [z8l,Prod.mk.injEq,List.mem_cons,List.not_mem_nil,or_false] at h
  obtain ⟨rfl,rfl⟩ := h
  ·exact zhC m) (f := 76) (c := zaA) Try.func76 rfl (by kernel_rfl) _ rfl Try.ntmps76 (Nat.le_of_ble_eq_true rfl) choose_Low_h h
 ·cases h
end Go.Proofs.Ytaaogcnjfkgnoaa

namespace Go.Proofs.Ytaaogcnjfkgnoaa
open Go.RowKit
def z5A : TypeId := 9
def z4k : TypeId := 107
def zhl : List AV := [(V (.map none)),(V (.slice none 0 0))]
def zhe : List (Nat × Nat) := [(0,1),(1,1)]
noncomputable def zfW : Code := (Try.f26.body).getD .skip
def term_New_h : Hint := (.two .n (.gh (0,1,z5A,1) [0] .n .n))
noncomputable def zfj (m : Nat) : Env := []
noncomputable abbrev zj7 (n0 : Nat) : KO (AV × List AObj) := zmf Try.prog n0 [.tmp 0]
noncomputable def zjH (m : Nat) (n0k : Nat) (s : ASt) : RO := joinW Try.prog GG (zfj m) m ⟨4,[]⟩ (cdR (cdR zfW)) term_New_h.r.r s (zj7 n0k)
noncomputable def zh3 (m : Nat) (H : List AObj) : RO := exec Try.prog GG (zfj m) m ⟨4,[]⟩ zfW term_New_h ⟨H,argsT 0 []⟩ (zj7 H.length)
theorem zkh (m : Nat) (n0k : Nat) (H : List AObj) (t0 : AV) : zjH m n0k ⟨H,[(0,t0)]⟩ =
 openK H (ro H t0) := by
 refine (z04 _ _ _ _ _ _ _ _ _).trans ?_
 kernel_rfl
theorem znC (m : Nat) (H : List AObj) : zh3 m H =
 makeE (mapT Try.prog 105) H fun t1 H2 =>
 z49 (some zhe) (some zhl) [(0,t1)] fun t2 =>
 boxE z4k H2 t2 fun t3 H3 =>
 zjH m H.length (ghS 0 1 z5A 1 ⟨H3,[(0,t3)]⟩) := by
 refine (openX Try.prog GG (zfj m) m ⟨4,[]⟩ H.length zfW term_New_h ⟨H,argsT 0 []⟩ [.tmp 0]).trans ?_
 kernel_rfl
noncomputable def zfI (m : Nat) : List AV → List AObj → RO|[],H=>zh3 m H|_,_=>none
theorem zjT (m : Nat) : ∀ args H X H',zfI m args H = some (X,H') → AC Try.prog GG 26 args H (Is X H') := by
 intro args H X H' h
 unfold zfI at h
 split at h
 ·exact zmZ (n := H.length) MIX (by intro f e h;cases h) (f := 26) (c := zfW) Try.func26 rfl (by kernel_rfl) _ rfl Try.ntmps26 (Nat.le_of_ble_eq_true rfl) term_New_h h
 ·cases h
noncomputable def zbi : Code := (Try.f28.body).getD .skip
def zb7 : Hint := (.two .n (.two (.two .n (.two .n (.two (.two .n .n) .n))) (.two (.two .n (.two (.two .n .n) .n)) (.two .n (.two .n (.two .n .n))))))
noncomputable def zcY (m : Nat) : Env := []
noncomputable abbrev zhD (n0 : Nat) : KO (AV × List AObj) := z77 Try.prog n0 [.tmp 4, .tmp 5]
noncomputable def z7L (m : Nat) (t0 t1 : AV) (H : List AObj) : RO := exec Try.prog GG (zcY m) m ⟨50,[]⟩ zbi zb7 ⟨H,argsT 0 [t0,t1]⟩ (zhD H.length)
theorem zik (m : Nat) (t0 t1 : AV) (H : List AObj) : z7L m t0 t1 H =
 nilE t0 fun t10 =>
 z02 (some (0,1)) t10 fun t11 =>
 loadE 1 H t11 fun t12 =>
 lookE Try.prog 105 H t12 t1 true fun t14 =>
 extE t14 0 fun t15 =>
 extE t14 1 fun t16 =>
 condE t16 (
  keepK H.length H (ro H (TU [noT t15,noT (V (.int .i64 0))]))) (
  nilE t0 fun t20 =>
  z02 (some (1,1)) t20 fun t21 =>
  loadE 1 H t21 fun t22 =>
  lenE false true H t22 fun t23 =>
  binE none false false .geq t23 (V (.int .i64 65536)) fun t24 =>
  condE t24 (
   keepK H.length H (ro H (TU [noT (V (.int .i64 0)),noT (V (.int .i64 5))]))) (
   nilE t0 fun t27 =>
   z02 (some (1,1)) t27 fun t28 =>
   loadE 1 H t28 fun t29 =>
   z1a (some (z5A,1)) 1 [(0,t1)] fun t31 =>
   appE (some (z5A,1)) H t29 t31 fun t32 H2 =>
   nilE t0 fun t33 =>
   z02 (some (1,1)) t33 fun t34 =>
   z1e 1 H2 t34 t32 fun H3 =>
   nilE t0 fun t36 =>
   z02 (some (0,1)) t36 fun t37 =>
   loadE 1 H3 t37 fun t38 =>
   nilE t0 fun t41 =>
   z02 (some (1,1)) t41 fun t42 =>
   loadE 1 H3 t42 fun t43 =>
   lenE false true H3 t43 fun t44 =>
   putME Try.prog 105 H3 t38 t1 t44 fun H4 =>
   nilE t0 fun t46 =>
   z02 (some (1,1)) t46 fun t47 =>
   loadE 1 H4 t47 fun t48 =>
   lenE false true H4 t48 fun t49 =>
   keepK H.length H4 (ro H4 (TU [noT t49,noT (V (.int .i64 0))])))) := by
 refine (keepX Try.prog GG (zcY m) m ⟨50,[]⟩ H.length zbi zb7 ⟨H,argsT 0 [t0,t1]⟩ [.tmp 4, .tmp 5]).trans ?_
 kernel_rfl
noncomputable def z5i (m : Nat) : List AV → List AObj → RO|[t0,t1],H=>z7L m t0 t1 H|_,_=>none
theorem z81 (m : Nat) : ∀ args H X H',z5i m args H = some (X,H') → AC Try.prog GG 28 args H (Is X H') := by
 intro args H X H' h
 unfold z5i at h
 split at h
 ·exact z2x MIX (by intro f e h;cases h) (f := 28) (c := zbi) Try.func28 rfl (by kernel_rfl) _ rfl Try.ntmps28 (Nat.le_of_ble_eq_true rfl) zb7 h
 ·cases h
noncomputable def z8O : Code := (Try.f16.body).getD .skip
def z90 : Hint := (.two .n (.two .n .n))
noncomputable def zal (m : Nat) : Env := []
noncomputable abbrev zfo (n0 : Nat) : KO (AV × List AObj) := z77 Try.prog n0 [.tmp 2]
noncomputable def z5G (m : Nat) (t0 : AV) (H : List AObj) : RO := exec Try.prog GG (zal m) m ⟨8,[]⟩ z8O z90 ⟨H,argsT 0 [t0]⟩ (zfo H.length)
theorem zgm (m : Nat) (t0 : AV) (H : List AObj) : z5G m t0 H =
 nilE t0 fun t4 =>
 z02 (some (1,1)) t4 fun t5 =>
 loadE 1 H t5 fun t6 =>
 lenE false true H t6 fun t7 =>
 keepK H.length H (ro H t7) := by
 refine (keepX Try.prog GG (zal m) m ⟨8,[]⟩ H.length z8O z90 ⟨H,argsT 0 [t0]⟩ [.tmp 2]).trans ?_
 kernel_rfl
noncomputable def z8R (m : Nat) : List AV → List AObj → RO|[t0],H=>z5G m t0 H|_,_=>none
theorem zfQ (m : Nat) : ∀ args H X H',z8R m args H = some (X,H') → AC Try.prog GG 16 args H (Is X H') := by
 intro args H X H' h
 unfold z8R at h
 split at h
 ·exact z2x MIX (by intro f e h;cases h) (f := 16) (c := z8O) Try.func16 rfl (by kernel_rfl) _ rfl Try.ntmps16 (Nat.le_of_ble_eq_true rfl) z90 h
 ·cases h
end Go.Proofs.Ytaaogcnjfkgnoaa

namespace Go.Proofs.Ytaaogcnjfkgnoaa
open Go.RowKit
def zha : TypeId := 117
def z5Z : TypeId := 119
def zgQ : List AV := [(V (.bool false)),(V (.bool false)),(V (.bool false)),(V (.bool false)),(V (.bool false)),(V (.bool false)),(V (.bool false)),(V (.bool false)),(V (.bool false)),(V (.bool false)),(V (.bool false)),(V (.bool false)),(V (.bool false)),(V (.bool false)),(V (.bool false)),(V (.bool false)),(V (.bool false)),(V (.bool false)),(V (.bool false)),(V (.bool false)),(V (.bool false)),(V (.bool false)),(V (.bool false)),(V (.bool false)),(V (.bool false)),(V (.bool false)),(V (.bool false)),(V (.bool false)),(V (.bool false)),(V (.bool false)),(V (.bool false)),(V (.bool false)),(V (.bool false)),(V (.bool false)),(V (.bool false)),(V (.bool false)),(V (.bool false)),(V (.bool false)),(V (.bool false)),(V (.bool false)),(V (.bool false)),(V (.bool false)),(V (.bool false)),(V (.bool false)),(V (.bool false)),(V (.bool false)),(V (.bool false)),(V (.bool false)),(V (.bool false)),(V (.bool false)),(V (.bool false)),(V (.bool false)),(V (.bool false)),(V (.bool false)),(V (.bool false)),(V (.bool false)),(V (.bool false)),(V (.bool false)),(V (.bool false)),(V (.bool false)),(V (.bool false)),(V (.bool false)),(V (.bool false)),(V (.bool false))]
def ziL : List AV := [(V (.int .i64 0)),(V (.bool false)),(V (.bool false)),(V (.bool false)),(V (.bool false)),(V (.bool false)),(V (.bool false)),(V (.bool false)),(V (.bool false)),(V (.bool false)),(V (.bool false)),(V (.bool false)),(V (.bool false)),(V (.bool false)),(V (.bool false)),(V (.bool false)),(V (.bool false)),(V (.bool false)),(V (.bool false)),(V (.bool false)),(V (.bool false)),(V (.bool false)),(V (.bool false)),(V (.bool false)),(V (.bool false)),(V (.bool false)),(V (.bool false)),(V (.bool false)),(V (.bool false)),(V (.bool false)),(V (.bool false)),(V (.bool false)),(V (.bool false)),(V (.bool false)),(V (.bool false)),(V (.bool false)),(V (.bool false)),(V (.bool false)),(V (.bool false)),(V (.bool false)),(V (.bool false)),(V (.bool false)),(V (.bool false)),(V (.bool false)),(V (.bool false)),(V (.bool false)),(V (.bool false)),(V (.bool false)),(V (.bool false)),(V (.bool false)),(V (.bool false)),(V (.bool false)),(V (.bool false)),(V (.bool false)),(V (.bool false)),(V (.bool false)),(V (.bool false)),(V (.bool false)),(V (.bool false)),(V (.bool false)),(V (.bool false)),(V (.bool false)),(V (.bool false)),(V (.bool false)),(V (.bool false)),(V (.map none)),(V (.slice none 0 0))]
def zj0 : List (Nat × Nat) := [(0,1),(1,64),(65,1),(66,1)]
noncomputable def zcm : Code := (Try.f57.body).getD .skip
def zcc : Hint := (.two .n (.two .n .n))
noncomputable def ze1 (m : Nat) : Env := []
noncomputable abbrev ziH (n0 : Nat) : KO (AV × List AObj) := z77 Try.prog n0 [.tmp 4]
noncomputable def z8W (m : Nat) (t0 t1 : AV) (H : List AObj) : RO := exec Try.prog GG (ze1 m) m ⟨15,[]⟩ zcm zcc ⟨H,argsT 0 [t0,t1]⟩ (ziH H.length)
theorem zjq (m : Nat) (t0 t1 : AV) (H : List AObj) : z8W m t0 t1 H =
 binE none false false .geq t1 (V (.int .i64 0)) fun t6 =>
 condE t6 (
  nilE t0 fun t10 =>
  z02 (some (0,1)) t10 fun t11 =>
  loadE 1 H t11 fun t12 =>
  binE none false false .lss t1 t12 fun t13 =>
  keepK H.length H (ro H t13)) (
  keepK H.length H (ro H (V (.bool false)))) := by
 refine (keepX Try.prog GG (ze1 m) m ⟨15,[]⟩ H.length zcm zcc ⟨H,argsT 0 [t0,t1]⟩ [.tmp 4]).trans ?_
 kernel_rfl
noncomputable def z85 (m : Nat) : List AV → List AObj → RO|[t0,t1],H=>z8W m t0 t1 H|_,_=>none
theorem zbc (m : Nat) : ∀ args H X H',z85 m args H = some (X,H') → AC Try.prog GG 57 args H (Is X H') := by
 intro args H X H' h
 unfold z85 at h
 split at h
 ·exact z2x MIX (by intro f e h;cases h) (f := 57) (c := zcm) Try.func57 rfl (by kernel_rfl) _ rfl Try.ntmps57 (Nat.le_of_ble_eq_true rfl) zcc h
 ·cases h
noncomputable def zbh : Code := (Try.f59.body).getD .skip
def zb4 : Hint := (.two .n (.two .n .n))
noncomputable def z9F (m : Nat) : Env := [(57, .keep (z85 m))]
noncomputable abbrev zhK (n0 : Nat) : KO (AV × List AObj) := z77 Try.prog n0 [.tmp 4]
noncomputable def z9m (m : Nat) (t0 t1 : AV) (H : List AObj) : RO := exec Try.prog GG (z9F m) m ⟨16,[]⟩ zbh zb4 ⟨H,argsT 0 [t0,t1]⟩ (zhK H.length)
theorem ziI (m : Nat) (t0 t1 : AV) (H : List AObj) : z9m m t0 t1 H =
 keepE (z8W m (ro H t0) (ro H t1) H) fun t7 H2 =>
 condE t7 (
  nilE t0 fun t11 =>
  z02 (some (1,66)) t11 fun t12 =>
  idxPE 64 1 t12 t1 fun t13 =>
  loadE 1 H2 t13 fun t14 =>
  keepK H.length H2 (ro H2 t14)) (
  keepK H.length H2 (ro H2 (V (.bool false)))) := by
 refine (keepX Try.prog GG (z9F m) m ⟨16,[]⟩ H.length zbh zb4 ⟨H,argsT 0 [t0,t1]⟩ [.tmp 4]).trans ?_
 kernel_rfl
noncomputable def zb3 (m : Nat) : List AV → List AObj → RO|[t0,t1],H=>z9m m t0 t1 H|_,_=>none
theorem ziw (m : Nat) : ∀ args H X H',zb3 m args H = some (X,H') → AC Try.prog GG 59 args H (Is X H') := by
 intro args H X H' h
 unfold zb3 at h
 split at h
 ·exact z2x MIX (by
  intro f e h
  simp only [z9F,Prod.mk.injEq,List.mem_cons,List.not_mem_nil,or_false] at h
  obtain ⟨rfl,rfl⟩ := h
  ·exact zbc m) (f := 59) (c := zbh) Try.func59 rfl (by kernel_rfl) _ rfl Try.ntmps59 (Nat.le_of_ble_eq_true rfl) zb4 h
 ·cases h
noncomputable def zbe : Code := (Try.f36.body).getD .skip
def zb5 : Hint := (.two .n (.two .n .n))
noncomputable def zcZ (m : Nat) : Env := []
noncomputable abbrev zhR (n0 : Nat) : KO (AV × List AObj) := z77 Try.prog n0 [.tmp 4]
noncomputable def z7O (m : Nat) (t0 t1 : AV) (H : List AObj) : RO := exec Try.prog GG (zcZ m) m ⟨12,[]⟩ zbe zb5 ⟨H,argsT 0 [t0,t1]⟩ (zhR H.length)
theorem ziq (m : Nat) (t0 t1 : AV) (H : List AObj) : z7O m t0 t1 H =
 boxE z01 H t1 fun t3 H2 =>
 nilE t0 fun t6 =>
 z02 (some (65,1)) t6 fun t7 =>
 loadE 1 H2 t7 fun t8 =>
 loadE 7 H2 t3 fun t9 =>
 lookE Try.prog 116 H2 t8 t9 false fun t10 =>
 binE none false false .gtr t10 (V (.int .i64 0)) fun t11 =>
 keepK H.length H2 (ro H2 t11) := by
 refine (keepX Try.prog GG (zcZ m) m ⟨12,[]⟩ H.length zbe zb5 ⟨H,argsT 0 [t0,t1]⟩ [.tmp 4]).trans ?_
 kernel_rfl
noncomputable def z5j (m : Nat) : List AV → List AObj → RO|[t0,t1],H=>z7O m t0 t1 H|_,_=>none
theorem z8u (m : Nat) : ∀ args H X H',z5j m args H = some (X,H') → AC Try.prog GG 36 args H (Is X H') := by
 intro args H X H' h
 unfold z5j at h
 split at h
 ·exact z2x MIX (by intro f e h;cases h) (f := 36) (c := zbe) Try.func36 rfl (by kernel_rfl) _ rfl Try.ntmps36 (Nat.le_of_ble_eq_true rfl) zb5 h
 ·cases h
noncomputable def z9k : Code := (Try.f27.body).getD .skip
def ring_New_h : Hint := (.two .n (.join [0,1] (.join [0,1,14] .n (.two (.two .n .n) .n)) (.gh (6,66,z01,5) [1,6] .n (.join [6] (.two .n (.one (.lp [] [6,19,20,21] [4,5,6] (.two .n (.two (.two .n .n) (.two (.one (.two .n (.two (.two .n (.two (.two .n .n) .n)) .n))) .n)))))) (.two .n .n)))))
noncomputable def z5F (m : Nat) : Env := [(57, .keep (z85 m))]
noncomputable abbrev z8I (n0 : Nat) : KO (AV × List AObj) := zmf Try.prog n0 [.tmp 4, .tmp 5]
noncomputable def zk0 (m : Nat) (n0k : Nat) (s : ASt) : RO := joinW Try.prog GG (z5F m) m ⟨36,[]⟩ (cdR (cdR (cdR (cdR z9k)))) ring_New_h.r.r.r.r s (z8I n0k)
noncomputable def zgP (m : Nat) (s : ASt) (kc : ASt → RO) (kx : KO (AV × List AObj)) : RO := bodyW Try.prog GG (z5F m) m ⟨36,[]⟩ (cdL (cdL (cdR (cdL (cdR (cdR (cdR z9k))))))) ring_New_h.r.r.r.l.r.c.c [6,19,20,21] [4,5,6] s kc kx
noncomputable def zgU (m : Nat) (n0k : Nat) (s : ASt) : RO := joinW Try.prog GG (z5F m) m ⟨36,[]⟩ (cdR (cdR (cdR z9k))) ring_New_h.r.r.r s (z8I n0k)
noncomputable def zh6 (m : Nat) (n0k : Nat) (s : ASt) : RO := joinW Try.prog GG (z5F m) m ⟨36,[]⟩ (cdR (cdR z9k)) ring_New_h.r.r s (z8I n0k)
noncomputable def zgB (m : Nat) (n0k : Nat) (s : ASt) : RO := joinW Try.prog GG (z5F m) m ⟨36,[]⟩ (cdR (cdL (cdR z9k))) ring_New_h.r.l.r s (seqX (fun s=>zh6 m n0k ⟨s.H,[(0,gt s.T 0),(1,gt s.T 1)]⟩) (z8I n0k))
noncomputable def ze4 (m : Nat) (t0 t1 : AV) (H : List AObj) : RO := exec Try.prog GG (z5F m) m ⟨36,[]⟩ z9k ring_New_h ⟨H,argsT 0 [t0,t1]⟩ (z8I H.length)
theorem zkG (m : Nat) (n0k : Nat) (H : List AObj) (t6 : AV) : zk0 m n0k ⟨H,[(6,t6)]⟩ =
 openK H (ro H (TU [noT t6,noT (V (.int .i64 0))])) := by
 refine (z04 _ _ _ _ _ _ _ _ _).trans ?_
 kernel_rfl
theorem zcL (m : Nat) (H : List AObj) (t6 t19 t20 t21 : AV) (kc : ASt → RO) (kx : KO (AV × List AObj)) : zgP m ⟨H,[(6,t6),(19,t19),(20,t20),(21,t21)]⟩ kc kx =
 binE none false false .lss t21 t20 fun t22 =>
 condE t22 (
  idxSE 1 H t19 t21 fun t23 =>
  loadE 1 H t23 fun t24 =>
  keepE (z8W m (ro H t6) (ro H t24) H) fun t27 H2 =>
  unE .not t27 fun t28 =>
  condE t28 (
   kx .ret ⟨H2,[(4,(V (.pointer none))),(5,(V (.int .i64 1))),(6,t6)]⟩) (
   nilE t6 fun t31 =>
   z02 (some (1,66)) t31 fun t32 =>
   idxPE 64 1 t32 t24 fun t33 =>
   z1e 1 H2 t33 (V (.bool true)) fun H3 =>
   binE none false false .add t21 (V (.int .i64 1)) fun t34 =>
   backE H.length H3 [(6,t6),(19,t19),(20,t20),(21,t34)] kc)) (
  kx (.exit 0) ⟨H,[(4, .nil),(5, .nil),(6,t6)]⟩) := by
 refine (z2i _ _ _ _ _ _ _ _ _ _ _ _).trans ?_
 kernel_rfl
theorem zfG (m : Nat) (n0k : Nat) (H : List AObj) (t1 t6 : AV) : zgU m n0k ⟨H,[(1,t1),(6,t6)]⟩ =
 lenE false true H t1 fun t20 =>
 iterC m (zgP m) ⟨H,[(6,t6),(19,t1),(20,t20),(21,(V (.int .i64 0)))]⟩ (z3K 0 (seqX (fun s=>zk0 m n0k ⟨s.H,[(6,gt s.T 6)]⟩) (z8I n0k))) := by
 refine (z04 _ _ _ _ _ _ _ _ _).trans ?_
 kernel_rfl
theorem zkk (m : Nat) (n0k : Nat) (H : List AObj) (t0 t1 : AV) : zh6 m n0k ⟨H,[(0,t0),(1,t1)]⟩ =
 makeE (mapT Try.prog 116) H fun t16 H2 =>
 z49 (some zj0) (some ziL) [(0,t0),(2,t16)] fun t17 =>
 boxE z5Z H2 t17 fun t18 H3 =>
 zgU m n0k (ghS 6 66 z01 5 ⟨H3,[(1,t1),(6,t18)]⟩) := by
 refine (z04 _ _ _ _ _ _ _ _ _).trans ?_
 kernel_rfl
theorem zkr (m : Nat) (n0k : Nat) (H : List AObj) (t0 t1 t14 : AV) : zgB m n0k ⟨H,[(0,t0),(1,t1),(14,t14)]⟩ =
 condE t14 (
  openK H (ro H (TU [noT (V (.pointer none)),noT (V (.int .i64 1))]))) (
  zh6 m n0k ⟨H,[(0,t0),(1,t1)]⟩) := by
 refine (z04 _ _ _ _ _ _ _ _ _).trans ?_
 kernel_rfl
theorem znJ (m : Nat) (t0 t1 : AV) (H : List AObj) : ze4 m t0 t1 H =
 binE none false false .lss t0 (V (.int .i64 1)) fun t10 =>
 condE t10 (
  zgB m H.length ⟨H,[(0,t0),(1,t1),(14,(V (.bool true)))]⟩) (
  binE none false false .gtr t0 (V (.int .i64 64)) fun t13 =>
  zgB m H.length ⟨H,[(0,t0),(1,t1),(14,t13)]⟩) := by
 refine (openX Try.prog GG (z5F m) m ⟨36,[]⟩ H.length z9k ring_New_h ⟨H,argsT 0 [t0,t1]⟩ [.tmp 4, .tmp 5]).trans ?_
 kernel_rfl
noncomputable def zg3 (m : Nat) : List AV → List AObj → RO|[t0,t1],H=>ze4 m t0 t1 H|_,_=>none
theorem zk4 (m : Nat) : ∀ args H X H',zg3 m args H = some (X,H') → AC Try.prog GG 27 args H (Is X H') := by
 intro args H X H' h
 unfold zg3 at h
 split at h
 ·exact zmZ (n := H.length) MIX (by
  intro f e h
  simp only [z5F,Prod.mk.injEq,List.mem_cons,List.not_mem_nil,or_false] at h
  obtain ⟨rfl,rfl⟩ := h
  ·exact zbc m) (f := 27) (c := z9k) Try.func27 rfl (by kernel_rfl) _ rfl Try.ntmps27 (Nat.le_of_ble_eq_true rfl) ring_New_h h
 ·cases h
noncomputable def z7b : Code := (Try.f30.body).getD .skip
def ring_Ring_Say_h : Hint := (.two .n (.join [0,5] (.one (.two .n (.two (.two .n .n) (.join [0,5,12] .n (.two (.two .n .n) (.two .n (.two (.two .n .n) (.two .n (.two (.two .n .n) .n))))))))) (.two .n (.two .n (.two .n .n)))))
noncomputable def z5d (m : Nat) : Env := [(57, .keep (z85 m)),(59, .keep (zb3 m)),(36, .keep (z5j m))]
noncomputable abbrev z9H (n0 : Nat) : KO (AV × List AObj) := z77 Try.prog n0 [.tmp 6]
noncomputable def z7R (m : Nat) (n0k : Nat) (s : ASt) : RO := joinW Try.prog GG (z5d m) m ⟨60,[]⟩ (cdR (cdR z7b)) ring_Ring_Say_h.r.r s (z9H n0k)
noncomputable def z5Q (m : Nat) (n0k : Nat) (s : ASt) : RO := joinW Try.prog GG (z5d m) m ⟨60,[]⟩ (cdR (cdR (cdR (cdL (cdL (cdR z7b)))))) ring_Ring_Say_h.r.l.c.r.r.r s (z3K 0 (seqX (fun s=>z7R m n0k ⟨s.H,[(0,gt s.T 0),(5,gt s.T 5)]⟩) (z9H n0k)))
noncomputable def z7E (m : Nat) (t0 t1 t2 : AV) (H : List AObj) : RO := exec Try.prog GG (z5d m) m ⟨60,[]⟩ z7b ring_Ring_Say_h ⟨H,argsT 0 [t0,t1,t2]⟩ (z9H H.length)
theorem zfP (m : Nat) (n0k : Nat) (H : List AObj) (t0 t5 : AV) : z7R m n0k ⟨H,[(0,t0),(5,t5)]⟩ =
 nilE t0 fun t42 =>
 z02 (some (66,1)) t42 fun t43 =>
 loadE 1 H t43 fun t44 =>
 loadE 7 H t5 fun t45 =>
 z1a (some (z01,5)) 1 [(0,t45)] fun t46 =>
 appE (some (z01,5)) H t44 t46 fun t47 H2 =>
 nilE t0 fun t48 =>
 z02 (some (66,1)) t48 fun t49 =>
 z1e 1 H2 t49 t47 fun H3 =>
 nilE t0 fun t51 =>
 z02 (some (65,1)) t51 fun t52 =>
 loadE 1 H3 t52 fun t53 =>
 loadE 7 H3 t5 fun t54 =>
 nilE t0 fun t56 =>
 z02 (some (66,1)) t56 fun t57 =>
 loadE 1 H3 t57 fun t58 =>
 lenE false true H3 t58 fun t59 =>
 putME Try.prog 116 H3 t53 t54 t59 fun H4 =>
 keepK n0k H4 (ro H4 (V (.int .i64 0))) := by
 refine (z04 _ _ _ _ _ _ _ _ _).trans ?_
 kernel_rfl
theorem zgd (m : Nat) (n0k : Nat) (H : List AObj) (t0 t5 t12 : AV) : z5Q m n0k ⟨H,[(0,t0),(5,t5),(12,t12)]⟩ =
 condE t12 (
  keepK n0k H (ro H (V (.int .i64 19)))) (
  loadE 7 H t5 fun t31 =>
  keepE (z7O m (ro H t0) (ro H t31) H) fun t32 H2 =>
  condE t32 (
   keepK n0k H2 (ro H2 (V (.int .i64 0)))) (
   nilE t0 fun t35 =>
   z02 (some (66,1)) t35 fun t36 =>
   loadE 1 H2 t36 fun t37 =>
   lenE false true H2 t37 fun t38 =>
   binE none false false .geq t38 (V (.int .i64 65536)) fun t39 =>
   condE t39 (
    keepK n0k H2 (ro H2 (V (.int .i64 5)))) (
    z7R m n0k ⟨H2,[(0,t0),(5,t5)]⟩))) := by
 refine (z04 _ _ _ _ _ _ _ _ _).trans ?_
 kernel_rfl
theorem ziV (m : Nat) (t0 t1 t2 : AV) (H : List AObj) : z7E m t0 t1 t2 H =
 boxE z01 H t2 fun t5 H2 =>
 keepE (z8W m (ro H2 t0) (ro H2 t1) H2) fun t10 H3 =>
 unE .not t10 fun t11 =>
 condE t11 (
  keepK H.length H3 (ro H3 (V (.int .i64 4)))) (
  z02 (some (0,1)) t5 fun t13 =>
  loadE 1 H3 t13 fun t14 =>
  binE none false false .neq t14 t1 fun t16 =>
  condE t16 (
   keepE (z9m m (ro H3 t0) (ro H3 t1) H3) fun t20 H4 =>
   condE t20 (
   z02 (some (0,1)) t5 fun t23 =>
   loadE 1 H4 t23 fun t24 =>
   keepE (z9m m (ro H4 t0) (ro H4 t24) H4) fun t25 H5 =>
   unE .not t25 fun t27 =>
   z5Q m H.length ⟨H5,[(0,t0),(5,t5),(12,t27)]⟩) (
   z5Q m H.length ⟨H4,[(0,t0),(5,t5),(12,(V (.bool true)))]⟩)) (
   z5Q m H.length ⟨H3,[(0,t0),(5,t5),(12,(V (.bool false)))]⟩)) := by
 refine (keepX Try.prog GG (z5d m) m ⟨60,[]⟩ H.length z7b ring_Ring_Say_h ⟨H,argsT 0 [t0,t1,t2]⟩ [.tmp 6]).trans ?_
 kernel_rfl
noncomputable def z9d (m : Nat) : List AV → List AObj → RO|[t0,t1,t2],H=>z7E m t0 t1 t2 H|_,_=>none
theorem zdP (m : Nat) : ∀ args H X H',z9d m args H = some (X,H') → AC Try.prog GG 30 args H (Is X H') := by
 intro args H X H' h
 unfold z9d at h
 split at h
 ·exact z2x MIX (by
  intro f e h
  simp only [z5d,Prod.mk.injEq,List.mem_cons,List.not_mem_nil,or_false] at h
  rcases h with ⟨rfl,rfl⟩|⟨rfl,rfl⟩|⟨rfl,rfl⟩
  ·exact zbc m
  ·exact ziw m
  ·exact z8u m) (f := 30) (c := z7b) Try.func30 rfl (by kernel_rfl) _ rfl Try.ntmps30 (Nat.le_of_ble_eq_true rfl) ring_Ring_Say_h h
 ·cases h
noncomputable def z1g : Code := (Try.f66.body).getD .skip
def ring_Ring_Voices_h : Hint := (.two .n (.two .n (.join [7] (.two .n (.one (.lp [] [0,5,7,13,14,15] [7] (.two .n (.two (.two .n .n) (.join [0,5,7,13,14,15] (.one (.two .n (.two .n (.join [0,5,7,9,13,14,15,29] .n (.two .n .n))))) .n)))))) (.two .n (.join [10] (.two .n (.one (.lp [(10,z6Y,1)] [10,34,35] [10] (.two .n (.two (.two .n .n) (.join [10,34,35] (.one (.two .n (.two .n (.two .n .n)))) .n)))))) (.two .n .n))))))
noncomputable def z0C (m : Nat) : Env := [(36, .keep (z5j m))]
noncomputable abbrev z47 (n0 : Nat) : KO (AV × List AObj) := z77 Try.prog n0 [.tmp 6]
noncomputable def z5s (m : Nat) (n0 : Nat) (kc : ASt → RO) (kx : KO (AV × List AObj)) (s : ASt) : RO := joinW Try.prog GG (z0C m) m ⟨46,[]⟩ (cdR (cdR (cdR (cdL (cdL (cdR (cdL (cdR (cdR z1g))))))))) ring_Ring_Voices_h.r.r.l.r.c.c.r.r.r s (backW n0 [0,5,7,13,14,15] [7] kc kx)
noncomputable def z84 (m : Nat) (n0 : Nat) (kc : ASt → RO) (kx : KO (AV × List AObj)) (s : ASt) : RO := joinW Try.prog GG (z0C m) m ⟨46,[]⟩ (cdR (cdR (cdR (cdL (cdL (cdR (cdL (cdR (cdR (cdR (cdR z1g))))))))))) ring_Ring_Voices_h.r.r.r.r.l.r.c.c.r.r.r s (backW n0 [10,34,35] [10] kc kx)
noncomputable def zaV (m : Nat) (n0k : Nat) (s : ASt) : RO := joinW Try.prog GG (z0C m) m ⟨46,[]⟩ (cdR (cdR (cdR (cdR (cdR z1g))))) ring_Ring_Voices_h.r.r.r.r.r s (z47 n0k)
noncomputable def z8q (m : Nat) (n0 : Nat) (kc : ASt → RO) (kx : KO (AV × List AObj)) (s : ASt) : RO := joinW Try.prog GG (z0C m) m ⟨46,[]⟩ (cdR (cdR (cdR (cdL (cdL (cdR (cdR (cdL (cdL (cdR (cdL (cdR (cdR z1g))))))))))))) ring_Ring_Voices_h.r.r.l.r.c.c.r.r.l.c.r.r.r s (z3K 1 (seqX (fun s=>z5s m n0 kc kx ⟨s.H,[(0,gt s.T 0),(5,gt s.T 5),(7,gt s.T 7),(13,gt s.T 13),(14,gt s.T 14),(15,gt s.T 15)]⟩) (backW n0 [0,5,7,13,14,15] [7] kc kx)))
noncomputable def zaY (m : Nat) (s : ASt) (kc : ASt → RO) (kx : KO (AV × List AObj)) : RO := bodyW Try.prog GG (z0C m) m ⟨46,[]⟩ (cdL (cdL (cdR (cdL (cdR (cdR (cdR (cdR z1g)))))))) ring_Ring_Voices_h.r.r.r.r.l.r.c.c [10,34,35] [10] s kc kx
noncomputable def z8m (m : Nat) (n0k : Nat) (s : ASt) : RO := joinW Try.prog GG (z0C m) m ⟨46,[]⟩ (cdR (cdR (cdR z1g))) ring_Ring_Voices_h.r.r.r s (z47 n0k)
noncomputable def zaU (m : Nat) (s : ASt) (kc : ASt → RO) (kx : KO (AV × List AObj)) : RO := bodyW Try.prog GG (z0C m) m ⟨46,[]⟩ (cdL (cdL (cdR (cdL (cdR (cdR z1g)))))) ring_Ring_Voices_h.r.r.l.r.c.c [0,5,7,13,14,15] [7] s kc kx
noncomputable def z8x (m : Nat) (t0 t1 t2 : AV) (H : List AObj) : RO := exec Try.prog GG (z0C m) m ⟨46,[]⟩ z1g ring_Ring_Voices_h ⟨H,argsT 0 [t0,t1,t2]⟩ (z47 H.length)
theorem z5I (m : Nat) (n0 : Nat) (kc : ASt → RO) (kx : KO (AV × List AObj)) (H : List AObj) (t0 t5 t7 t13 t14 t15 : AV) : z5s m n0 kc kx ⟨H,[(0,t0),(5,t5),(7,t7),(13,t13),(14,t14),(15,t15)]⟩ =
 binE none false false .add t15 (V (.int .i64 1)) fun t33 =>
 backE n0 H [(0,t0),(5,t5),(7,t7),(13,t13),(14,t14),(15,t33)] kc := by
 refine (z04 _ _ _ _ _ _ _ _ _).trans ?_
 kernel_rfl
theorem z9q (m : Nat) (n0 : Nat) (kc : ASt → RO) (kx : KO (AV × List AObj)) (H : List AObj) (t10 t34 t35 : AV) : z84 m n0 kc kx ⟨H,[(10,t10),(34,t34),(35,t35)]⟩ =
 binE none false false .add t35 (V (.int .i64 1)) fun t44 =>
 backE n0 H [(10,t10),(34,t34),(35,t44)] kc := by
 refine (z04 _ _ _ _ _ _ _ _ _).trans ?_
 kernel_rfl
theorem zef (m : Nat) (n0k : Nat) (H : List AObj) (t10 : AV) : zaV m n0k ⟨H,[(10,t10)]⟩ =
 keepK n0k H (ro H t10) := by
 refine (z04 _ _ _ _ _ _ _ _ _).trans ?_
 kernel_rfl
theorem z5J (m : Nat) (n0 : Nat) (kc : ASt → RO) (kx : KO (AV × List AObj)) (H : List AObj) (t0 t5 t7 t9 t13 t14 t15 t29 : AV) : z8q m n0 kc kx ⟨H,[(0,t0),(5,t5),(7,t7),(9,t9),(13,t13),(14,t14),(15,t15),(29,t29)]⟩ =
 condE t29 (
  z02 (some (0,1)) t9 fun t30 =>
  loadE 1 H t30 fun t31 =>
  idxPE 64 1 t7 t31 fun t32 =>
  z1e 1 H t32 (V (.bool true)) fun H2 =>
  z5s m n0 kc kx ⟨H2,[(0,t0),(5,t5),(7,t7),(13,t13),(14,t14),(15,t15)]⟩) (
  z5s m n0 kc kx ⟨H,[(0,t0),(5,t5),(7,t7),(13,t13),(14,t14),(15,t15)]⟩) := by
 refine (z04 _ _ _ _ _ _ _ _ _).trans ?_
 kernel_rfl
theorem zdX (m : Nat) (H : List AObj) (t10 t34 t35 : AV) (kc : ASt → RO) (kx : KO (AV × List AObj)) : zaY m ⟨H,[(10,t10),(34,t34),(35,t35)]⟩ kc kx =
 binE none false false .lss t35 (V (.int .i64 64)) fun t36 =>
 condE t36 (
  idxVE false (some (64,1)) t34 t35 fun t38 =>
  condE t38 (
   z1a (some (z6Y,1)) 1 [(0,t35)] fun t42 =>
   appE (some (z6Y,1)) H t10 t42 fun t43 H2 =>
   z84 m H.length kc kx ⟨H2,[(10,t43),(34,t34),(35,t35)]⟩) (
   z84 m H.length kc kx ⟨H,[(10,t10),(34,t34),(35,t35)]⟩)) (
  kx (.exit 2) ⟨H,[(10,t10)]⟩) := by
 refine (z2i _ _ _ _ _ _ _ _ _ _ _ _).trans ?_
 kernel_rfl
theorem zdR (m : Nat) (n0k : Nat) (H : List AObj) (t7 : AV) : z8m m n0k ⟨H,[(7,t7)]⟩ =
 loadE 66 H t7 fun t34 =>
 rowE (V (.slice none 0 0)) z6Y 1 H fun t10 H2 =>
 iterC m (zaY m) ⟨H2,[(10,t10),(34,t34),(35,(V (.int .i64 0)))]⟩ (z3K 2 (seqX (fun s=>zaV m n0k ⟨s.H,[(10,gt s.T 10)]⟩) (z47 n0k))) := by
 refine (z04 _ _ _ _ _ _ _ _ _).trans ?_
 kernel_rfl
theorem zdG (m : Nat) (H : List AObj) (t0 t5 t7 t13 t14 t15 : AV) (kc : ASt → RO) (kx : KO (AV × List AObj)) : zaU m ⟨H,[(0,t0),(5,t5),(7,t7),(13,t13),(14,t14),(15,t15)]⟩ kc kx =
 binE none false false .lss t15 t14 fun t16 =>
 condE t16 (
  idxSE 7 H t13 t15 fun t17 =>
  loadE 7 H t17 fun t18 =>
  z4P (some zc_api_Stmt) z01 H fun t9 H2 =>
  z1e 7 H2 t9 t18 fun H3 =>
  z02 (some (0,1)) t9 fun t19 =>
  loadE 1 H3 t19 fun t20 =>
  z02 (some (0,1)) t5 fun t21 =>
  z1e 1 H3 t21 t20 fun H4 =>
  loadE 7 H4 t9 fun t22 =>
  loadE 7 H4 t5 fun t23 =>
  binE (some [.i .i64, .i .i64, .i .i64, .i .i64, .i .i64]) false false .eql t22 t23 fun t24 =>
  condE t24 (
   loadE 7 H4 t9 fun t27 =>
   keepE (z7O m (ro H4 t0) (ro H4 t27) H4) fun t28 H5 =>
   z8q m H.length kc kx ⟨H5,[(0,t0),(5,t5),(7,t7),(9,t9),(13,t13),(14,t14),(15,t15),(29,t28)]⟩) (
   z8q m H.length kc kx ⟨H4,[(0,t0),(5,t5),(7,t7),(9,t9),(13,t13),(14,t14),(15,t15),(29,(V (.bool false)))]⟩)) (
  kx (.exit 0) ⟨H,[(7,t7)]⟩) := by
 refine (z2i _ _ _ _ _ _ _ _ _ _ _ _).trans ?_
 kernel_rfl
theorem zgk (m : Nat) (t0 t1 t2 : AV) (H : List AObj) : z8x m t0 t1 t2 H =
 boxE z01 H t2 fun t5 H2 =>
 z4P (some zgQ) zha H2 fun t7 H3 =>
 lenE false true H3 t1 fun t14 =>
 iterC m (zaU m) ⟨H3,[(0,t0),(5,t5),(7,t7),(13,t1),(14,t14),(15,(V (.int .i64 0)))]⟩ (z3K 0 (seqX (fun s=>z8m m H.length ⟨s.H,[(7,gt s.T 7)]⟩) (z47 H.length))) := by
 refine (keepX Try.prog GG (z0C m) m ⟨46,[]⟩ H.length z1g ring_Ring_Voices_h ⟨H,argsT 0 [t0,t1,t2]⟩ [.tmp 6]).trans ?_
 kernel_rfl
noncomputable def z95 (m : Nat) : List AV → List AObj → RO|[t0,t1,t2],H=>z8x m t0 t1 t2 H|_,_=>none
theorem zfx (m : Nat) : ∀ args H X H',z95 m args H = some (X,H') → AC Try.prog GG 66 args H (Is X H') := by
 intro args H X H' h
 unfold z95 at h
 split at h
 ·exact z2x MIX (by
  intro f e h
  simp only [z0C,Prod.mk.injEq,List.mem_cons,List.not_mem_nil,or_false] at h
  obtain ⟨rfl,rfl⟩ := h
  ·exact z8u m) (f := 66) (c := z1g) Try.func66 rfl (by kernel_rfl) _ rfl Try.ntmps66 (Nat.le_of_ble_eq_true rfl) ring_Ring_Voices_h h
 ·cases h
end Go.Proofs.Ytaaogcnjfkgnoaa

namespace Go.Proofs.Ytaaogcnjfkgnoaa
open Go.RowKit
def z0A : TypeId := 46
def zc_plenumref04_Ring : List AV := [(V (.int .i64 0)),(V (.slice none 0 0)),(V (.slice none 0 0))]
noncomputable def z4p : Code := (Try.f13.body).getD .skip
def plenumref04_Ring_Bad_h : Hint := (.two .n (.join [] (.two .n (.one (.lp [] [1,2,5] [4] (.two (.two .n (.two .n .n)) (.two (.one (.two .n (.two (.two .n .n) .n))) .n))))) (.two .n .n)))
noncomputable def z57 (m : Nat) : Env := []
noncomputable abbrev z4W : KO (AV × List AObj) := z3I Try.prog [.tmp 4]
noncomputable def z8A (m : Nat) (s : ASt) : RO := joinW Try.prog GG (z57 m) m ⟨20,[]⟩ (cdR (cdR z4p)) plenumref04_Ring_Bad_h.r.r s (z4W)
noncomputable def z8C (m : Nat) (s : ASt) (kc : ASt → RO) (kx : KO (AV × List AObj)) : RO := bodyW Try.prog GG (z57 m) m ⟨20,[]⟩ (cdL (cdL (cdR (cdL (cdR z4p))))) plenumref04_Ring_Bad_h.r.l.r.c.c [1,2,5] [4] s kc kx
noncomputable def z46 (m : Nat) (t0 t1 : AV) : RO := exec Try.prog GG (z57 m) m ⟨20,[]⟩ z4p plenumref04_Ring_Bad_h ⟨[],argsT 0 [t0,t1]⟩ (z4W)
theorem zbg (m : Nat) (H : List AObj) : z8A m ⟨H,[]⟩ =
 tellK H (ro H (V (.bool false))) := by
 refine (z04 _ _ _ _ _ _ _ _ _).trans ?_
 kernel_rfl
theorem zb1 (m : Nat) (H : List AObj) (t1 t2 t5 : AV) (kc : ASt → RO) (kx : KO (AV × List AObj)) : z8C m ⟨H,[(1,t1),(2,t2),(5,t5)]⟩ kc kx =
 z02 (some (1,1)) t2 fun t7 =>
 loadE 1 H t7 fun t8 =>
 lenE false true H t8 fun t9 =>
 binE none false false .lss t5 t9 fun t10 =>
 condE t10 (
  z02 (some (1,1)) t2 fun t13 =>
  loadE 1 H t13 fun t14 =>
  idxSE 1 H t14 t5 fun t16 =>
  loadE 1 H t16 fun t17 =>
  binE none false false .eql t17 t1 fun t19 =>
  condE t19 (
   kx .ret ⟨H,[(4,(V (.bool true)))]⟩) (
   binE none false false .add t5 (V (.int .i64 1)) fun t12 =>
   backE H.length H [(1,t1),(2,t2),(5,t12)] kc)) (
  kx (.exit 0) ⟨H,[(4, .nil)]⟩) := by
 refine (z2i _ _ _ _ _ _ _ _ _ _ _ _).trans ?_
 kernel_rfl
theorem zdd (m : Nat) (t0 t1 : AV) : z46 m t0 t1 =
 boxE z0A [] t0 fun t2 H1 =>
 iterC m (z8C m) ⟨H1,[(1,t1),(2,t2),(5,(V (.int .i64 0)))]⟩ (z3K 0 (seqX (fun s=>z8A m ⟨s.H,[]⟩) (z4W))) := by
 refine (tellX _ _ _ _ _ _ _ _ _).trans ?_
 kernel_rfl
noncomputable def z5H (m : Nat) : List AV → RO|[t0,t1]=>z46 m t0 t1|_=>none
theorem zde (m : Nat) : ∀ args X H',z5H m args = some (X,H') → ACp Try.prog GG 13 args X := by
 intro args X H' h
 unfold z5H at h
 split at h
 ·exact z0B MIX (by intro f e h;cases h) (f := 13) (c := z4p) Try.func13 rfl (by kernel_rfl) _ rfl Try.ntmps13 (Nat.le_of_ble_eq_true rfl) plenumref04_Ring_Bad_h h
 ·cases h
noncomputable def z4q : Code := (Try.f49.body).getD .skip
def plenumref04_Ring_Has_h : Hint := (.two .n (.join [] (.two .n (.one (.lp [] [2,3,5] [4] (.two (.two .n (.two .n .n)) (.two (.one (.two .n (.two (.two .n .n) .n))) .n))))) (.two .n .n)))
noncomputable def z50 (m : Nat) : Env := []
noncomputable abbrev z4X : KO (AV × List AObj) := z3I Try.prog [.tmp 4]
noncomputable def z8E (m : Nat) (s : ASt) : RO := joinW Try.prog GG (z50 m) m ⟨20,[]⟩ (cdR (cdR z4q)) plenumref04_Ring_Has_h.r.r s (z4X)
noncomputable def z8y (m : Nat) (s : ASt) (kc : ASt → RO) (kx : KO (AV × List AObj)) : RO := bodyW Try.prog GG (z50 m) m ⟨20,[]⟩ (cdL (cdL (cdR (cdL (cdR z4q))))) plenumref04_Ring_Has_h.r.l.r.c.c [2,3,5] [4] s kc kx
noncomputable def z2D (m : Nat) (t0 t1 : AV) : RO := exec Try.prog GG (z50 m) m ⟨20,[]⟩ z4q plenumref04_Ring_Has_h ⟨[],argsT 0 [t0,t1]⟩ (z4X)
theorem zbj (m : Nat) (H : List AObj) : z8E m ⟨H,[]⟩ =
 tellK H (ro H (V (.bool false))) := by
 refine (z04 _ _ _ _ _ _ _ _ _).trans ?_
 kernel_rfl
theorem zbk (m : Nat) (H : List AObj) (t2 t3 t5 : AV) (kc : ASt → RO) (kx : KO (AV × List AObj)) : z8y m ⟨H,[(2,t2),(3,t3),(5,t5)]⟩ kc kx =
 z02 (some (2,1)) t2 fun t7 =>
 loadE 1 H t7 fun t8 =>
 lenE false true H t8 fun t9 =>
 binE none false false .lss t5 t9 fun t10 =>
 condE t10 (
  z02 (some (2,1)) t2 fun t13 =>
  loadE 1 H t13 fun t14 =>
  idxSE 7 H t14 t5 fun t16 =>
  loadE 7 H t16 fun t17 =>
  loadE 7 H t3 fun t18 =>
  binE (some [.i .i64, .i .i64, .i .i64, .i .i64, .i .i64]) false false .eql t17 t18 fun t19 =>
  condE t19 (
   kx .ret ⟨H,[(4,(V (.bool true)))]⟩) (
   binE none false false .add t5 (V (.int .i64 1)) fun t12 =>
   backE H.length H [(2,t2),(3,t3),(5,t12)] kc)) (
  kx (.exit 0) ⟨H,[(4, .nil)]⟩) := by
 refine (z2i _ _ _ _ _ _ _ _ _ _ _ _).trans ?_
 kernel_rfl
theorem zdc (m : Nat) (t0 t1 : AV) : z2D m t0 t1 =
 boxE z0A [] t0 fun t2 H1 =>
 boxE z01 H1 t1 fun t3 H2 =>
 iterC m (z8y m) ⟨H2,[(2,t2),(3,t3),(5,(V (.int .i64 0)))]⟩ (z3K 0 (seqX (fun s=>z8E m ⟨s.H,[]⟩) (z4X))) := by
 refine (tellX _ _ _ _ _ _ _ _ _).trans ?_
 kernel_rfl
noncomputable def z2K (m : Nat) : List AV → RO|[t0,t1]=>z2D m t0 t1|_=>none
theorem z5n (m : Nat) : ∀ args X H',z2K m args = some (X,H') → ACp Try.prog GG 49 args X := by
 intro args X H' h
 unfold z2K at h
 split at h
 ·exact z0B MIX (by intro f e h;cases h) (f := 49) (c := z4q) Try.func49 rfl (by kernel_rfl) _ rfl Try.ntmps49 (Nat.le_of_ble_eq_true rfl) plenumref04_Ring_Has_h h
 ·cases h
noncomputable def z2k : Code := (Try.f31.body).getD .skip
def plenumref04_Ring_Say_h : Hint := (.two .n (.join [1,3,5,6] (.join [1,3,5,6,15] .n (.two (.two .n .n) .n)) (.join [3,5,6] (.join [3,5,6,33] .n (.two (.two .n .n) .n)) (.two (.two .n (.two (.two .n .n) .n)) (.two (.two .n (.two (.two .n .n) .n)) (.two .n (.two .n .n)))))))
noncomputable def z2a (m : Nat) : Env := [(13, .tell (z5H m)),(49, .tell (z2K m))]
noncomputable abbrev z2r : KO (AV × List AObj) := z3I Try.prog [.cell 6 46, .tmp 7]
noncomputable def z48 (m : Nat) (s : ASt) : RO := joinW Try.prog GG (z2a m) m ⟨53,[]⟩ (cdR (cdR (cdR z2k))) plenumref04_Ring_Say_h.r.r.r s (z2r)
noncomputable def z2z (m : Nat) (s : ASt) : RO := joinW Try.prog GG (z2a m) m ⟨53,[]⟩ (cdR (cdL (cdR (cdR z2k)))) plenumref04_Ring_Say_h.r.r.l.r s (seqX (fun s=>z48 m ⟨s.H,[(3,gt s.T 3),(5,gt s.T 5),(6,gt s.T 6)]⟩) (z2r))
noncomputable def z5q (m : Nat) (s : ASt) : RO := joinW Try.prog GG (z2a m) m ⟨53,[]⟩ (cdR (cdR z2k)) plenumref04_Ring_Say_h.r.r s (z2r)
noncomputable def z5k (m : Nat) (s : ASt) : RO := joinW Try.prog GG (z2a m) m ⟨53,[]⟩ (cdR (cdL (cdR z2k))) plenumref04_Ring_Say_h.r.l.r s (seqX (fun s=>z5q m ⟨s.H,[(1,gt s.T 1),(3,gt s.T 3),(5,gt s.T 5),(6,gt s.T 6)]⟩) (z2r))
noncomputable def z53 (m : Nat) (t0 t1 t2 : AV) : RO := exec Try.prog GG (z2a m) m ⟨53,[]⟩ z2k plenumref04_Ring_Say_h ⟨[],argsT 0 [t0,t1,t2]⟩ (z2r)
theorem zbs (m : Nat) (H : List AObj) (t3 t5 t6 : AV) : z48 m ⟨H,[(3,t3),(5,t5),(6,t6)]⟩ =
 loadE 5 H t3 fun t35 =>
 loadE 7 H t5 fun t36 =>
 tellE (z2D m (ro H t35) (ro H t36)) [(ro H t35),(ro H t36)] fun t37 =>
 condE t37 (
  loadE 5 H t3 fun t38 =>
  z1e 5 H t6 t38 fun H2 =>
  loadE 5 H2 t6 fun t9000 =>
  tellK H2 (ro H2 (TU [noT t9000,noT (V (.int .i64 0))]))) (
  z02 (some (2,1)) t3 fun t39 =>
  loadE 1 H t39 fun t40 =>
  lenE false true H t40 fun t41 =>
  binE none false false .geq t41 (V (.int .i64 65536)) fun t42 =>
  condE t42 (
   loadE 5 H t3 fun t43 =>
   z1e 5 H t6 t43 fun H2 =>
   loadE 5 H2 t6 fun t9000 =>
   tellK H2 (ro H2 (TU [noT t9000,noT (V (.int .i64 5))]))) (
   z1a (some (z01,5)) 0 [] fun t44 =>
   z02 (some (2,1)) t3 fun t45 =>
   loadE 1 H t45 fun t46 =>
   appE (some (z01,5)) H t44 t46 fun t47 H2 =>
   loadE 7 H2 t5 fun t48 =>
   loadE 7 H t5 fun t8022 =>
   eqE t48 t8022 (
   z1a (some (z01,5)) 1 [(0,t48)] fun t49 =>
   appE (some (z01,5)) H2 t47 t49 fun t50 H3 =>
   z02 (some (2,1)) t3 fun t51 =>
   z1e 1 H3 t51 t50 fun H4 =>
   loadE 5 H4 t3 fun t52 =>
   z1e 5 H4 t6 t52 fun H5 =>
   loadE 5 H5 t6 fun t9000 =>
   tellK H5 (ro H5 (TU [noT t9000,noT (V (.int .i64 0))]))))) := by
 refine (z04 _ _ _ _ _ _ _ _ _).trans ?_
 kernel_rfl
theorem zb8 (m : Nat) (H : List AObj) (t3 t5 t6 t33 : AV) : z2z m ⟨H,[(3,t3),(5,t5),(6,t6),(33,t33)]⟩ =
 condE t33 (
  loadE 5 H t3 fun t34 =>
  z1e 5 H t6 t34 fun H2 =>
  loadE 5 H2 t6 fun t9000 =>
  tellK H2 (ro H2 (TU [noT t9000,noT (V (.int .i64 19))]))) (
  z48 m ⟨H,[(3,t3),(5,t5),(6,t6)]⟩) := by
 refine (z04 _ _ _ _ _ _ _ _ _).trans ?_
 kernel_rfl
theorem z2J (m : Nat) (H : List AObj) (t1 t3 t5 t6 : AV) : z5q m ⟨H,[(1,t1),(3,t3),(5,t5),(6,t6)]⟩ =
 z02 (some (0,1)) t5 fun t17 =>
 loadE 1 H t17 fun t18 =>
 binE none false false .neq t18 t1 fun t20 =>
 condE t20 (
  loadE 5 H t3 fun t22 =>
  tellE (z46 m (ro H t22) (ro H t1)) [(ro H t22),(ro H t1)] fun t24 =>
  unE .not t24 fun t25 =>
  condE t25 (
  z2z m ⟨H,[(3,t3),(5,t5),(6,t6),(33,(V (.bool true)))]⟩) (
  loadE 5 H t3 fun t27 =>
  z02 (some (0,1)) t5 fun t28 =>
  loadE 1 H t28 fun t29 =>
  tellE (z46 m (ro H t27) (ro H t29)) [(ro H t27),(ro H t29)] fun t30 =>
  unE .not t30 fun t31 =>
  z2z m ⟨H,[(3,t3),(5,t5),(6,t6),(33,t31)]⟩)) (
  z2z m ⟨H,[(3,t3),(5,t5),(6,t6),(33,(V (.bool false)))]⟩) := by
 refine (z04 _ _ _ _ _ _ _ _ _).trans ?_
 kernel_rfl
theorem z1h (m : Nat) (H : List AObj) (t1 t3 t5 t6 t15 : AV) : z5k m ⟨H,[(1,t1),(3,t3),(5,t5),(6,t6),(15,t15)]⟩ =
 condE t15 (
  loadE 5 H t3 fun t16 =>
  z1e 5 H t6 t16 fun H2 =>
  loadE 5 H2 t6 fun t9000 =>
  tellK H2 (ro H2 (TU [noT t9000,noT (V (.int .i64 4))]))) (
  z5q m ⟨H,[(1,t1),(3,t3),(5,t5),(6,t6)]⟩) := by
 refine (z04 _ _ _ _ _ _ _ _ _).trans ?_
 kernel_rfl
theorem zdf (m : Nat) (t0 t1 t2 : AV) : z53 m t0 t1 t2 =
 boxE z0A [] t0 fun t3 H1 =>
 boxE z01 H1 t2 fun t5 H2 =>
 z4P (some zc_plenumref04_Ring) z0A H2 fun t6 H3 =>
 binE none false false .lss t1 (V (.int .i64 0)) fun t9 =>
 condE t9 (
  z5k m ⟨H3,[(1,t1),(3,t3),(5,t5),(6,t6),(15,(V (.bool true)))]⟩) (
  z02 (some (0,1)) t3 fun t12 =>
  loadE 1 H3 t12 fun t13 =>
  binE none false false .geq t1 t13 fun t14 =>
  z5k m ⟨H3,[(1,t1),(3,t3),(5,t5),(6,t6),(15,t14)]⟩) := by
 refine (tellX _ _ _ _ _ _ _ _ _).trans ?_
 kernel_rfl
noncomputable def z5S (m : Nat) : List AV → RO|[t0,t1,t2]=>z53 m t0 t1 t2|_=>none
theorem zdg (m : Nat) : ∀ args X H',z5S m args = some (X,H') → ACp Try.prog GG 31 args X := by
 intro args X H' h
 unfold z5S at h
 split at h
 ·exact z0B MIX (by
  intro f e h
  simp only [z2a,Prod.mk.injEq,List.mem_cons,List.not_mem_nil,or_false] at h
  rcases h with ⟨rfl,rfl⟩|⟨rfl,rfl⟩
  ·exact zde m
  ·exact z5n m) (f := 31) (c := z2k) Try.func31 rfl (by kernel_rfl) _ rfl Try.ntmps31 (Nat.le_of_ble_eq_true rfl) plenumref04_Ring_Say_h h
 ·cases h
noncomputable def z3R : Code := (Try.f45.body).getD .skip
def plenumref04_Ring_Voice_h : Hint := (.two .n (.two .n (.join [] (.two .n (.one (.lp [] [1,4,6,9] [8] (.two (.two .n (.two .n .n)) (.two (.one (.two .n (.two (.two .n .n) .n))) .n))))) (.two .n .n))))
noncomputable def z2G (m : Nat) : Env := [(49, .tell (z2K m))]
noncomputable abbrev z4s : KO (AV × List AObj) := z3I Try.prog [.tmp 8]
noncomputable def z7G (m : Nat) (s : ASt) : RO := joinW Try.prog GG (z2G m) m ⟨27,[]⟩ (cdR (cdR (cdR z3R))) plenumref04_Ring_Voice_h.r.r.r s (z4s)
noncomputable def z7A (m : Nat) (s : ASt) (kc : ASt → RO) (kx : KO (AV × List AObj)) : RO := bodyW Try.prog GG (z2G m) m ⟨27,[]⟩ (cdL (cdL (cdR (cdL (cdR (cdR z3R)))))) plenumref04_Ring_Voice_h.r.r.l.r.c.c [1,4,6,9] [8] s kc kx
noncomputable def z2O (m : Nat) (t0 t1 t2 t3 : AV) : RO := exec Try.prog GG (z2G m) m ⟨27,[]⟩ z3R plenumref04_Ring_Voice_h ⟨[],argsT 0 [t0,t1,t2,t3]⟩ (z4s)
theorem zap (m : Nat) (H : List AObj) : z7G m ⟨H,[]⟩ =
 tellK H (ro H (V (.bool false))) := by
 refine (z04 _ _ _ _ _ _ _ _ _).trans ?_
 kernel_rfl
theorem zad (m : Nat) (H : List AObj) (t1 t4 t6 t9 : AV) (kc : ASt → RO) (kx : KO (AV × List AObj)) : z7A m ⟨H,[(1,t1),(4,t4),(6,t6),(9,t9)]⟩ kc kx =
 lenE false true H t1 fun t14 =>
 binE none false false .lss t9 t14 fun t15 =>
 condE t15 (
  idxSE 7 H t1 t9 fun t20 =>
  loadE 7 H t20 fun t21 =>
  loadE 7 H t6 fun t22 =>
  binE (some [.i .i64, .i .i64, .i .i64, .i .i64, .i .i64]) false false .eql t21 t22 fun t23 =>
  condE t23 (
   loadE 5 H t4 fun t24 =>
   loadE 7 H t6 fun t25 =>
   tellE (z2D m (ro H t24) (ro H t25)) [(ro H t24),(ro H t25)] fun t26 =>
   kx .ret ⟨H,[(8,t26)]⟩) (
   binE none false false .add t9 (V (.int .i64 1)) fun t17 =>
   backE H.length H [(1,t1),(4,t4),(6,t6),(9,t17)] kc)) (
  kx (.exit 0) ⟨H,[(8, .nil)]⟩) := by
 refine (z2i _ _ _ _ _ _ _ _ _ _ _ _).trans ?_
 kernel_rfl
theorem zbT (m : Nat) (t0 t1 t2 t3 : AV) : z2O m t0 t1 t2 t3 =
 boxE z0A [] t0 fun t4 H1 =>
 boxE z01 H1 t2 fun t6 H2 =>
 z02 (some (0,1)) t6 fun t11 =>
 z1e 1 H2 t11 t3 fun H3 =>
 iterC m (z7A m) ⟨H3,[(1,t1),(4,t4),(6,t6),(9,(V (.int .i64 0)))]⟩ (z3K 0 (seqX (fun s=>z7G m ⟨s.H,[]⟩) (z4s))) := by
 refine (tellX _ _ _ _ _ _ _ _ _).trans ?_
 kernel_rfl
noncomputable def z3Q (m : Nat) : List AV → RO|[t0,t1,t2,t3]=>z2O m t0 t1 t2 t3|_=>none
theorem z7B (m : Nat) : ∀ args X H',z3Q m args = some (X,H') → ACp Try.prog GG 45 args X := by
 intro args X H' h
 unfold z3Q at h
 split at h
 ·exact z0B MIX (by
  intro f e h
  simp only [z2G,Prod.mk.injEq,List.mem_cons,List.not_mem_nil,or_false] at h
  obtain ⟨rfl,rfl⟩ := h
  ·exact z5n m) (f := 45) (c := z3R) Try.func45 rfl (by kernel_rfl) _ rfl Try.ntmps45 (Nat.le_of_ble_eq_true rfl) plenumref04_Ring_Voice_h h
 ·cases h
noncomputable def z7d : Code := (Try.f58.body).getD .skip
def plenumref02_Has_h : Hint := (.two .n (.join [] (.two .n (.one (.lp [] [0,1,5] [4] (.two (.two .n (.two .n .n)) (.two (.one (.two .n (.two (.two .n .n) .n))) .n))))) (.two .n .n)))
noncomputable def z8s (m : Nat) : Env := []
noncomputable abbrev z89 : KO (AV × List AObj) := z3I Try.prog [.tmp 4]
noncomputable def zbF (m : Nat) (s : ASt) : RO := joinW Try.prog GG (z8s m) m ⟨20,[]⟩ (cdR (cdR z7d)) plenumref02_Has_h.r.r s (z89)
noncomputable def zbC (m : Nat) (s : ASt) (kc : ASt → RO) (kx : KO (AV × List AObj)) : RO := bodyW Try.prog GG (z8s m) m ⟨20,[]⟩ (cdL (cdL (cdR (cdL (cdR z7d))))) plenumref02_Has_h.r.l.r.c.c [0,1,5] [4] s kc kx
noncomputable def z9g (m : Nat) (t0 t1 : AV) : RO := exec Try.prog GG (z8s m) m ⟨20,[]⟩ z7d plenumref02_Has_h ⟨[],argsT 0 [t0,t1]⟩ (z89)
theorem zeB (m : Nat) (H : List AObj) : zbF m ⟨H,[]⟩ =
 tellK H (ro H (V (.int .i64 0))) := by
 refine (z04 _ _ _ _ _ _ _ _ _).trans ?_
 kernel_rfl
theorem zew (m : Nat) (H : List AObj) (t0 t1 t5 : AV) (kc : ASt → RO) (kx : KO (AV × List AObj)) : zbC m ⟨H,[(0,t0),(1,t1),(5,t5)]⟩ kc kx =
 lenE false true H t0 fun t8 =>
 binE none false false .lss t5 t8 fun t9 =>
 condE t9 (
  idxSE 1 H t0 t5 fun t14 =>
  loadE 1 H t14 fun t15 =>
  binE none false false .eql t15 t1 fun t17 =>
  condE t17 (
   binE none false false .add t5 (V (.int .i64 1)) fun t19 =>
   kx .ret ⟨H,[(4,t19)]⟩) (
   binE none false false .add t5 (V (.int .i64 1)) fun t11 =>
   backE H.length H [(0,t0),(1,t1),(5,t11)] kc)) (
  kx (.exit 0) ⟨H,[(4, .nil)]⟩) := by
 refine (z2i _ _ _ _ _ _ _ _ _ _ _ _).trans ?_
 kernel_rfl
theorem zgE (m : Nat) (t0 t1 : AV) : z9g m t0 t1 =
 iterC m (zbC m) ⟨[],[(0,t0),(1,t1),(5,(V (.int .i64 0)))]⟩ (z3K 0 (seqX (fun s=>zbF m ⟨s.H,[]⟩) (z89))) := by
 refine (tellX _ _ _ _ _ _ _ _ _).trans ?_
 kernel_rfl
noncomputable def z9C (m : Nat) : List AV → RO|[t0,t1]=>z9g m t0 t1|_=>none
theorem zgC (m : Nat) : ∀ args X H',z9C m args = some (X,H') → ACp Try.prog GG 58 args X := by
 intro args X H' h
 unfold z9C at h
 split at h
 ·exact z0B MIX (by intro f e h;cases h) (f := 58) (c := z7d) Try.func58 rfl (by kernel_rfl) _ rfl Try.ntmps58 (Nat.le_of_ble_eq_true rfl) plenumref02_Has_h h
 ·cases h
noncomputable def zac : Code := (Try.f29.body).getD .skip
def zai : Hint := (.two .n (.two (.two .n (.two .n (.two (.two .n .n) .n))) (.two (.two .n (.two (.two .n .n) .n)) (.two .n (.two .n .n)))))
noncomputable def z8N (m : Nat) : Env := [(58, .tell (z9C m))]
noncomputable abbrev zgT (n0 : Nat) : KO (AV × List AObj) := orwFK Try.prog n0 [.tmp 4, .tmp 5, .tmp 6]
noncomputable def z8a (m : Nat) (t0 t1 : AV) (H : List AObj) : RO := exec Try.prog GG (z8N m) m ⟨26,[]⟩ zac zai ⟨H,argsT 0 [t0,t1]⟩ (zgT H.length)
theorem zhL (m : Nat) (t0 t1 : AV) (H : List AObj) : z8a m t0 t1 H =
 tellE (z9g m (ro H t0) (ro H t1)) [(ro H t0),(ro H t1)] fun t10 =>
 binE none false false .gtr t10 (V (.int .i64 0)) fun t12 =>
 condE t12 (
  openK H (TU [noT t0,noT t10,noT (V (.int .i64 0))])) (
  lenE false true H t0 fun t16 =>
  binE none false false .geq t16 (V (.int .i64 65536)) fun t17 =>
  condE t17 (
   openK H (TU [noT t0,noT (V (.int .i64 0)),noT (V (.int .i64 5))])) (
   z1a (some (z5A,1)) 1 [(0,t1)] fun t21 =>
   appE (some (z5A,1)) H t0 t21 fun t22 H2 =>
   lenE false true H2 t22 fun t25 =>
   openK H2 (TU [noT t22,noT t25,noT (V (.int .i64 0))]))) := by
 refine (orwX Try.prog GG (z8N m) m ⟨26,[]⟩ H.length zac zai ⟨H,argsT 0 [t0,t1]⟩ [.tmp 4, .tmp 5, .tmp 6]).trans ?_
 kernel_rfl
noncomputable def z7T (m : Nat) : List AV → List AObj → RO|[t0,t1],H=>z8a m t0 t1 H|_,_=>none
theorem zd2 (m : Nat) : ∀ args H X H',z7T m args H = some (X,H') → AC Try.prog GG 29 args H (Is X H') := by
 intro args H X H' h
 unfold z7T at h
 split at h
 ·exact zys (n := H.length) MIX (by
  intro f e h
  simp only [z8N,Prod.mk.injEq,List.mem_cons,List.not_mem_nil,or_false] at h
  obtain ⟨rfl,rfl⟩ := h
  ·exact zgC m) (f := 29) (c := zac) Try.func29 rfl (by kernel_rfl) _ rfl Try.ntmps29 (Nat.le_of_ble_eq_true rfl) zai h
 ·cases h
end Go.Proofs.Ytaaogcnjfkgnoaa

namespace Go.Proofs.Ytaaogcnjfkgnoaa
open Go.RowKit
def z44 : TypeId := 63
noncomputable def zaQ : Code := (Try.f94.body).getD .skip
def choose_at_1_h : Hint := (.two .n (.join [1,2,3,4,14] .n (.two .n .n)))
noncomputable def zbr (m : Nat) : Env := []
noncomputable abbrev zeN (n0 : Nat) : KO (AV × List AObj) := z77 Try.prog n0 []
noncomputable def zcd (m : Nat) (n0k : Nat) (s : ASt) : RO := joinW Try.prog GG (zbr m) m ⟨23,[]⟩ (cdR (cdR zaQ)) choose_at_1_h.r.r s (zeN n0k)
noncomputable def zh0 (m : Nat) (t0 t1 t2 t3 : AV) (H : List AObj) : RO := exec Try.prog GG (zbr m) m ⟨23,[]⟩ zaQ choose_at_1_h ⟨H,argsT 0 [t0,t1,t2,t3]⟩ (zeN H.length)
theorem z9I (m : Nat) (n0k : Nat) (H : List AObj) (t1 t2 t3 t4 t14 : AV) : zcd m n0k ⟨H,[(1,t1),(2,t2),(3,t3),(4,t4),(14,t14)]⟩ =
 condE t14 (
  z02 (some (1,1)) t4 fun t15 =>
  loadE 1 H t15 fun t16 =>
  loadE 1 H t1 fun t17 =>
  z02 (some (2,1)) t4 fun t18 =>
  loadE 1 H t18 fun t19 =>
  z02 (some (3,1)) t4 fun t20 =>
  loadE 1 H t20 fun t21 =>
  z49 (some zaO) (some zc_api_Choice) [(0,t17),(1,t19),(2,t21)] fun t22 =>
  z1e 1 H t2 t16 fun H2 =>
  loadE 1 H2 t20 fun t8020 =>
  eqE t21 t8020 (
  loadE 1 H2 t18 fun t8021 =>
  eqE t19 t8021 (
  loadE 1 H2 t1 fun t8022 =>
  eqE t17 t8022 (
  z1e 6 H2 t3 t22 fun H3 =>
  keepK n0k H3 (ro H3 (TU [])))))) (
  keepK n0k H (ro H (TU []))) := by
 refine (z04 _ _ _ _ _ _ _ _ _).trans ?_
 kernel_rfl
theorem zky (m : Nat) (t0 t1 t2 t3 : AV) (H : List AObj) : zh0 m t0 t1 t2 t3 H =
 boxE z0a H t0 fun t4 H2 =>
 z02 (some (0,1)) t4 fun t5 =>
 loadE 1 H2 t5 fun t6 =>
 loadE 1 H2 t1 fun t7 =>
 binE none false false .eql t6 t7 fun t8 =>
 condE t8 (
  z02 (some (1,1)) t4 fun t10 =>
  loadE 1 H2 t10 fun t11 =>
  loadE 1 H2 t2 fun t12 =>
  binE none false false .gtr t11 t12 fun t13 =>
  zcd m H.length ⟨H2,[(1,t1),(2,t2),(3,t3),(4,t4),(14,t13)]⟩) (
  zcd m H.length ⟨H2,[(1,t1),(2,t2),(3,t3),(4,t4),(14,(V (.bool false)))]⟩) := by
 refine (keepX Try.prog GG (zbr m) m ⟨23,[]⟩ H.length zaQ choose_at_1_h ⟨H,argsT 0 [t0,t1,t2,t3]⟩ []).trans ?_
 kernel_rfl
noncomputable def z9j (m : Nat) : List AV → List AObj → RO|[t0,t1,t2,t3],H=>zh0 m t0 t1 t2 t3 H|_,_=>none
theorem zkl (m : Nat) : ∀ args H X H',z9j m args H = some (X,H') → AC Try.prog GG 94 args H (Is X H') := by
 intro args H X H' h
 unfold z9j at h
 split at h
 ·exact z2x MIX (by intro f e h;cases h) (f := 94) (c := zaQ) Try.func94 rfl (by kernel_rfl) _ rfl Try.ntmps94 (Nat.le_of_ble_eq_true rfl) choose_at_1_h h
 ·cases h
noncomputable def zf9 : Code := (Try.f77.body).getD .skip
def zft : Hint := (.two .n (.two .n .n))
noncomputable def zgf (m : Nat) : Env := []
noncomputable abbrev zkK (n0 : Nat) : KO (AV × List AObj) := zmf Try.prog n0 [.tmp 2]
noncomputable def zfX (m : Nat) (t0 : AV) (H : List AObj) : RO := exec Try.prog GG (zgf m) m ⟨4,[]⟩ zf9 zft ⟨H,argsT 0 [t0]⟩ (zkK H.length)
theorem zhr (m : Nat) (t0 : AV) (H : List AObj) : zfX m t0 H =
 boxE z44 H t0 fun t1 H2 =>
 whenE (([t1] : List AV).all cap0) (
 openK H2 (ro H2 (CL (.func 93) 0 [t1]))) := by
 refine (openX Try.prog GG (zgf m) m ⟨4,[]⟩ H.length zf9 zft ⟨H,argsT 0 [t0]⟩ [.tmp 2]).trans ?_
 kernel_rfl
noncomputable def zcn (m : Nat) : List AV → List AObj → RO|[t0],H=>zfX m t0 H|_,_=>none
theorem zhA (m : Nat) : ∀ args H X H',zcn m args H = some (X,H') → AC Try.prog GG 77 args H (Is X H') := by
 intro args H X H' h
 unfold zcn at h
 split at h
 ·exact zmZ (n := H.length) MIX (by intro f e h;cases h) (f := 77) (c := zf9) Try.func77 rfl (by kernel_rfl) _ rfl Try.ntmps77 (Nat.le_of_ble_eq_true rfl) zft h
 ·cases h
end Go.Proofs.Ytaaogcnjfkgnoaa

namespace Go.Proofs.Ytaaogcnjfkgnoaa
open Go.RowKit
def z1m : List (Nat × Nat) := [(0,1),(1,1),(2,1),(3,1),(4,1)]
noncomputable def zdt : Code := (Try.f39.body).getD .skip
def zdJ : Hint := (.two .n (.two .n .n))
noncomputable def zbd (m : Nat) : Env := [(66, .keep (z95 m)),(65, .tell (zgr m)),(67, .tell (zcF m))]
noncomputable abbrev zjk (n0 : Nat) : KO (AV × List AObj) := z77 Try.prog n0 [.tmp 8]
noncomputable def za8 (m : Nat) (t0 t1 t2 t3 : AV) (H : List AObj) : RO := exec Try.prog GG (zbd m) m ⟨17,[]⟩ zdt zdJ ⟨H,argsT 0 [t0,t1,t2,t3]⟩ (zjk H.length)
theorem zkF (m : Nat) (t0 t1 t2 t3 : AV) (H : List AObj) : za8 m t0 t1 t2 t3 H =
 boxE z01 H t2 fun t6 H2 =>
 loadE 7 H2 t6 fun t11 =>
 keepE (z8x m (ro H2 t0) (ro H2 t1) (ro H2 t11) H2) fun t12 H3 =>
 tellE (zi4 m (ro H3 t12)) [(ro H3 t12)] fun t13 =>
 tellE (zdI m (ro H3 t3)) [(ro H3 t3)] fun t15 =>
 binE none false false .and t13 t15 fun t16 =>
 keepK H.length H3 (ro H3 t16) := by
 refine (keepX Try.prog GG (zbd m) m ⟨17,[]⟩ H.length zdt zdJ ⟨H,argsT 0 [t0,t1,t2,t3]⟩ [.tmp 8]).trans ?_
 kernel_rfl
noncomputable def zaI (m : Nat) : List AV → List AObj → RO|[t0,t1,t2,t3],H=>za8 m t0 t1 t2 t3 H|_,_=>none
theorem zfZ (m : Nat) : ∀ args H X H',zaI m args H = some (X,H') → AC Try.prog GG 39 args H (Is X H') := by
 intro args H X H' h
 unfold zaI at h
 split at h
 ·exact z2x MIX (by
  intro f e h
  simp only [zbd,Prod.mk.injEq,List.mem_cons,List.not_mem_nil,or_false] at h
  rcases h with ⟨rfl,rfl⟩|⟨rfl,rfl⟩|⟨rfl,rfl⟩
  ·exact zfx m
  ·exact zma m
  ·exact zhh m) (f := 39) (c := zdt) Try.func39 rfl (by kernel_rfl) _ rfl Try.ntmps39 (Nat.le_of_ble_eq_true rfl) zdJ h
 ·cases h
noncomputable def zbY : Code := (Try.f14.body).getD .skip
def view_Cert_h : Hint := (.two .n (.two .n (.two (.two .n (.two (.two .n .n) .n)) (.join [0,3,6,9] (.two .n (.join [0,3,6,9,38] .n (.two (.two .n .n) .n))) (.two .n (.two .n (.two .n (.two .n (.two .n (.two .n .n))))))))))
noncomputable def z9v (m : Nat) : Env := [(32, .tell (z4y m)),(28, .keep (z5i m)),(37, .tell (z8r m)),(39, .keep (zaI m)),(38, .tell (zcD m)),(40, .tell (zaq m)),(41, .tell (za1 m))]
noncomputable abbrev zdA (n0 : Nat) : KO (AV × List AObj) := z77 Try.prog n0 [.tmp 8]
noncomputable def zca (m : Nat) (n0k : Nat) (s : ASt) : RO := joinW Try.prog GG (z9v m) m ⟨75,[]⟩ (cdR (cdR (cdR (cdR zbY)))) view_Cert_h.r.r.r.r s (zdA n0k)
noncomputable def zff (m : Nat) (n0k : Nat) (s : ASt) : RO := joinW Try.prog GG (z9v m) m ⟨75,[]⟩ (cdR (cdR (cdL (cdR (cdR (cdR zbY)))))) view_Cert_h.r.r.r.l.r.r s (seqX (fun s=>zca m n0k ⟨s.H,[(0,gt s.T 0),(3,gt s.T 3),(6,gt s.T 6),(9,gt s.T 9)]⟩) (zdA n0k))
noncomputable def zic (m : Nat) (t0 t1 t2 t3 : AV) (H : List AObj) : RO := exec Try.prog GG (z9v m) m ⟨75,[]⟩ zbY view_Cert_h ⟨H,argsT 0 [t0,t1,t2,t3]⟩ (zdA H.length)
theorem zjm (m : Nat) (n0k : Nat) (H : List AObj) (t0 t3 t6 t9 : AV) : zca m n0k ⟨H,[(0,t0),(3,t3),(6,t6),(9,t9)]⟩ =
 z02 (some (1,1)) t6 fun t39 =>
 loadE 1 H t39 fun t40 =>
 tellE (z7W m (ro H t40) (ro H t3)) [(ro H t40),(ro H t3)] fun t42 =>
 z02 (some (1,1)) t6 fun t43 =>
 loadE 1 H t43 fun t44 =>
 z02 (some (0,1)) t6 fun t45 =>
 loadE 1 H t45 fun t46 =>
 z02 (some (2,1)) t6 fun t47 =>
 loadE 1 H t47 fun t48 =>
 z49 (some z1m) (some zc_api_Stmt) [(1,(V (.int .i64 2))),(2,t44),(3,t46),(4,t48)] fun t49 =>
 z4P (some zc_api_Stmt) z01 H fun t14 H2 =>
 z1e 7 H2 t14 t49 fun H3 =>
 z02 (some (4,1)) t6 fun t51 =>
 loadE 1 H3 t51 fun t52 =>
 loadE 7 H3 t14 fun t53 =>
 keepE (za8 m (ro H3 t0) (ro H3 t52) (ro H3 t53) (ro H3 t3) H3) fun t55 H4 =>
 tellE (zdV m (ro H4 t55) (ro H4 t42)) [(ro H4 t55),(ro H4 t42)] fun t57 =>
 z02 (some (1,1)) t14 fun t58 =>
 z1e 1 H4 t58 (V (.int .i64 3)) fun H5 =>
 z02 (some (4,1)) t6 fun t60 =>
 loadE 1 H5 t60 fun t61 =>
 loadE 7 H5 t14 fun t62 =>
 keepE (za8 m (ro H5 t0) (ro H5 t61) (ro H5 t62) (ro H5 t3) H5) fun t64 H6 =>
 tellE (za3 m (ro H6 t64) (ro H6 t42)) [(ro H6 t64),(ro H6 t42)] fun t66 =>
 condE t57 (
  tellE (zaj m (ro H6 t66)) [(ro H6 t66)] fun t70 =>
  binE none false false .mul (V (.int .i64 2)) t9 fun t72 =>
  binE none false false .geq t70 t72 fun t73 =>
  keepK n0k H6 (ro H6 t73)) (
  keepK n0k H6 (ro H6 (V (.bool false)))) := by
 refine (z04 _ _ _ _ _ _ _ _ _).trans ?_
 kernel_rfl
theorem zba (m : Nat) (n0k : Nat) (H : List AObj) (t0 t3 t6 t9 t38 : AV) : zff m n0k ⟨H,[(0,t0),(3,t3),(6,t6),(9,t9),(38,t38)]⟩ =
 condE t38 (
  keepK n0k H (ro H (V (.bool false)))) (
  zca m n0k ⟨H,[(0,t0),(3,t3),(6,t6),(9,t9)]⟩) := by
 refine (z04 _ _ _ _ _ _ _ _ _).trans ?_
 kernel_rfl
theorem zml (m : Nat) (t0 t1 t2 t3 : AV) (H : List AObj) : zic m t0 t1 t2 t3 H =
 boxE z0a H t2 fun t6 H2 =>
 tellE (z4R m (ro H2 t3)) [(ro H2 t3)] fun t19 =>
 extE t19 0 fun t20 =>
 extE t19 1 fun t21 =>
 binE none false false .neq t21 (V (.int .i64 0)) fun t23 =>
 condE t23 (
  keepK H.length H2 (ro H2 (V (.bool false)))) (
  z02 (some (3,1)) t6 fun t26 =>
  loadE 1 H2 t26 fun t27 =>
  keepE (z7L m (ro H2 t1) (ro H2 t27) H2) fun t28 H3 =>
  extE t28 0 fun t29 =>
  extE t28 1 fun t30 =>
  binE none false false .neq t30 (V (.int .i64 0)) fun t32 =>
  condE t32 (
   zff m H.length ⟨H3,[(0,t0),(3,t3),(6,t6),(9,t20),(38,(V (.bool true)))]⟩) (
   z02 (some (2,1)) t6 fun t35 =>
   loadE 1 H3 t35 fun t36 =>
   binE none false false .neq t29 t36 fun t37 =>
   zff m H.length ⟨H3,[(0,t0),(3,t3),(6,t6),(9,t20),(38,t37)]⟩)) := by
 refine (keepX Try.prog GG (z9v m) m ⟨75,[]⟩ H.length zbY view_Cert_h ⟨H,argsT 0 [t0,t1,t2,t3]⟩ [.tmp 8]).trans ?_
 kernel_rfl
noncomputable def zgM (m : Nat) : List AV → List AObj → RO|[t0,t1,t2,t3],H=>zic m t0 t1 t2 t3 H|_,_=>none
theorem zmv (m : Nat) : ∀ args H X H',zgM m args H = some (X,H') → AC Try.prog GG 14 args H (Is X H') := by
 intro args H X H' h
 unfold zgM at h
 split at h
 ·exact z2x MIX (by
  intro f e h
  simp only [z9v,Prod.mk.injEq,List.mem_cons,List.not_mem_nil,or_false] at h
  rcases h with ⟨rfl,rfl⟩|⟨rfl,rfl⟩|⟨rfl,rfl⟩|⟨rfl,rfl⟩|⟨rfl,rfl⟩|⟨rfl,rfl⟩|⟨rfl,rfl⟩
  ·exact z5W m
  ·exact z81 m
  ·exact zd9 m
  ·exact zfZ m
  ·exact zho m
  ·exact zhO m
  ·exact zeW m) (f := 14) (c := zbY) Try.func14 rfl (by kernel_rfl) _ rfl Try.ntmps14 (Nat.le_of_ble_eq_true rfl) view_Cert_h h
 ·cases h
noncomputable def zdy : Code := (Try.f34.body).getD .skip
def zdw : Hint := (.two .n (.two (.two .n (.two (.two .n .n) .n)) (.two .n (.two .n .n))))
noncomputable def zb6 (m : Nat) : Env := [(62, .tell (zem m)),(39, .keep (zaI m)),(63, .tell (z7f m))]
noncomputable abbrev zjp (n0 : Nat) : KO (AV × List AObj) := z77 Try.prog n0 [.tmp 6]
noncomputable def zeu (m : Nat) (t0 t1 t2 : AV) (H : List AObj) : RO := exec Try.prog GG (zb6 m) m ⟨38,[]⟩ zdy zdw ⟨H,argsT 0 [t0,t1,t2]⟩ (zjp H.length)
theorem zkc (m : Nat) (t0 t1 t2 : AV) (H : List AObj) : zeu m t0 t1 t2 H =
 boxE z00 H t1 fun t4 H2 =>
 z02 (some (2,1)) t4 fun t8 =>
 loadE 1 H2 t8 fun t9 =>
 binE none false false .eql t9 (V (.int .i64 0)) fun t10 =>
 condE t10 (
  z02 (some (3,1)) t4 fun t11 =>
  loadE 1 H2 t11 fun t12 =>
  binE none false false .eql t12 (V (.int .i64 0)) fun t13 =>
  condE t13 (
   z02 (some (4,1)) t4 fun t15 =>
   loadE 1 H2 t15 fun t16 =>
   lenE false true H2 t16 fun t17 =>
   binE none false false .eql t17 (V (.int .i64 0)) fun t18 =>
   keepK H.length H2 (ro H2 t18)) (
   keepK H.length H2 (ro H2 (V (.bool false))))) (
  z02 (some (2,1)) t4 fun t20 =>
  loadE 1 H2 t20 fun t21 =>
  z02 (some (3,1)) t4 fun t22 =>
  loadE 1 H2 t22 fun t23 =>
  z49 (some z1m) (some zc_api_Stmt) [(1,(V (.int .i64 5))),(3,t21),(4,t23)] fun t24 =>
  z4P (some zc_api_Stmt) z01 H2 fun t7 H3 =>
  z1e 7 H3 t7 t24 fun H4 =>
  z02 (some (2,1)) t4 fun t25 =>
  loadE 1 H4 t25 fun t26 =>
  tellE (zfT m (ro H4 t26)) [(ro H4 t26)] fun t27 =>
  condE t27 (
   z02 (some (4,1)) t4 fun t30 =>
   loadE 1 H4 t30 fun t31 =>
   loadE 7 H4 t7 fun t32 =>
   keepE (za8 m (ro H4 t0) (ro H4 t31) (ro H4 t32) (ro H4 t2) H4) fun t34 H5 =>
   tellE (z79 m (ro H5 t34) (ro H5 t2)) [(ro H5 t34),(ro H5 t2)] fun t36 =>
   keepK H.length H5 (ro H5 t36)) (
   keepK H.length H4 (ro H4 (V (.bool false))))) := by
 refine (keepX Try.prog GG (zb6 m) m ⟨38,[]⟩ H.length zdy zdw ⟨H,argsT 0 [t0,t1,t2]⟩ [.tmp 6]).trans ?_
 kernel_rfl
noncomputable def zdL (m : Nat) : List AV → List AObj → RO|[t0,t1,t2],H=>zeu m t0 t1 t2 H|_,_=>none
theorem zkp (m : Nat) : ∀ args H X H',zdL m args H = some (X,H') → AC Try.prog GG 34 args H (Is X H') := by
 intro args H X H' h
 unfold zdL at h
 split at h
 ·exact z2x MIX (by
  intro f e h
  simp only [zb6,Prod.mk.injEq,List.mem_cons,List.not_mem_nil,or_false] at h
  rcases h with ⟨rfl,rfl⟩|⟨rfl,rfl⟩|⟨rfl,rfl⟩
  ·exact ziA m
  ·exact zfZ m
  ·exact zbR m) (f := 34) (c := zdy) Try.func34 rfl (by kernel_rfl) _ rfl Try.ntmps34 (Nat.le_of_ble_eq_true rfl) zdw h
 ·cases h
noncomputable def z54 : Code := (Try.f35.body).getD .skip
def view_certs_h : Hint := (.two .n (.two .n (.join [] (.two .n (.one (.lp [] [0,1,3,6,9,15,16,17] [8] (.two .n (.two (.two .n .n) (.join [0,1,3,6,9,15,16,17] (.one (.two .n (.join [0,1,3,6,11,15,16,17] (.join [0,1,3,6,11,15,16,17,47] .n (.two (.two .n .n) .n)) .n))) .n)))))) (.two .n .n))))
noncomputable def z3N (m : Nat) : Env := [(14, .keep (zgM m))]
noncomputable abbrev zcl (n0 : Nat) : KO (AV × List AObj) := z77 Try.prog n0 [.tmp 8]
noncomputable def ze8 (m : Nat) (n0 : Nat) (kc : ASt → RO) (kx : KO (AV × List AObj)) (s : ASt) : RO := joinW Try.prog GG (z3N m) m ⟨51,[]⟩ (cdR (cdR (cdR (cdL (cdL (cdR (cdL (cdR (cdR z54))))))))) view_certs_h.r.r.l.r.c.c.r.r.r s (backW n0 [0,1,3,6,9,15,16,17] [8] kc kx)
noncomputable def zhk (m : Nat) (n0 : Nat) (kc : ASt → RO) (kx : KO (AV × List AObj)) (s : ASt) : RO := joinW Try.prog GG (z3N m) m ⟨51,[]⟩ (cdR (cdR (cdR (cdL (cdL (cdR (cdL (cdR (cdR z54))))))))) view_certs_h.r.r.l.r.c.c.r.r.r s (backW n0 [0,1,3,6,9,15,16,17] [8] kc kx)
noncomputable def zdB (m : Nat) (n0 : Nat) (kc : ASt → RO) (kx : KO (AV × List AObj)) (s : ASt) : RO := joinW Try.prog GG (z3N m) m ⟨51,[]⟩ (cdR (cdR (cdL (cdL (cdR (cdR (cdL (cdL (cdR (cdL (cdR (cdR z54)))))))))))) view_certs_h.r.r.l.r.c.c.r.r.l.c.r.r s (z3K 1 (seqX (fun s=>ze8 m n0 kc kx ⟨s.H,[(0,gt s.T 0),(1,gt s.T 1),(3,gt s.T 3),(6,gt s.T 6),(9,gt s.T 9),(15,gt s.T 15),(16,gt s.T 16),(17,gt s.T 17)]⟩) (backW n0 [0,1,3,6,9,15,16,17] [8] kc kx)))
noncomputable def z9p (m : Nat) (n0 : Nat) (kc : ASt → RO) (kx : KO (AV × List AObj)) (s : ASt) : RO := joinW Try.prog GG (z3N m) m ⟨51,[]⟩ (cdR (cdL (cdR (cdL (cdL (cdR (cdR (cdL (cdL (cdR (cdL (cdR (cdR z54))))))))))))) view_certs_h.r.r.l.r.c.c.r.r.l.c.r.l.r s (seqX (fun s=>zdB m n0 kc kx ⟨s.H,[(0,gt s.T 0),(1,gt s.T 1),(3,gt s.T 3),(6,gt s.T 6),(11,gt s.T 11),(15,gt s.T 15),(16,gt s.T 16),(17,gt s.T 17)]⟩) (z3K 1 (seqX (fun s=>zhk m n0 kc kx ⟨s.H,[(0,gt s.T 0),(1,gt s.T 1),(3,gt s.T 3),(6,gt s.T 6),(9,gt s.T 9),(15,gt s.T 15),(16,gt s.T 16),(17,gt s.T 17)]⟩) (backW n0 [0,1,3,6,9,15,16,17] [8] kc kx))))
noncomputable def zhn (m : Nat) (n0k : Nat) (s : ASt) : RO := joinW Try.prog GG (z3N m) m ⟨51,[]⟩ (cdR (cdR (cdR z54))) view_certs_h.r.r.r s (zcl n0k)
noncomputable def zhm (m : Nat) (s : ASt) (kc : ASt → RO) (kx : KO (AV × List AObj)) : RO := bodyW Try.prog GG (z3N m) m ⟨51,[]⟩ (cdL (cdL (cdR (cdL (cdR (cdR z54)))))) view_certs_h.r.r.l.r.c.c [0,1,3,6,9,15,16,17] [8] s kc kx
noncomputable def zgg (m : Nat) (t0 t1 t2 t3 : AV) (H : List AObj) : RO := exec Try.prog GG (z3N m) m ⟨51,[]⟩ z54 view_certs_h ⟨H,argsT 0 [t0,t1,t2,t3]⟩ (zcl H.length)
theorem z4E (m : Nat) (n0 : Nat) (kc : ASt → RO) (kx : KO (AV × List AObj)) (H : List AObj) (t0 t1 t3 t6 t9 t15 t16 t17 : AV) : ze8 m n0 kc kx ⟨H,[(0,t0),(1,t1),(3,t3),(6,t6),(9,t9),(15,t15),(16,t16),(17,t17)]⟩ =
 binE none false false .add t17 (V (.int .i64 1)) fun t50 =>
 backE n0 H [(0,t0),(1,t1),(3,t3),(6,t6),(9,t9),(15,t15),(16,t16),(17,t50)] kc := by
 refine (z04 _ _ _ _ _ _ _ _ _).trans ?_
 kernel_rfl
theorem z4K (m : Nat) (n0 : Nat) (kc : ASt → RO) (kx : KO (AV × List AObj)) (H : List AObj) (t0 t1 t3 t6 t9 t15 t16 t17 : AV) : zhk m n0 kc kx ⟨H,[(0,t0),(1,t1),(3,t3),(6,t6),(9,t9),(15,t15),(16,t16),(17,t17)]⟩ =
 binE none false false .add t17 (V (.int .i64 1)) fun t50 =>
 backE n0 H [(0,t0),(1,t1),(3,t3),(6,t6),(9,t9),(15,t15),(16,t16),(17,t50)] kc := by
 refine (z04 _ _ _ _ _ _ _ _ _).trans ?_
 kernel_rfl
theorem z4F (m : Nat) (n0 : Nat) (kc : ASt → RO) (kx : KO (AV × List AObj)) (H : List AObj) (t0 t1 t3 t6 t11 t15 t16 t17 : AV) : zdB m n0 kc kx ⟨H,[(0,t0),(1,t1),(3,t3),(6,t6),(11,t11),(15,t15),(16,t16),(17,t17)]⟩ =
 z02 (some (0,1)) t11 fun t48 =>
 loadE 1 H t48 fun t49 =>
 ze8 m n0 kc kx ⟨H,[(0,t0),(1,t1),(3,t3),(6,t6),(9,t49),(15,t15),(16,t16),(17,t17)]⟩ := by
 refine (z04 _ _ _ _ _ _ _ _ _).trans ?_
 kernel_rfl
theorem z4I (m : Nat) (n0 : Nat) (kc : ASt → RO) (kx : KO (AV × List AObj)) (H : List AObj) (t0 t1 t3 t6 t11 t15 t16 t17 t47 : AV) : z9p m n0 kc kx ⟨H,[(0,t0),(1,t1),(3,t3),(6,t6),(11,t11),(15,t15),(16,t16),(17,t17),(47,t47)]⟩ =
 condE t47 (
  kx .ret ⟨H,[(8,(V (.bool false)))]⟩) (
  zdB m n0 kc kx ⟨H,[(0,t0),(1,t1),(3,t3),(6,t6),(11,t11),(15,t15),(16,t16),(17,t17)]⟩) := by
 refine (z04 _ _ _ _ _ _ _ _ _).trans ?_
 kernel_rfl
theorem z4H (m : Nat) (n0k : Nat) (H : List AObj) : zhn m n0k ⟨H,[]⟩ =
 keepK n0k H (ro H (V (.bool true))) := by
 refine (z04 _ _ _ _ _ _ _ _ _).trans ?_
 kernel_rfl
theorem ziP (m : Nat) (H : List AObj) (t0 t1 t3 t6 t9 t15 t16 t17 : AV) (kc : ASt → RO) (kx : KO (AV × List AObj)) : zhm m ⟨H,[(0,t0),(1,t1),(3,t3),(6,t6),(9,t9),(15,t15),(16,t16),(17,t17)]⟩ kc kx =
 binE none false false .lss t17 t16 fun t18 =>
 condE t18 (
  idxSE 7 H t15 t17 fun t19 =>
  loadE 7 H t19 fun t20 =>
  z4P (some zc_api_Cert) z0a H fun t11 H2 =>
  z1e 7 H2 t11 t20 fun H3 =>
  z02 (some (0,1)) t11 fun t21 =>
  loadE 1 H3 t21 fun t22 =>
  binE none false false .leq t22 t9 fun t24 =>
  condE t24 (
   z9p m H.length kc kx ⟨H3,[(0,t0),(1,t1),(3,t3),(6,t6),(11,t11),(15,t15),(16,t16),(17,t17),(47,(V (.bool true)))]⟩) (
   z02 (some (0,1)) t11 fun t26 =>
   loadE 1 H3 t26 fun t27 =>
   z02 (some (2,1)) t6 fun t28 =>
   loadE 1 H3 t28 fun t29 =>
   binE none false false .sub t27 t29 fun t30 =>
   binE none false false .gtr t30 (V (.int .i64 16)) fun t31 =>
   condE t31 (
   z9p m H.length kc kx ⟨H3,[(0,t0),(1,t1),(3,t3),(6,t6),(11,t11),(15,t15),(16,t16),(17,t17),(47,(V (.bool true)))]⟩) (
   z02 (some (1,1)) t11 fun t34 =>
   loadE 1 H3 t34 fun t35 =>
   z02 (some (1,1)) t6 fun t36 =>
   loadE 1 H3 t36 fun t37 =>
   binE none false false .geq t35 t37 fun t38 =>
   condE t38 (
   z9p m H.length kc kx ⟨H3,[(0,t0),(1,t1),(3,t3),(6,t6),(11,t11),(15,t15),(16,t16),(17,t17),(47,(V (.bool true)))]⟩) (
   loadE 7 H3 t11 fun t43 =>
   keepE (zic m (ro H3 t0) (ro H3 t1) (ro H3 t43) (ro H3 t3) H3) fun t45 H4 =>
   unE .not t45 fun t46 =>
   z9p m H.length kc kx ⟨H4,[(0,t0),(1,t1),(3,t3),(6,t6),(11,t11),(15,t15),(16,t16),(17,t17),(47,t46)]⟩)))) (
  kx (.exit 0) ⟨H,[(8, .nil)]⟩) := by
 refine (z2i _ _ _ _ _ _ _ _ _ _ _ _).trans ?_
 kernel_rfl
theorem zlN (m : Nat) (t0 t1 t2 t3 : AV) (H : List AObj) : zgg m t0 t1 t2 t3 H =
 boxE z00 H t2 fun t6 H2 =>
 z02 (some (2,1)) t6 fun t12 =>
 loadE 1 H2 t12 fun t13 =>
 z02 (some (5,1)) t6 fun t14 =>
 loadE 1 H2 t14 fun t15 =>
 lenE false true H2 t15 fun t16 =>
 iterC m (zhm m) ⟨H2,[(0,t0),(1,t1),(3,t3),(6,t6),(9,t13),(15,t15),(16,t16),(17,(V (.int .i64 0)))]⟩ (z3K 0 (seqX (fun s=>zhn m H.length ⟨s.H,[]⟩) (zcl H.length))) := by
 refine (keepX Try.prog GG (z3N m) m ⟨51,[]⟩ H.length z54 view_certs_h ⟨H,argsT 0 [t0,t1,t2,t3]⟩ [.tmp 8]).trans ?_
 kernel_rfl
noncomputable def zfb (m : Nat) : List AV → List AObj → RO|[t0,t1,t2,t3],H=>zgg m t0 t1 t2 t3 H|_,_=>none
theorem zlr (m : Nat) : ∀ args H X H',zfb m args H = some (X,H') → AC Try.prog GG 35 args H (Is X H') := by
 intro args H X H' h
 unfold zfb at h
 split at h
 ·exact z2x MIX (by
  intro f e h
  simp only [z3N,Prod.mk.injEq,List.mem_cons,List.not_mem_nil,or_false] at h
  obtain ⟨rfl,rfl⟩ := h
  ·exact zmv m) (f := 35) (c := z54) Try.func35 rfl (by kernel_rfl) _ rfl Try.ntmps35 (Nat.le_of_ble_eq_true rfl) view_certs_h h
 ·cases h
noncomputable def z9x : Code := (Try.f12.body).getD .skip
def z9w : Hint := (.two .n (.two .n (.two (.two .n (.two (.two .n .n) .n)) (.two .n (.two (.two .n (.two (.two .n .n) .n)) (.two .n .n))))))
noncomputable def z8v (m : Nat) : Env := [(33, .tell (z4o m)),(28, .keep (z5i m))]
noncomputable abbrev zfL (n0 : Nat) : KO (AV × List AObj) := z77 Try.prog n0 [.cell 4 41, .tmp 5]
noncomputable def z3T (m : Nat) (t0 t1 : AV) (H : List AObj) : RO := exec Try.prog GG (z8v m) m ⟨34,[]⟩ z9x z9w ⟨H,argsT 0 [t0,t1]⟩ (zfL H.length)
theorem zgL (m : Nat) (t0 t1 : AV) (H : List AObj) : z3T m t0 t1 H =
 boxE z00 H t1 fun t3 H2 =>
 z4P (some zc_api_Stmt) z01 H2 fun t4 H3 =>
 loadE 8 H3 t3 fun t9 =>
 tellE (z5f m (ro H3 t9)) [(ro H3 t9)] fun t10 =>
 lenE false true H3 t10 fun t12 =>
 binE none false false .eql t12 (V (.int .i64 0)) fun t13 =>
 condE t13 (
  z49 (some z1m) (some zc_api_Stmt) [] fun t14 =>
  z1e 7 H3 t4 t14 fun H4 =>
  loadE 7 H4 t4 fun t9000 =>
  keepK H.length H4 (ro H4 (TU [noT t9000,noT (V (.int .i64 1))]))) (
  convE false none true true false (ro H3 t10) fun t18 =>
  keepE (z7L m (ro H3 t0) (ro H3 t18) H3) fun t19 H4 =>
  extE t19 0 fun t20 =>
  extE t19 1 fun t21 =>
  binE none false false .neq t21 (V (.int .i64 0)) fun t23 =>
  condE t23 (
   z49 (some z1m) (some zc_api_Stmt) [] fun t24 =>
   z1e 7 H4 t4 t24 fun H5 =>
   loadE 7 H5 t4 fun t9000 =>
   keepK H.length H5 (ro H5 (TU [noT t9000,noT t21]))) (
   z02 (some (0,1)) t3 fun t26 =>
   loadE 1 H4 t26 fun t27 =>
   z02 (some (1,1)) t3 fun t28 =>
   loadE 1 H4 t28 fun t29 =>
   z02 (some (2,1)) t3 fun t30 =>
   loadE 1 H4 t30 fun t31 =>
   z49 (some z1m) (some zc_api_Stmt) [(0,t27),(1,(V (.int .i64 6))),(2,t29),(3,t31),(4,t20)] fun t33 =>
   z1e 7 H4 t4 t33 fun H5 =>
   loadE 7 H5 t4 fun t9000 =>
   keepK H.length H5 (ro H5 (TU [noT t9000,noT (V (.int .i64 0))])))) := by
 refine (keepX Try.prog GG (z8v m) m ⟨34,[]⟩ H.length z9x z9w ⟨H,argsT 0 [t0,t1]⟩ [.cell 4 41, .tmp 5]).trans ?_
 kernel_rfl
noncomputable def z5b (m : Nat) : List AV → List AObj → RO|[t0,t1],H=>z3T m t0 t1 H|_,_=>none
theorem z8M (m : Nat) : ∀ args H X H',z5b m args H = some (X,H') → AC Try.prog GG 12 args H (Is X H') := by
 intro args H X H' h
 unfold z5b at h
 split at h
 ·exact z2x MIX (by
  intro f e h
  simp only [z8v,Prod.mk.injEq,List.mem_cons,List.not_mem_nil,or_false] at h
  rcases h with ⟨rfl,rfl⟩|⟨rfl,rfl⟩
  ·exact z7u m
  ·exact z81 m) (f := 12) (c := z9x) Try.func12 rfl (by kernel_rfl) _ rfl Try.ntmps12 (Nat.le_of_ble_eq_true rfl) z9w h
 ·cases h
noncomputable def z5P : Code := (Try.f11.body).getD .skip
def view_Change_h : Hint := (.two .n (.join [0,1,3,6] (.two .n (.join [0,1,3,6,25] .n (.two (.two .n .n) .n))) (.join [0,1,6] (.join [0,1,6,49] .n (.two (.two .n .n) .n)) (.two .n (.two .n .n)))))
noncomputable def z4x (m : Nat) : Env := [(32, .tell (z4y m)),(33, .tell (z4o m)),(34, .keep (zdL m)),(35, .keep (zfb m)),(12, .keep (z5b m)),(36, .keep (z5j m))]
noncomputable abbrev z74 (n0 : Nat) : KO (AV × List AObj) := z77 Try.prog n0 [.tmp 8]
noncomputable def za4 (m : Nat) (n0k : Nat) (s : ASt) : RO := joinW Try.prog GG (z4x m) m ⟨63,[]⟩ (cdR (cdR (cdR z5P))) view_Change_h.r.r.r s (z74 n0k)
noncomputable def z8k (m : Nat) (n0k : Nat) (s : ASt) : RO := joinW Try.prog GG (z4x m) m ⟨63,[]⟩ (cdR (cdL (cdR (cdR z5P)))) view_Change_h.r.r.l.r s (seqX (fun s=>za4 m n0k ⟨s.H,[(0,gt s.T 0),(1,gt s.T 1),(6,gt s.T 6)]⟩) (z74 n0k))
noncomputable def zcB (m : Nat) (n0k : Nat) (s : ASt) : RO := joinW Try.prog GG (z4x m) m ⟨63,[]⟩ (cdR (cdR z5P)) view_Change_h.r.r s (z74 n0k)
noncomputable def zcE (m : Nat) (n0k : Nat) (s : ASt) : RO := joinW Try.prog GG (z4x m) m ⟨63,[]⟩ (cdR (cdR (cdL (cdR z5P)))) view_Change_h.r.l.r.r s (seqX (fun s=>zcB m n0k ⟨s.H,[(0,gt s.T 0),(1,gt s.T 1),(3,gt s.T 3),(6,gt s.T 6)]⟩) (z74 n0k))
noncomputable def z6j (m : Nat) (t0 t1 t2 t3 : AV) (H : List AObj) : RO := exec Try.prog GG (z4x m) m ⟨63,[]⟩ z5P view_Change_h ⟨H,argsT 0 [t0,t1,t2,t3]⟩ (z74 H.length)
theorem zhG (m : Nat) (n0k : Nat) (H : List AObj) (t0 t1 t6 : AV) : za4 m n0k ⟨H,[(0,t0),(1,t1),(6,t6)]⟩ =
 loadE 8 H t6 fun t52 =>
 keepE (z3T m (ro H t1) (ro H t52) H) fun t53 H2 =>
 extE t53 0 fun t54 =>
 extE t53 1 fun t55 =>
 z4P (some zc_api_Stmt) z01 H2 fun t11 H3 =>
 z1e 7 H3 t11 t54 fun H4 =>
 binE none false false .eql t55 (V (.int .i64 0)) fun t57 =>
 condE t57 (
  loadE 7 H4 t11 fun t60 =>
  keepE (z7O m (ro H4 t0) (ro H4 t60) H4) fun t61 H5 =>
  keepK n0k H5 (ro H5 t61)) (
  keepK n0k H4 (ro H4 (V (.bool false)))) := by
 refine (z04 _ _ _ _ _ _ _ _ _).trans ?_
 kernel_rfl
theorem z5a (m : Nat) (n0k : Nat) (H : List AObj) (t0 t1 t6 t49 : AV) : z8k m n0k ⟨H,[(0,t0),(1,t1),(6,t6),(49,t49)]⟩ =
 condE t49 (
  keepK n0k H (ro H (V (.bool false)))) (
  za4 m n0k ⟨H,[(0,t0),(1,t1),(6,t6)]⟩) := by
 refine (z04 _ _ _ _ _ _ _ _ _).trans ?_
 kernel_rfl
theorem z5h (m : Nat) (n0k : Nat) (H : List AObj) (t0 t1 t3 t6 : AV) : zcB m n0k ⟨H,[(0,t0),(1,t1),(3,t3),(6,t6)]⟩ =
 z02 (some (0,1)) t6 fun t26 =>
 loadE 1 H t26 fun t27 =>
 binE none false false .geq t27 t3 fun t29 =>
 condE t29 (
  z8k m n0k ⟨H,[(0,t0),(1,t1),(6,t6),(49,(V (.bool true)))]⟩) (
  z02 (some (1,1)) t6 fun t31 =>
  loadE 1 H t31 fun t32 =>
  binE none false false .lss t32 (V (.int .i64 1)) fun t33 =>
  condE t33 (
  z8k m n0k ⟨H,[(0,t0),(1,t1),(6,t6),(49,(V (.bool true)))]⟩) (
  loadE 8 H t6 fun t37 =>
  keepE (zeu m (ro H t0) (ro H t37) (ro H t3) H) fun t39 H2 =>
  unE .not t39 fun t40 =>
  condE t40 (
  z8k m n0k ⟨H2,[(0,t0),(1,t1),(6,t6),(49,(V (.bool true)))]⟩) (
  loadE 8 H2 t6 fun t45 =>
  keepE (zgg m (ro H2 t0) (ro H2 t1) (ro H2 t45) (ro H2 t3) H2) fun t47 H3 =>
  unE .not t47 fun t48 =>
  z8k m n0k ⟨H3,[(0,t0),(1,t1),(6,t6),(49,t48)]⟩))) := by
 refine (z04 _ _ _ _ _ _ _ _ _).trans ?_
 kernel_rfl
theorem z3H (m : Nat) (n0k : Nat) (H : List AObj) (t0 t1 t3 t6 t25 : AV) : zcE m n0k ⟨H,[(0,t0),(1,t1),(3,t3),(6,t6),(25,t25)]⟩ =
 condE t25 (
  keepK n0k H (ro H (V (.bool false)))) (
  zcB m n0k ⟨H,[(0,t0),(1,t1),(3,t3),(6,t6)]⟩) := by
 refine (z04 _ _ _ _ _ _ _ _ _).trans ?_
 kernel_rfl
theorem zka (m : Nat) (t0 t1 t2 t3 : AV) (H : List AObj) : z6j m t0 t1 t2 t3 H =
 boxE z00 H t2 fun t6 H2 =>
 tellE (z4R m (ro H2 t3)) [(ro H2 t3)] fun t15 =>
 extE t15 0 fun t16 =>
 extE t15 1 fun t17 =>
 binE none false false .neq t17 (V (.int .i64 0)) fun t19 =>
 condE t19 (
  zcE m H.length ⟨H2,[(0,t0),(1,t1),(3,t3),(6,t6),(25,(V (.bool true)))]⟩) (
  loadE 8 H2 t6 fun t21 =>
  tellE (z5f m (ro H2 t21)) [(ro H2 t21)] fun t22 =>
  lenE false true H2 t22 fun t23 =>
  binE none false false .eql t23 (V (.int .i64 0)) fun t24 =>
  zcE m H.length ⟨H2,[(0,t0),(1,t1),(3,t3),(6,t6),(25,t24)]⟩) := by
 refine (keepX Try.prog GG (z4x m) m ⟨63,[]⟩ H.length z5P view_Change_h ⟨H,argsT 0 [t0,t1,t2,t3]⟩ [.tmp 8]).trans ?_
 kernel_rfl
noncomputable def z9r (m : Nat) : List AV → List AObj → RO|[t0,t1,t2,t3],H=>z6j m t0 t1 t2 t3 H|_,_=>none
theorem zcr (m : Nat) : ∀ args H X H',z9r m args H = some (X,H') → AC Try.prog GG 11 args H (Is X H') := by
 intro args H X H' h
 unfold z9r at h
 split at h
 ·exact z2x MIX (by
  intro f e h
  simp only [z4x,Prod.mk.injEq,List.mem_cons,List.not_mem_nil,or_false] at h
  rcases h with ⟨rfl,rfl⟩|⟨rfl,rfl⟩|⟨rfl,rfl⟩|⟨rfl,rfl⟩|⟨rfl,rfl⟩|⟨rfl,rfl⟩
  ·exact z5W m
  ·exact z7u m
  ·exact zkp m
  ·exact zlr m
  ·exact z8M m
  ·exact z8u m) (f := 11) (c := z5P) Try.func11 rfl (by kernel_rfl) _ rfl Try.ntmps11 (Nat.le_of_ble_eq_true rfl) view_Change_h h
 ·cases h
noncomputable def zgh : Code := (Try.f22.body).getD .skip
def zgn : Hint := (.two .n (.two .n (.join [0,3,4,6] (.two .n (.one (.lp [] [0,3,4,6,13,14,15] [0,3,4,5,6] (.two .n (.two (.two .n .n) (.two (.one (.two .n (.two .n (.two (.two .n (.two (.two .n .n) .n)) .n)))) .n)))))) (.two .n (.two (.two .n (.two (.two .n .n) .n)) (.two .n .n))))))
noncomputable def zdr (m : Nat) : Env := [(33, .tell (z4o m)),(28, .keep (z5i m))]
noncomputable abbrev ziu (n0 : Nat) : KO (AV × List AObj) := z77 Try.prog n0 [.cell 4 41, .tmp 5]
noncomputable def zm0 (m : Nat) (t0 t1 : AV) (H : List AObj) : RO := exec Try.prog GG (zdr m) m ⟨46,[]⟩ zgh zgn ⟨H,argsT 0 [t0,t1]⟩ (ziu H.length)
noncomputable def zcC (m : Nat) : List AV → List AObj → RO|[t0,t1],H=>zm0 m t0 t1 H|_,_=>none
theorem zji (m : Nat) : ∀ args H X H',zcC m args H = some (X,H') → AC Try.prog GG 22 args H (Is X H') := by
 intro args H X H' h
 unfold zcC at h
 split at h
 ·exact z2x MIX (by
  intro f e h
  simp only [zdr,Prod.mk.injEq,List.mem_cons,List.not_mem_nil,or_false] at h
  rcases h with ⟨rfl,rfl⟩|⟨rfl,rfl⟩
  ·exact z7u m
  ·exact z81 m) (f := 22) (c := zgh) Try.func22 rfl (by kernel_rfl) _ rfl Try.ntmps22 (Nat.le_of_ble_eq_true rfl) zgn h
 ·cases h
end Go.Proofs.Ytaaogcnjfkgnoaa

