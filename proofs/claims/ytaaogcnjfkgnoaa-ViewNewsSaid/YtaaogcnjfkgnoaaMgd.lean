/-
  Texts laid together, part 4 of 8: laws of a walk over data, contracts of functions, each whole by itself.
-/
import Derived.Test.YtaaogcnjfkgnoaaMgc
set_option maxRecDepth 100000
noncomputable section
set_option linter.unusedVariables false
set_option linter.unusedSimpArgs false
namespace Go.Proofs.Ytaaogcnjfkgnoaa
open Go.RowKit
section
variable {P : Program} {G : Gl} {n d : Nat} {w w' w0 : World} {S S' S0 : SS} {μ μ' μ0 : List Value} {H H' H0 : List AObj}
def zIk (l : Nat) (r : Loop) (w : World) (S : SS) (μ : List Value) (H : List AObj) (Q : Exit → List AObj → Prop) (w' : World) : Prop :=
 ∃ w2 S' μ' H' x,Q x H' ∧ Rel w2 S' μ' H' ∧ Step H.length w S μ H w2 S' μ' H' ∧ w2.heap[l]? = some (.loop r) ∧ ((x = .normal ∧ w' = w2) ∨ (∃ c,zw3 x = some c ∧ w' = w2.putObj l (.loop { r with state := .done,pending := some c })))
def zJF (N : Nat) (T : Tm) (w : World) (S : SS) (μ : List Value) (H : List AObj) (Q : Exit → List AObj → Prop) (e : Exit) (a' : Act) (w' : World) : Prop :=
 ∃ S' μ' H',Q e H' ∧ Rel w' S' μ' H' ∧ Step H.length w S μ H w' S' μ' H' ∧ Fr S' μ' ⟨N,[⟨.collected w.heap.size,#[]⟩]⟩ T a' ∧ w'.heap[w.heap.size]? = some (.deferred (some [])) ∧ w.heap.size < w'.heap.size
theorem zzt {x : AV} {v : Value} (h : rep0 S μ x v) : rep S μ x v := by
 match x,h with
 |.nil,_=>trivial
 |.held (.inl u),h=>exact h
 |.held (.inr (.inl (i,o))),h=>exact h
 |.ptr d,h=>exact h
theorem range_law {g : Operand} {ps : List Nat} {assign body : Code} {a : Act} {N : Nat} {T : Tm} {f : FuncId} {caps : List AV} {q2 : Nat} {Q : Exit → List AObj → Prop}
    (hr : Rel w S μ H) (hf : Fr S μ (F0 N) T a) (hg : GOk G S) (hgv : ev G T g = .slice caps [.held (.inl (.func (.func f) #[] #[])), .held (.inr (.inl (0, q2)))]) (hc : zey    P f = true)
    (hit : ∀ (l D fn : Nat) (w1 : World) (us : List Value), Rel w1 S μ H → w1.heap[l]? = some (.loop ⟨.ready, none, fn, a.tmps, ps.toArray, assign, body, D⟩) → us.length = caps.length → (∀ (j : Nat) (x : AV) (u : Value), caps[j]? = some x → us[j]? = some u → rep S μ x u) →
      CallsIn Fence.wide d P f (.func (.yield l) #[] #[] :: us).toArray w1 fun e w' => ∃ v, e = .returned v ∧ zIk   l ⟨.ready, none, fn, a.tmps, ps.toArray, assign, body, D⟩ w1 S μ H Q w') :
    (Code.rangeFunc g ps.toArray assign body).wpIn Fence.wide (d + 1) P (zJF   N T w S μ H Q) a w := by
  have hnl : ∀ r cs t p, (Obj.loop r) ≠ .cells cs t p := fun _ _ _ _ e => by cases e
  have hnd : ∀ r cs t p, (Obj.deferred r) ≠ .cells cs t p := fun _ _ _ _ e => by cases e
  have hro : Fence.wide.round = none := rfl
  have hv := hf.ev hg g
  rw [hgv] at hv
  obtain ⟨us, hu, hul, hur⟩ := hv
  have hu : a.eval g = .func (.func f) #[] us.toArray := by rw [hu]; simp
  refine wpIn_rangeFunc ?_
  intro fn hfn
  rw [hro]
  obtain ⟨wa, hwa⟩ : ∃ wa, w.alloc (.deferred (some [])) = wa := ⟨_, rfl⟩
  have hsa : wa.heap.size = w.heap.size + 1 := by rw [← hwa]; simp
  obtain ⟨r, hrr⟩ : ∃ r : Loop, (⟨.ready, none, fn, a.tmps, ps.toArray, assign, body, w.heap.size⟩ : Loop) = r := ⟨_, rfl⟩
  obtain ⟨w1, hw1⟩ : ∃ w1, wa.alloc (.loop r) = w1 := ⟨_, rfl⟩
  have hs1 : w1.heap.size = w.heap.size + 2 := by rw [← hw1]; simp [hsa]
  have hra : Rel wa S μ H := by rw [← hwa]; exact hr.touch _ (ztR      w) (zcq         w _)
  have hr1 : Rel w1 S μ H := by rw [← hw1]; exact hra.touch _ (ztR      wa) (zcq         wa _)
  have hst1 : Step H.length w S μ H w1 S μ H := by
    have h1 : Step H.length w S μ H wa S μ H := by rw [← hwa]; exact (Step.refl _ w S μ H).touch (Nat.le_refl _) rfl rfl rfl (by simp) (zcq         w _)
    rw [← hw1]
    exact h1.touch (l := wa.heap.size) (by omega) rfl rfl rfl (by simp) (zcq         wa _)
  have hl1 : w1.heap[w.heap.size + 1]? = some (.loop r) := by rw [← hw1, ← hsa]; exact World.alloc_heap_new wa _
  have hD1 : w1.heap[w.heap.size]? = some (.deferred (some [])) := by
    rw [← hw1, zcq         wa _ _ (by omega) (by omega), ← hwa]
    exact World.alloc_heap_new w _
  have hcall := hit (w.heap.size + 1) w.heap.size fn w1 us hr1 (by rw [hrr]; exact hl1) hul fun j x u hx hu => zzt      (hur j x u hx hu)
  rw [hrr] at hcall
  have hcf : ∃ fnn, P.funcs[f]? = some fnn ∧ (fnn.name == "runtime.NumGoroutine") = false ∧ fnn.body.isNone = false := by
    unfold zey    at hc
    cases h : P.funcs[f]? with
    | none => rw [h] at hc; cases hc
    | some fnn =>
      rw [h] at hc
      simp only [Bool.and_eq_true, Bool.not_eq_true', Option.isSome_iff_ne_none] at hc
      obtain ⟨h1, h2⟩ := hc
      exact ⟨fnn, rfl, h1, by cases hb : fnn.body with | none => exact absurd hb h2 | some _ => rfl⟩
  obtain ⟨fnn, hf1, hf2, hf3⟩ := hcf
  refine ⟨w.heap.size + 1, [{ target := .collected w.heap.size, args := #[] }], w1, { target := .fn (.func f) us.toArray, args := #[.func (.yield (w.heap.size + 1)) #[] #[]] }, w1, f, #[.func (.yield (w.heap.size + 1)) #[] #[]] ++ us.toArray, w1, ?_, ?_, fun _ _ => trivial, ?_, fun q => (by cases q), ?_⟩
  · rw [run_enterLoop_outer, hwa, hrr, hw1]
  · simp only [resolve, rangeCall, hu, Deferred.ofValue, Sem.run_bind, Sem.run_pure, Result.andThen_ok]
    simp [Sem.run_pure, Act.eval]
  · simp only [invoke, callFunc, Sem.run_bind, Sem.run_pure, Result.andThen_ok, run_program, hf1, hf2, hf3]
    simp [Sem.run_pure]
  · have e0 : (#[.func (.yield (w.heap.size + 1)) #[] #[]] ++ us.toArray : Array Value) = (.func (.yield (w.heap.size + 1)) #[] #[] :: us).toArray := by simp
    rw [e0]
    refine CallsIn.mono hcall ?_
    rintro e w' ⟨v, rfl, w2, S', μ', H', x, hq, hr2, hs2, hl2, hx⟩
    have hst2 := hst1.trans hs2
    have hD2 := hs2.keeps hr1 hD1 (hnd _)
    have hll2 := (Array.getElem?_eq_some_iff.1 hl2).1
    have hfr : Fr S' μ' ⟨N, [⟨.collected w.heap.size, #[]⟩]⟩ T { a with defers := [{ target := .collected w.heap.size, args := #[] }] ++ a.defers } := by
      have h := hf.ext (hst2.toExt hr)
      exact ⟨h.size, by rw [h.nodef]; rfl, h.slot⟩
    have fin : ∀ o, w2.heap.size = (w2.putObj (w.heap.size + 1) o).heap.size ∧ Rel (w2.putObj (w.heap.size + 1) o) S' μ' H' ∧ Step H.length w S μ H (w2.putObj (w.heap.size + 1) o) S' μ' H' ∧ (w2.putObj (w.heap.size + 1) o).heap[w.heap.size]? = some (.deferred (some [])) := fun o =>
      ⟨(z6k         _ _ _).symm, hr2.touch _ (NoCells.of hl2 (hnl _)) (z7H          _ _ _), hst2.touch (l := w.heap.size + 1) (by omega) rfl rfl rfl (by rw [z6k        ]; exact Nat.le_refl _) (z7H          _ _ _), by rw [World.putObj_heap_other (by omega)]; exact hD2⟩
    have hsz : w.heap.size < w2.heap.size := by omega
    rcases hx with ⟨rfl, rfl⟩ | ⟨c, hj, rfl⟩
    · have hend := run_endLoop (P := P) hl2 (by rw [← hrr]; simp)
      refine ⟨none, _, by rw [hend, ← hrr], ?_⟩
      rw [hrr]
      obtain ⟨f0, f1, f2, f3⟩ := fin (.loop { r with state := .exhausted })
      exact ⟨S', μ', H', hq, f1, f2, hfr, f3, by rw [← f0]; exact hsz⟩
    · have hl3 : (w2.putObj (w.heap.size + 1) (.loop { r with state := .done, pending := some c })).heap[w.heap.size + 1]? = some (.loop { r with state := .done, pending := some c }) := World.putObj_heap_same hll2
      have hend := run_endLoop (P := P) hl3 (by simp)
      refine ⟨some c, _, hend, ?_⟩
      have hpp : ∀ o o' : Obj, (w2.putObj (w.heap.size + 1) o).putObj (w.heap.size + 1) o' = w2.putObj (w.heap.size + 1) o' := fun o o' => by
        unfold World.putObj
        simp [Array.setIfInBounds_setIfInBounds]
      rw [hpp]
      obtain ⟨f0, f1, f2, f3⟩ := fin (.loop { r with state := .exhausted, pending := some c })
      cases x with
      | ret =>
        cases hj
        exact wpIn_ret ⟨S', μ', H', hq, f1, f2, hfr, f3, by rw [← f0]; exact hsz⟩
      | exit id =>
        cases hj
        exact wpIn_exit ⟨S', μ', H', hq, f1, f2, hfr, f3, by rw [← f0]; exact hsz⟩
      | normal => cases hj
      | goto t => cases hj
      | panic ch => cases hj
      | outgrown => cases hj
theorem zpv {lo : Option Nat} {N : FS} {ops : Array Oper} {L : List Oper} {K : ASt → Prop} {Q : Exit → Act → World → Prop} {l2 : List Oper} {w0 : World} {S0 : SS} {μ0 : List Value} {H0 : List AObj} (hl0 : μ0.length = H0.length)
  (hK : ∀ s w S μ a,K s → Rel w S μ s.H → Fr S μ N s.T a → GOk G S → Step H0.length w0 S0 μ0 H0 w S μ s.H → wpListIn (FL lo) d P ops Q l2 a w) : ∀ (l : List Oper) (s : ASt),(l.all fun o=>o.guard.isNone) = true → zbL P G L l s K → zNp N l = true →
  ∀ w S μ a,Rel w S μ s.H → Fr S μ N s.T a → GOk G S → Step H0.length w0 S0 μ0 H0 w S μ s.H → wpListIn (FL lo) d P ops Q (l ++ l2) a w
 |[],s,_,h,_,w,S,μ,a,hr,hf,hg,hs=>hK s w S μ a h hr hf hg hs
 |o :: r,s,hgu,h,hfit,w,S,μ,a,hr,hf,hg,hs=>by
  simp only [zNp,List.all_cons,Bool.and_eq_true] at hfit hgu
  have hd : ∀ i,o.dst = some i → i < N := fun i e=>by have := hfit.1;rw [e] at this;simpa using this
  have hgd : o.guard = none := by simpa using hgu.1
  unfold zbL at h
  rw [hgd] at h
  dsimp only at h
  show wpListIn (FL lo) d P ops Q (o :: (r ++ l2)) a w
  unfold wpListIn
  rw [if_pos (by simp [Region.wanted,hgd])]
  refine zIX (zmj h) (_root_.Go.Proofs.Ytaaogcnjfkgnoaa.Oper.wp_next (zfK h hr hf hg Q) fun a' w'=>?_)
  rintro ⟨x,u,H',S',μ',hrest,rfl,hrep,hr',hs',_⟩
  have hst := (hf.ext (hs'.toExt hr)).put o.dst hd hrep
  have hn' : H0.length ≤ s.H.length := by
   have := hs.objs
   rcases Nat.lt_or_ge s.H.length H0.length with hlt|hge
   ·have hlm : s.H.length < μ0.length := by omega
    obtain ⟨x',hx',_⟩ := hs.objs s.H.length μ0[s.H.length] hlt (List.getElem?_eq_getElem hlm)
    have := (List.getElem?_eq_some_iff.1 hx').1
    rw [hr.len] at this;omega
   ·exact hge
  exact zpv hl0 hK r _ hgu.2 hrest hfit.2 w' S' μ' _ hr' hst (hg.ext hs'.still) (hs.trans (hs'.less hn'))
theorem zn5 {R : Type} {E : Env} {M : Nat} {N : FS} (hE : zaL P G E) (hp : E.any zyl = false) {r : R} {id : Nat} {ops : List Oper} {h : Hint} {s : ASt} {k : KO R} (hx : zLa P G E M N (.region id ops.toArray false) h s k = some r) :
  zNp N ops = true ∧ zbL P G ops ops s (Aft (fun s=>k .normal s) r) := by
 obtain ⟨h1,h2⟩ := z05 (show z0C (zNp N ops) (match zMb E ops with
  |true=>zLI P G E ops s (fun s=>k .normal s) (fun u s=>k (.panic (pch u)) s)
  |false=>runE P G E false ops [] ops s fun s=>k .normal s) = some r from hx)
 have hq : zMb E ops = false := by unfold zMb;rw [hp];rfl
 rw [hq] at h2
 exact ⟨h1,zir hE (TEq.refl s.T) SkOk.nil h2⟩
def zqL (n : Nat) (H : List AObj) (X : AV) : RO := z0C (decide (n ≤ H.length) && (H.take n).all (ltO n)) (some (X,H.take n))
abbrev zui (n : Nat) : KO (AV × List AObj) := fun e s=>match e with
 |.normal=>zqL n s.H (V (.bool true))
 |.ret=>zqL n s.H (V (.bool false))
 |.exit i=>zqL n s.H (V (.int .i64 i))
 |_=>none
theorem zLO (P : Program) (G : Gl) (E : Env) (M : Nat) (N : FS) (n : Nat) (c : Code) (h : Hint) (s : ASt) : zLa P G E M N c h s (zui n) = execK P G E M N c h s (zui n) := (z76 c h s _).symm
theorem zzc {X : AV} : zqL n H X = z0C (decide (n ≤ H.length) && (H.take n).all (ltO n)) (some (X,H.take n)) := _root_.id rfl
attribute [go_sem] zzc
def xA : Exit → AV
 |.normal=>V (.bool true)
 |.ret=>V (.bool false)
 |.exit i=>V (.int .i64 i)
 |_=>.nil
theorem zzZ {e : Exit} {s : ASt} {X : AV} (h : zui n e s = some (X,H')) : (e = .normal ∨ ∃ c,zw3 e = some c) ∧ X = xA e ∧ n ≤ s.H.length ∧ H' = s.H.take n ∧ (s.H.take n).all (ltO n) = true := by
 have key : ∀ Y,zqL n s.H Y = some (X,H') → X = Y ∧ n ≤ s.H.length ∧ H' = s.H.take n ∧ (s.H.take n).all (ltO n) = true := fun Y q=>by
  obtain ⟨h1,h2⟩ := z05 q
  simp only [Bool.and_eq_true,decide_eq_true_eq] at h1
  cases h2
  exact ⟨rfl,h1.1,rfl,h1.2⟩
 cases e with
 |normal=>exact ⟨.inl rfl,key _ h⟩
 |ret=>exact ⟨.inr ⟨_,rfl⟩,key _ h⟩
 |exit i=>exact ⟨.inr ⟨_,rfl⟩,key _ h⟩
 |goto l=>cases h
 |panic ch=>cases h
 |outgrown=>cases h
def rfS : Code → Code|.rangeFunc _ _ a b=>.seq a b|c=>c
def regP (k : Nat) : Code → Code|.region id ops dr=>.region id (ops.toList.take k).toArray dr|c=>c
def regD (k : Nat) : Code → Code|.region id ops dr=>.region id (ops.toList.drop k).toArray dr|c=>c
theorem zph {E : Env} {M : Nat} (hE : zaL P G E) (hp : E.any zyl = false) {l fn D N : Nat} {tm : Array Value} {ps : List Nat} {id : Nat} {ops : List Oper} {body : Code} {T : Tm} {xs : List AV} {vs : List Value} {h : Hint} {X : AV}
  (hr : Rel w S μ H) (hf : Fr S μ (F0 N) T ⟨tm,[]⟩) (hg : GOk G S) (hps : ∀ p ∈ ps,p < N) (hl : w.heap[l]? = some (.loop ⟨.ready,none,fn,tm,ps.toArray, .region id ops.toArray false,body,D⟩)) (h1 : vs.length = xs.length) (h2 : xs.length = ps.length)
  (hv : ∀ (j : Nat) (x : AV) (v : Value),xs[j]? = some x → vs[j]? = some v → rep S μ x v) (hfl : ztt body = true) (hJ : h.J = none)
  (hx : zLa P G E M (F0 N) (.seq (.region id ops.toArray false) body) h ⟨H,zzH ps xs T⟩ (zui H.length) = some (X,H')) :
  YieldAt Fence.wide d P l vs.toArray w (zxW l ⟨.ready,none,fn,tm,ps.toArray, .region id ops.toArray false,body,D⟩ w S μ H fun x H2=>X = xA x ∧ H2 = H') := by
 have hx' : zLa P G E M (F0 N) (.region id ops.toArray false) h.l ⟨H,zzH ps xs T⟩ (fun e s'=>match e with|.normal=>zLa P G E M (F0 N) body h.r (ghJ h.gho (zAB h.J s')) (zui H.length)|e=>zui H.length e s') = some (X,H') := hx
 obtain ⟨f1,f2⟩ := zn5 hE hp hx'
 have hgn : h.gho = none := Hint.gho_none hJ
 refine zAa (Q := fun e s=>zui H.length e s = some (X,H')) hr hf hg hps hl h1 h2 hv ?_ ?_
 ·have q := zpH (lo := some l) (d := d) (n := H.length) (id := id) (s := ⟨H,zzH ps xs T⟩) (G := G) (Q := fun e s'=>e = .normal ∧ Aft (fun s'=>zLa P G E M (F0 N) body h.r (ghJ h.gho (zAB h.J s')) (zui H.length)) (X,H') s') f1 (Nat.le_refl _) (za5 (fun s q=>⟨rfl,q⟩) f2)
  refine AWi.mono (AWi.len q (Nat.le_refl _)) fun e s' q=>?_
  obtain ⟨⟨rfl,T2,ht,q⟩,hl⟩ := q
  rw [hgn,hJ] at q
  exact AWi.text ht (zlr hE hp body h.r ⟨s'.H,T2⟩ _ hfl hl q)
 ·intro e s q
  obtain ⟨q1,q2,q3,q4,q5⟩ := zzZ q
  have hl : (s.H.take H.length).length = H.length := by rw [List.length_take];omega
  exact ⟨q1,s.H.take H.length,HLe.take _ _,by rw [hl];exact q5,by rw [hl];exact Nat.le_refl _,q2,q4.symm⟩
theorem zpe {o : Oper} {a : Act} {t : Tmp} {args : Array Operand} {ts : Array TypeId} {l : Nat} {x : Next} {w' : World} {lo : Option Nat} (ho : o.op = .call { callee := .value (.tmp t),args := args,argTypes := ts }) (ht : a.eval (.tmp t) = .func (.yield l) #[] #[])
  (hy : (Instr.yield l (args.map a.eval)).run P w = .ok x w') : (Oper.semAt lo a.eval o).run P w = .ok x w' := by
 have e : Oper.semAt lo a.eval o = execOp a.eval o := by
  cases lo with
  |none=>exact Oper.semAt_none _ _
  |some l=>exact Oper.semAt_some _ _ _ (fun c q=>by rw [ho] at q;cases q)
 rw [e]
 unfold execOp
 rw [ho]
 simp only [resolve,ht,Deferred.ofValue,Sem.run_bind,Sem.run_pure,Result.andThen_ok,invoke]
 simp [hy]
theorem zza {o : Oper} {a : Act} {t : Tmp} {args : Array Operand} {ts : Array TypeId} {l : Nat} {R : Ending → World → Prop} {next : Act → World → Prop} {Q : Exit → Act → World → Prop} (ho : o.op = .call { callee := .value (.tmp t),args := args,argTypes := ts }) (ht : a.eval (.tmp t) = .func (.yield l) #[] #[])
  (hy : YieldAt Fence.wide (d - 1) P l (args.map a.eval) w R) (h : ∀ e w',R e w' → ∃ v,e = .returned v ∧ next (a.put o.dst v) w') : o.wpIn (FL none) d P a w next Q := by
 refine ⟨fun _ _=>trivial,?_⟩
 obtain ⟨fn,tmps,asg,bd,h1,h2⟩ := hy
 rw [zpe ho ht h1]
 refine ⟨fun q=>(by cases q),RoundIn.mono h2 ?_⟩
 intro e w' hR
 obtain ⟨v,rfl,hn⟩ := h e w' hR
 exact hn
end
end Go.Proofs.Ytaaogcnjfkgnoaa

namespace Go.Proofs.Ytaaogcnjfkgnoaa
open Go.RowKit
section
variable {P : Program} {G : Gl} {n d : Nat} {N : FS} {w w' w0 : World} {S S' S0 : SS} {μ μ' μ0 : List Value} {H H' H0 : List AObj} {E : Env} {M : Nat}
theorem zqr {T2 : Tm} : ∀ {rs : List Tmp} {ds : List AV},(TU ds : AV) = TU (zN5 T2 rs) → ∀ i,get (rs.zip ds) i = get T2 i ∨ get (rs.zip ds) i = .nil := by
 intro rs ds h
 rw [zxX] at h
 simp only [DataW.iface.injEq,DataW.agg.injEq,true_and] at h
 subst h
 induction rs with
 |nil=>exact fun i=>.inr rfl
 |cons t r ih =>
  intro i
  simp only [List.map_cons,List.zip_cons_cons,_root_.Go.Proofs.Ytaaogcnjfkgnoaa.get]
  split
  ·rename_i e;subst e;exact .inl rfl
  ·exact ih i
theorem Fr.less {T T' : Tm} {a : Act} (hf : Fr S μ N T a) (h : ∀ i,get T' i = get T i ∨ get T' i = .nil) : Fr S μ N T' a :=
 ⟨hf.size,hf.nodef,fun i=>by
  rcases h i with e|e
  ·rw [e];exact hf.slot i
  ·rw [e];exact zp6 _ _ _⟩
theorem Fr.some {T T' : Tm} {a : Act} (hf : Fr S μ N T a) (h : ∀ p ∈ T',get T p.1 = p.2) : Fr S μ N T' a := hf.less (by
 intro i
 induction T' with
 |nil=>exact .inr rfl
 |cons p r ih =>
  obtain ⟨j,x⟩ := p
  simp only [_root_.Go.Proofs.Ytaaogcnjfkgnoaa.get]
  split
  ·rename_i e
   subst e
   exact .inl (h (j,x) (List.mem_cons_self ..)).symm
  ·exact ih fun p hp=>h p (List.mem_cons_of_mem _ hp))
theorem zqa {rs : List Tmp} {e : Exit} {s : ASt} {X : AV} (h : zl7 rs e s = some (X,H')) : e = .normal ∧ X = TU (zN5 s.T rs) ∧ s.H = H' := by
 cases e with
 |normal=>cases h;exact ⟨rfl,rfl,rfl⟩
 |exit id=>cases h
 |goto l=>cases h
 |ret=>cases h
 |panic ch=>cases h
 |outgrown=>cases h
def zH0 (G : Gl) (N : FS) (rs : List Tmp) (ds : List AV) (w : World) (S : SS) (μ : List Value) (H H' : List AObj) (a' : Act) (w' : World) : Prop :=
 ∃ S' μ',Rel w' S' μ' H' ∧ Fr S' μ' N (rs.zip ds) a' ∧ GOk G S' ∧ Step H.length w S μ H w' S' μ' H'
theorem znU (hm : P.follows .mixedOrders = true) (hE : zaL P G E) {c : Code} {h : Hint} {s : ASt} {rs : List Tmp} {ds : List AV} {a : Act} (hx : zLa P G E M N c h s (zl7 rs) = some (TU ds,H')) (hr : Rel w S μ s.H) (hf : Fr S μ N s.T a) (hg : GOk G S) :
  c.wpIn (FL none) d P (fun e a' w'=>e = .normal ∧ zH0 G N rs ds w S μ s.H H' a' w') a w := by
 refine wpIn_wide.2 (wp_mono (zae (n := s.H.length) hm hE c h s _ (Nat.le_refl _) hx w S μ a hr hf hg) ?_)
 rintro e a' w' ⟨s',S',μ',hq,hr',hf',hst⟩
 obtain ⟨rfl,e2,rfl⟩ := zqa hq
 exact ⟨rfl,S',μ',hr',hf'.less (zqr e2),hg.ext hst.still,hst⟩
theorem ztq (hE : zaL P G E) (hp : E.any zyl = false) {id : Nat} {l : List Oper} {h : Hint} {s : ASt} {rs : List Tmp} {ds : List AV} {a : Act} {ops : Array Oper} {l2 : List Oper} {Q : Exit → Act → World → Prop} (hgu : (l.all fun o=>o.guard.isNone) = true) (hx : zLa P G E M N (.region id l.toArray false) h s (zl7 rs) = some (TU ds,H'))
  (hr : Rel w S μ s.H) (hf : Fr S μ N s.T a) (hg : GOk G S) (hK : ∀ a' w',zH0 G N rs ds w S μ s.H H' a' w' → wpListIn (FL none) d P ops Q l2 a' w') : wpListIn (FL none) d P ops Q (l ++ l2) a w := by
 obtain ⟨f1,f2⟩ := zn5 hE hp hx
 refine zpv (L := l) (N := N) hr.len ?_ l s hgu f2 f1 w S μ a hr hf hg (Step.refl _ _ _ _ _)
 rintro s' w' S' μ' a' ⟨T2,ht,hk⟩ hr' hf' hg' hst
 obtain ⟨_,e2,e3⟩ := zqa (s := ⟨s'.H,T2⟩) hk
 dsimp only at e2 e3
 subst e3
 exact hK a' w' ⟨S',μ',hr',(hf'.less fun i=>.inl (ht i).symm).less (zqr e2),hg',hst⟩
theorem zyy (hE : zaL P G E) (hp : E.any zyl = false) {id : Nat} {l : List Oper} {h : Hint} {s : ASt} {rs : List Tmp} {ds : List AV} {a : Act} {ops : Array Oper} {Q : Exit → Act → World → Prop} (hgu : (l.all fun o=>o.guard.isNone) = true) (hx : zLa P G E M N (.region id l.toArray false) h s (zl7 rs) = some (TU ds,H'))
  (hr : Rel w S μ s.H) (hf : Fr S μ N s.T a) (hg : GOk G S) (hK : ∀ a' w',zH0 G N rs ds w S μ s.H H' a' w' → Q .normal a' w') : wpListIn (FL none) d P ops Q l a w := by
 have key := ztq (d := d) (ops := ops) (l2 := []) (Q := Q) hE hp hgu hx hr hf hg fun a' w' q=>wpListIn_nil (hK a' w' q)
 rwa [List.append_nil] at key
theorem zlk (hm : P.follows .mixedOrders = true) (hE : zaL P G E) {rs : List Tmp} {ds : List AV} {Q : Exit → Act → World → Prop} : ∀ (m : Nat) (c : Code) (h : Hint) (s : ASt) {w : World} {S : SS} {μ : List Value} {a : Act},zIQ m c = true → zLa P G E M N (zML m c .skip) h s (zl7 rs) = some (TU ds,H') →
  Rel w S μ s.H → Fr S μ N s.T a → GOk G S →
  (∀ a' w',(∃ S' μ',n ≤ H'.length ∧ Rel w' S' μ' H' ∧ Fr S' μ' N (rs.zip ds) a' ∧ GOk G S' ∧ Step n w S μ s.H w' S' μ' H') → (zNr m c).wpIn (FL none) d P Q a' w') → n ≤ s.H.length → c.wpIn (FL none) d P Q a w
 |0,c,h,s,w,S,μ,a,hd,hx,hr,hf,hg,hK,hn=>by
  have hx : zl7 rs .normal s = some (TU ds,H') := hx
  obtain ⟨_,e2,e3⟩ := zqa hx
  subst e3
  exact hK a w ⟨S,μ,hn,hr,hf.less (zqr e2),hg,Step.refl _ _ _ _ _⟩
 |m + 1, .seq x y,h,s,w,S,μ,a,hd,hx,hr,hf,hg,hK,hn=>by
  refine wpIn_seq (wpIn_mono (wpIn_wide.2 (AWp.len (zae (n := n) hm hE x h.l s _ hn hx) hn w S μ a hr hf hg)) ?_)
  rintro e a' w' ⟨s',S',μ',⟨hq,hl⟩,hr',hf',hst⟩
  cases e with
  |normal =>
   have q : zLa P G E M N (zML m y .skip) h.r (ghJ h.gho (zAB h.J s')) (zl7 rs) = some (TU ds,H') := hq
   have key : ∀ (T3 : Tm),(∀ i,get T3 i = get s'.T i ∨ get T3 i = .nil) → zLa P G E M N (zML m y .skip) h.r (ghJ h.gho ⟨s'.H,T3⟩) (zl7 rs) = some (TU ds,H') → y.wpIn (FL none) d P Q a' w' := by
    intro T3 h3 q
    have gh : ∀ g,∃ μ2,Rel w' S' μ2 (ghJ g ⟨s'.H,T3⟩).H ∧ Fr S' μ2 N (ghJ g ⟨s'.H,T3⟩).T a' ∧ Step n w' S' μ' s'.H w' S' μ2 (ghJ g ⟨s'.H,T3⟩).H := by
     intro g
     have triv : ∃ μ2,Rel w' S' μ2 s'.H ∧ Fr S' μ2 N T3 a' ∧ Step n w' S' μ' s'.H w' S' μ2 s'.H := ⟨μ',hr',hf'.less h3,Step.refl _ _ _ _ _⟩
     cases g with
     |none=>exact triv
     |some g =>
      obtain ⟨i,off,e,z⟩ := g
      show ∃ μ2,Rel w' S' μ2 (ghS i off e z ⟨s'.H,T3⟩).H ∧ Fr S' μ2 N (ghS i off e z ⟨s'.H,T3⟩).T a' ∧ Step n w' S' μ' s'.H w' S' μ2 (ghS i off e z ⟨s'.H,T3⟩).H
      unfold ghS
      split
      ·rename_i j hi
       split
       ·rename_i ob hj
        split
        ·rename_i hk hc
         obtain ⟨h1,h2⟩ := hr'.nilRow none e z
         have hjl : j < s'.H.length := (List.getElem?_eq_some_iff.1 hj).1
         obtain ⟨h3',h4⟩ := h1.recell (off := off) (d' := OW s'.H.length 0) (by rw [List.getElem?_append_left hjl];exact hj) hk hc (fun u hu=>⟨none,0,0,none,0,by rw [← hr'.len];simp,Nat.le_refl _,hu.1,fun _=>⟨rfl,rfl⟩⟩)
         rw [List.set_append_left _ _ hjl] at h3' h4
         have hx : Ext S' μ' S' (μ' ++ [.slice none 0 0]) := zmL S' μ' _
         exact ⟨_,h3',(hf'.less h3).ext hx,(h2.less hl).trans (h4.less (by simp only [List.length_append];omega))⟩
        ·exact triv
       ·exact triv
      ·exact triv
    obtain ⟨μ2,g1,g2,g3⟩ := gh h.gho
    have hl2 : n ≤ (ghJ h.gho ⟨s'.H,T3⟩).H.length := Nat.le_trans hl (zpd h.gho ⟨s'.H,T3⟩)
    refine zlk hm hE m y h.r (ghJ h.gho ⟨s'.H,T3⟩) hd q g1 g2 (hg.ext hst.still) ?_ hl2
    rintro a2 w2 ⟨S2,μ3,b1,b2,b3,b4,b5⟩
    exact hK a2 w2 ⟨S2,μ3,b1,b2,b3,b4,(hst.trans g3).trans b5⟩
   cases hj : h.J with
   |none=>rw [hj] at q;exact key s'.T (fun i=>.inl rfl) q
   |some L=>rw [hj] at q;exact key (zba L s'.T) (zfU L s'.T) q
  |exit id=>cases hq
  |goto l=>cases hq
  |ret=>cases hq
  |panic ch=>cases hq
  |outgrown=>cases hq
end
end Go.Proofs.Ytaaogcnjfkgnoaa

namespace Go.Proofs.Ytaaogcnjfkgnoaa
open Go.RowKit
def z07 : TypeId := 54
def z00 : TypeId := 30
def z01 : TypeId := 41
def z5v : TypeId := 3
def zc_api_Cert : List AV := [(V (.int .i64 0)),(V (.int .i64 0)),(V (.int .i64 0)),(V (.string ⟨#[]⟩)),(V (.slice none 0 0))]
def zc_api_Stmt : List AV := [(V (.int .i64 0)),(V (.int .i64 0)),(V (.int .i64 0)),(V (.int .i64 0)),(V (.int .i64 0))]
def z6r : Code := (Try.f80.body).getD .skip
def wire_number_h : Hint := (.two .n (.join [] (.two .n (.one (.lp [] [5,6,7] [2] (.two .n (.two (.two .n .n) (.join [5,6,7] (.one (.two .n (.join [5,6,7,16] .n (.two (.two .n .n) .n)))) .n)))))) (.two .n .n)))
def z5J (m : Nat) : Env := []
abbrev zbo : KO (AV × List AObj) := z1L Try.prog [.tmp 2]
def zdm (m : Nat) (n0 : Nat) (kc : ASt → RO) (kx : KO (AV × List AObj)) (s : ASt) : RO := z11 Try.prog GG (z5J m) m ⟨18,[]⟩ (cdR (cdR (cdR (cdL (cdL (cdR (cdL (cdR z6r)))))))) wire_number_h.r.l.r.c.c.r.r.r s (z5s n0 [5,6,7] [2] kc kx)
def zd9 (m : Nat) (n0 : Nat) (kc : ASt → RO) (kx : KO (AV × List AObj)) (s : ASt) : RO := z11 Try.prog GG (z5J m) m ⟨18,[]⟩ (cdR (cdR (cdL (cdL (cdR (cdR (cdL (cdL (cdR (cdL (cdR z6r))))))))))) wire_number_h.r.l.r.c.c.r.r.l.c.r.r s (z0P 1 (zM3 (fun s=>zdm m n0 kc kx ⟨s.H,[(5,gt s.T 5),(6,gt s.T 6),(7,gt s.T 7)]⟩) (z5s n0 [5,6,7] [2] kc kx)))
def zix (m : Nat) (s : ASt) : RO := z11 Try.prog GG (z5J m) m ⟨18,[]⟩ (cdR (cdR z6r)) wire_number_h.r.r s (zbo)
def zis (m : Nat) (s : ASt) (kc : ASt → RO) (kx : KO (AV × List AObj)) : RO := z8G Try.prog GG (z5J m) m ⟨18,[]⟩ (cdL (cdL (cdR (cdL (cdR z6r))))) wire_number_h.r.l.r.c.c [5,6,7] [2] s kc kx
def za1 (m : Nat) (t0 : AV) : RO := zLa Try.prog GG (z5J m) m ⟨18,[]⟩ z6r wire_number_h ⟨[],z14 0 [t0]⟩ (zbo)
theorem z5W (m : Nat) (n0 : Nat) (kc : ASt → RO) (kx : KO (AV × List AObj)) (H : List AObj) (t5 t6 t7 : AV) : zdm m n0 kc kx ⟨H,[(5,t5),(6,t6),(7,t7)]⟩ =
 zMe none false false .add t7 (V (.int .i64 1)) fun t17 =>
 z7z n0 H [(5,t5),(6,t6),(7,t17)] kc := by
 refine (z03 _ _ _ _ _ _ _ _ _).trans ?_
 kernel_rfl
theorem z5O (m : Nat) (n0 : Nat) (kc : ASt → RO) (kx : KO (AV × List AObj)) (H : List AObj) (t5 t6 t7 t16 : AV) : zd9 m n0 kc kx ⟨H,[(5,t5),(6,t6),(7,t7),(16,t16)]⟩ =
 z0o t16 (
  kx .ret ⟨H,[(2,(V (.bool false)))]⟩) (
  zdm m n0 kc kx ⟨H,[(5,t5),(6,t6),(7,t7)]⟩) := by
 refine (z03 _ _ _ _ _ _ _ _ _).trans ?_
 kernel_rfl
theorem z5T (m : Nat) (H : List AObj) : zix m ⟨H,[]⟩ =
 z1Z H (ro H (V (.bool true))) := by
 refine (z03 _ _ _ _ _ _ _ _ _).trans ?_
 kernel_rfl
theorem zkN (m : Nat) (H : List AObj) (t5 t6 t7 : AV) (kc : ASt → RO) (kx : KO (AV × List AObj)) : zis m ⟨H,[(5,t5),(6,t6),(7,t7)]⟩ kc kx =
 zMe none false false .lss t7 t6 fun t8 =>
 z0o t8 (
  z3H 1 H t5 t7 fun t9 =>
  z04 1 H t9 fun t10 =>
  zMe none false false .lss t10 (V (.int .i64 0)) fun t12 =>
  z0o t12 (
   zd9 m H.length kc kx ⟨H,[(5,t5),(6,t6),(7,t7),(16,(V (.bool true)))]⟩) (
   zMe none false false .gtr t10 (V (.int .i64 2147483647)) fun t15 =>
   zd9 m H.length kc kx ⟨H,[(5,t5),(6,t6),(7,t7),(16,t15)]⟩)) (
  kx (.exit 0) ⟨H,[(2, .nil)]⟩) := by
 refine (z0F _ _ _ _ _ _ _ _ _ _ _ _).trans ?_
 kernel_rfl
theorem zo9 (m : Nat) (t0 : AV) : za1 m t0 =
 zLZ false true [] t0 fun t6 =>
 z7c m (zis m) ⟨[],[(5,t0),(6,t6),(7,(V (.int .i64 0)))]⟩ (z0P 0 (zM3 (fun s=>zix m ⟨s.H,[]⟩) (zbo))) := by
 refine (z8O _ _ _ _ _ _ _ _ _).trans ?_
 kernel_rfl
def z8B (m : Nat) : List AV → RO|[t0]=>za1 m t0|_=>none
theorem zcK (m : Nat) : ∀ args X H',z8B m args = some (X,H') → ACp Try.prog GG 80 args X := by
 intro args X H' h
 unfold z8B at h
 split at h
 ·exact z0B MIX (by intro f e h;cases h) (f := 80) (c := z6r) Try.func80 rfl (by kernel_rfl) _ rfl Try.ntmps80 (Nat.le_of_ble_eq_true rfl) wire_number_h h
 ·cases h
def zlI : Code := (Try.f79.body).getD .skip
def zmg : Hint := (.two .n (.two .n .n))
def zoF (m : Nat) : Env := []
abbrev zoG : KO (AV × List AObj) := z1L Try.prog [.tmp 2]
def zfs (m : Nat) (t0 : AV) : RO := zLa Try.prog GG (zoF m) m ⟨9,[]⟩ zlI zmg ⟨[],z14 0 [t0]⟩ (zoG)
theorem zpM (m : Nat) (t0 : AV) : zfs m t0 =
 zMe none false false .geq t0 (V (.int .i64 0)) fun t4 =>
 z0o t4 (
  zMe none false false .lss t0 (V (.int .i64 64)) fun t7 =>
  z1Z [] (ro [] t7)) (
  z1Z [] (ro [] (V (.bool false)))) := by
 refine (z8O _ _ _ _ _ _ _ _ _).trans ?_
 kernel_rfl
def zdc (m : Nat) : List AV → RO|[t0]=>zfs m t0|_=>none
theorem zkB (m : Nat) : ∀ args X H',zdc m args = some (X,H') → ACp Try.prog GG 79 args X := by
 intro args X H' h
 unfold zdc at h
 split at h
 ·exact z0B MIX (by intro f e h;cases h) (f := 79) (c := zlI) Try.func79 rfl (by kernel_rfl) _ rfl Try.ntmps79 (Nat.le_of_ble_eq_true rfl) zmg h
 ·cases h
def zna : Code := (Try.f82.body).getD .skip
def zmM : Hint := (.two .n (.two .n .n))
def zkw (m : Nat) : Env := [(79, .tell (zdc m)),(80, .tell (z8B m))]
abbrev zoX : KO (AV × List AObj) := z1L Try.prog [.tmp 2]
def zlf (m : Nat) (t0 : AV) : RO := zLa Try.prog GG (zkw m) m ⟨18,[]⟩ zna zmM ⟨[],z14 0 [t0]⟩ (zoX)
theorem zqu (m : Nat) (t0 : AV) : zlf m t0 =
 zN2 z01 [] t0 fun t1 H1 =>
 z02 (some (0,1)) t1 fun t3 =>
 z04 1 H1 t3 fun t4 =>
 z1D (zfs m (ro H1 t4)) [(ro H1 t4)] fun t5 =>
 z0o t5 (
  z02 (some (1,1)) t1 fun t7 =>
  z04 1 H1 t7 fun t8 =>
  z02 (some (2,1)) t1 fun t9 =>
  z04 1 H1 t9 fun t10 =>
  z02 (some (3,1)) t1 fun t11 =>
  z04 1 H1 t11 fun t12 =>
  z02 (some (4,1)) t1 fun t13 =>
  z04 1 H1 t13 fun t14 =>
  z0O (some (z5v,1)) 4 [(0,t8),(1,t10),(2,t12),(3,t14)] fun t15 =>
  z1D (za1 m (ro H1 t15)) [(ro H1 t15)] fun t16 =>
  z1Z H1 (ro H1 t16)) (
  z1Z H1 (ro H1 (V (.bool false)))) := by
 refine (z8O _ _ _ _ _ _ _ _ _).trans ?_
 kernel_rfl
def zcw (m : Nat) : List AV → RO|[t0]=>zlf m t0|_=>none
theorem zqs (m : Nat) : ∀ args X H',zcw m args = some (X,H') → ACp Try.prog GG 82 args X := by
 intro args X H' h
 unfold zcw at h
 split at h
 ·exact z0B MIX (by
  intro f e h
  simp only [zkw,Prod.mk.injEq,List.mem_cons,List.not_mem_nil,or_false] at h
  rcases h with ⟨rfl,rfl⟩|⟨rfl,rfl⟩
  ·exact zkB m
  ·exact zcK m) (f := 82) (c := zna) Try.func82 rfl (by kernel_rfl) _ rfl Try.ntmps82 (Nat.le_of_ble_eq_true rfl) zmM h
 ·cases h
def z6N : Code := (Try.f81.body).getD .skip
def wire_list_Stmt_h : Hint := (.two .n (.two (.two .n (.two (.two .n .n) .n)) (.join [] (.two .n (.one (.lp [] [1,10,11,12] [4] (.two .n (.two (.two .n .n) (.two (.one (.two .n (.two .n (.two (.two .n .n) .n)))) .n)))))) (.two .n .n))))
def z2t (m : Nat) : Env := [(82, .tell (zcw m))]
abbrev z8b : KO (AV × List AObj) := z1L Try.prog [.tmp 4]
def zee (m : Nat) (s : ASt) : RO := z11 Try.prog GG (z2t m) m ⟨21,[]⟩ (cdR (cdR (cdR z6N))) wire_list_Stmt_h.r.r.r s (z8b)
def ze6 (m : Nat) (s : ASt) (kc : ASt → RO) (kx : KO (AV × List AObj)) : RO := z8G Try.prog GG (z2t m) m ⟨21,[]⟩ (cdL (cdL (cdR (cdL (cdR (cdR z6N)))))) wire_list_Stmt_h.r.r.l.r.c.c [1,10,11,12] [4] s kc kx
def z7h (m : Nat) (t0 t1 : AV) : RO := zLa Try.prog GG (z2t m) m ⟨21,[]⟩ z6N wire_list_Stmt_h ⟨[],z14 0 [t0,t1]⟩ (z8b)
theorem z6j (m : Nat) (H : List AObj) : zee m ⟨H,[]⟩ =
 z1Z H (ro H (V (.bool true))) := by
 refine (z03 _ _ _ _ _ _ _ _ _).trans ?_
 kernel_rfl
theorem zh8 (m : Nat) (H : List AObj) (t1 t10 t11 t12 : AV) (kc : ASt → RO) (kx : KO (AV × List AObj)) : ze6 m ⟨H,[(1,t1),(10,t10),(11,t11),(12,t12)]⟩ kc kx =
 zMe none false false .lss t12 t11 fun t13 =>
 z0o t13 (
  z3H 7 H t10 t12 fun t14 =>
  z04 7 H t14 fun t15 =>
  z2f (some zc_api_Stmt) z01 H fun t6 H2 =>
  z0I 7 H2 t6 t15 fun H3 =>
  z04 7 H3 t6 fun t17 =>
  zfn (z2t m) t1 [t17] H3 fun t18 H4 =>
  unE .not t18 fun t19 =>
  z0o t19 (
   kx .ret ⟨H4,[(4,(V (.bool false)))]⟩) (
   zMe none false false .add t12 (V (.int .i64 1)) fun t20 =>
   z7z H.length H4 [(1,t1),(10,t10),(11,t11),(12,t20)] kc)) (
  kx (.exit 0) ⟨H,[(4, .nil)]⟩) := by
 refine (z0F _ _ _ _ _ _ _ _ _ _ _ _).trans ?_
 kernel_rfl
theorem zkV (m : Nat) (t0 t1 : AV) : z7h m t0 t1 =
 zLZ false true [] t0 fun t8 =>
 zMe none false false .gtr t8 (V (.int .i64 64)) fun t9 =>
 z0o t9 (
  z1Z [] (ro [] (V (.bool false)))) (
  zLZ false true [] t0 fun t11 =>
  z7c m (ze6 m) ⟨[],[(1,t1),(10,t0),(11,t11),(12,(V (.int .i64 0)))]⟩ (z0P 0 (zM3 (fun s=>zee m ⟨s.H,[]⟩) (z8b)))) := by
 refine (z8O _ _ _ _ _ _ _ _ _).trans ?_
 kernel_rfl
def z6O (m : Nat) : List AV → RO|[t0,t1]=>z7h m t0 t1|_=>none
theorem ze4 (m : Nat) : ∀ args X H',z6O m args = some (X,H') → ACp Try.prog GG 81 args X := by
 intro args X H' h
 unfold z6O at h
 split at h
 ·exact z0B MIX (by
  intro f e h
  simp only [z2t,Prod.mk.injEq,List.mem_cons,List.not_mem_nil,or_false] at h
  obtain ⟨rfl,rfl⟩ := h
  ·exact zqs m) (f := 81) (c := z6N) Try.func81 rfl (by kernel_rfl) _ rfl Try.ntmps81 (Nat.le_of_ble_eq_true rfl) wire_list_Stmt_h h
 ·cases h
def zng : Code := (Try.f84.body).getD .skip
def znh : Hint := (.two .n (.two .n .n))
def zkj (m : Nat) : Env := [(80, .tell (z8B m)),(81, .tell (z6O m))]
abbrev zpy : KO (AV × List AObj) := z1L Try.prog [.tmp 2]
def zld (m : Nat) (t0 : AV) : RO := zLa Try.prog GG (zkj m) m ⟨22,[]⟩ zng znh ⟨[],z14 0 [t0]⟩ (zpy)
theorem zqO (m : Nat) (t0 : AV) : zld m t0 =
 zN2 z07 [] t0 fun t1 H1 =>
 z02 (some (0,1)) t1 fun t3 =>
 z04 1 H1 t3 fun t4 =>
 z02 (some (1,1)) t1 fun t5 =>
 z04 1 H1 t5 fun t6 =>
 z02 (some (2,1)) t1 fun t7 =>
 z04 1 H1 t7 fun t8 =>
 z0O (some (z5v,1)) 3 [(0,t4),(1,t6),(2,t8)] fun t9 =>
 z1D (za1 m (ro H1 t9)) [(ro H1 t9)] fun t10 =>
 z0o t10 (
  z02 (some (3,1)) t1 fun t12 =>
  z04 1 H1 t12 fun t13 =>
  zLZ true false H1 t13 fun t14 =>
  zMe none false false .leq t14 (V (.int .i64 65536)) fun t15 =>
  z0o t15 (
  z02 (some (4,1)) t1 fun t18 =>
  z04 1 H1 t18 fun t19 =>
  z1D (z7h m (ro H1 t19) (ro H1 (V (.func (.func 82) #[] #[])))) [(ro H1 t19),(ro H1 (V (.func (.func 82) #[] #[])))] fun t20 =>
  z1Z H1 (ro H1 t20)) (
  z1Z H1 (ro H1 (V (.bool false))))) (
  z1Z H1 (ro H1 (V (.bool false)))) := by
 refine (z8O _ _ _ _ _ _ _ _ _).trans ?_
 kernel_rfl
def zbT (m : Nat) : List AV → RO|[t0]=>zld m t0|_=>none
theorem zqw (m : Nat) : ∀ args X H',zbT m args = some (X,H') → ACp Try.prog GG 84 args X := by
 intro args X H' h
 unfold zbT at h
 split at h
 ·exact z0B MIX (by
  intro f e h
  simp only [zkj,Prod.mk.injEq,List.mem_cons,List.not_mem_nil,or_false] at h
  rcases h with ⟨rfl,rfl⟩|⟨rfl,rfl⟩
  ·exact zcK m
  ·exact ze4 m) (f := 84) (c := zng) Try.func84 rfl (by kernel_rfl) _ rfl Try.ntmps84 (Nat.le_of_ble_eq_true rfl) znh h
 ·cases h
def z7l : Code := (Try.f83.body).getD .skip
def wire_list_Cert_h : Hint := (.two .n (.two (.two .n (.two (.two .n .n) .n)) (.join [] (.two .n (.one (.lp [] [1,10,11,12] [4] (.two .n (.two (.two .n .n) (.two (.one (.two .n (.two .n (.two (.two .n .n) .n)))) .n)))))) (.two .n .n))))
def z2y (m : Nat) : Env := [(84, .tell (zbT m))]
abbrev z7P : KO (AV × List AObj) := z1L Try.prog [.tmp 4]
def zel (m : Nat) (s : ASt) : RO := z11 Try.prog GG (z2y m) m ⟨21,[]⟩ (cdR (cdR (cdR z7l))) wire_list_Cert_h.r.r.r s (z7P)
def ze8 (m : Nat) (s : ASt) (kc : ASt → RO) (kx : KO (AV × List AObj)) : RO := z8G Try.prog GG (z2y m) m ⟨21,[]⟩ (cdL (cdL (cdR (cdL (cdR (cdR z7l)))))) wire_list_Cert_h.r.r.l.r.c.c [1,10,11,12] [4] s kc kx
def z9y (m : Nat) (t0 t1 : AV) : RO := zLa Try.prog GG (z2y m) m ⟨21,[]⟩ z7l wire_list_Cert_h ⟨[],z14 0 [t0,t1]⟩ (z7P)
theorem z6d (m : Nat) (H : List AObj) : zel m ⟨H,[]⟩ =
 z1Z H (ro H (V (.bool true))) := by
 refine (z03 _ _ _ _ _ _ _ _ _).trans ?_
 kernel_rfl
theorem zgY (m : Nat) (H : List AObj) (t1 t10 t11 t12 : AV) (kc : ASt → RO) (kx : KO (AV × List AObj)) : ze8 m ⟨H,[(1,t1),(10,t10),(11,t11),(12,t12)]⟩ kc kx =
 zMe none false false .lss t12 t11 fun t13 =>
 z0o t13 (
  z3H 7 H t10 t12 fun t14 =>
  z04 7 H t14 fun t15 =>
  z2f (some zc_api_Cert) z07 H fun t6 H2 =>
  z0I 7 H2 t6 t15 fun H3 =>
  z04 7 H3 t6 fun t17 =>
  zfn (z2y m) t1 [t17] H3 fun t18 H4 =>
  unE .not t18 fun t19 =>
  z0o t19 (
   kx .ret ⟨H4,[(4,(V (.bool false)))]⟩) (
   zMe none false false .add t12 (V (.int .i64 1)) fun t20 =>
   z7z H.length H4 [(1,t1),(10,t10),(11,t11),(12,t20)] kc)) (
  kx (.exit 0) ⟨H,[(4, .nil)]⟩) := by
 refine (z0F _ _ _ _ _ _ _ _ _ _ _ _).trans ?_
 kernel_rfl
theorem zkS (m : Nat) (t0 t1 : AV) : z9y m t0 t1 =
 zLZ false true [] t0 fun t8 =>
 zMe none false false .gtr t8 (V (.int .i64 64)) fun t9 =>
 z0o t9 (
  z1Z [] (ro [] (V (.bool false)))) (
  zLZ false true [] t0 fun t11 =>
  z7c m (ze8 m) ⟨[],[(1,t1),(10,t0),(11,t11),(12,(V (.int .i64 0)))]⟩ (z0P 0 (zM3 (fun s=>zel m ⟨s.H,[]⟩) (z7P)))) := by
 refine (z8O _ _ _ _ _ _ _ _ _).trans ?_
 kernel_rfl
def za9 (m : Nat) : List AV → RO|[t0,t1]=>z9y m t0 t1|_=>none
theorem zl2 (m : Nat) : ∀ args X H',za9 m args = some (X,H') → ACp Try.prog GG 83 args X := by
 intro args X H' h
 unfold za9 at h
 split at h
 ·exact z0B MIX (by
  intro f e h
  simp only [z2y,Prod.mk.injEq,List.mem_cons,List.not_mem_nil,or_false] at h
  obtain ⟨rfl,rfl⟩ := h
  ·exact zqw m) (f := 83) (c := z7l) Try.func83 rfl (by kernel_rfl) _ rfl Try.ntmps83 (Nat.le_of_ble_eq_true rfl) wire_list_Cert_h h
 ·cases h
def zke : Code := (Try.f60.body).getD .skip
def zkl : Hint := (.two .n (.two .n .n))
def zgv (m : Nat) : Env := [(79, .tell (zdc m)),(80, .tell (z8B m)),(81, .tell (z6O m)),(83, .tell (za9 m))]
abbrev zms : KO (AV × List AObj) := z1L Try.prog [.tmp 2]
def zfV (m : Nat) (t0 : AV) : RO := zLa Try.prog GG (zgv m) m ⟨26,[]⟩ zke zkl ⟨[],z14 0 [t0]⟩ (zms)
theorem zo4 (m : Nat) (t0 : AV) : zfV m t0 =
 zN2 z00 [] t0 fun t1 H1 =>
 z02 (some (0,1)) t1 fun t3 =>
 z04 1 H1 t3 fun t4 =>
 z1D (zfs m (ro H1 t4)) [(ro H1 t4)] fun t5 =>
 z0o t5 (
  z02 (some (1,1)) t1 fun t7 =>
  z04 1 H1 t7 fun t8 =>
  z02 (some (2,1)) t1 fun t9 =>
  z04 1 H1 t9 fun t10 =>
  z02 (some (3,1)) t1 fun t11 =>
  z04 1 H1 t11 fun t12 =>
  z0O (some (z5v,1)) 3 [(0,t8),(1,t10),(2,t12)] fun t13 =>
  z1D (za1 m (ro H1 t13)) [(ro H1 t13)] fun t14 =>
  z0o t14 (
  z02 (some (4,1)) t1 fun t17 =>
  z04 1 H1 t17 fun t18 =>
  z1D (z7h m (ro H1 t18) (ro H1 (V (.func (.func 82) #[] #[])))) [(ro H1 t18),(ro H1 (V (.func (.func 82) #[] #[])))] fun t19 =>
  z0o t19 (
  z02 (some (5,1)) t1 fun t22 =>
  z04 1 H1 t22 fun t23 =>
  z1D (z9y m (ro H1 t23) (ro H1 (V (.func (.func 84) #[] #[])))) [(ro H1 t23),(ro H1 (V (.func (.func 84) #[] #[])))] fun t24 =>
  z1Z H1 (ro H1 t24)) (
  z1Z H1 (ro H1 (V (.bool false))))) (
  z1Z H1 (ro H1 (V (.bool false))))) (
  z1Z H1 (ro H1 (V (.bool false)))) := by
 refine (z8O _ _ _ _ _ _ _ _ _).trans ?_
 kernel_rfl
def zfD (m : Nat) : List AV → RO|[t0]=>zfV m t0|_=>none
theorem znR (m : Nat) : ∀ args X H',zfD m args = some (X,H') → ACp Try.prog GG 60 args X := by
 intro args X H' h
 unfold zfD at h
 split at h
 ·exact z0B MIX (by
  intro f e h
  simp only [zgv,Prod.mk.injEq,List.mem_cons,List.not_mem_nil,or_false] at h
  rcases h with ⟨rfl,rfl⟩|⟨rfl,rfl⟩|⟨rfl,rfl⟩|⟨rfl,rfl⟩
  ·exact zkB m
  ·exact zcK m
  ·exact ze4 m
  ·exact zl2 m) (f := 60) (c := zke) Try.func60 rfl (by kernel_rfl) _ rfl Try.ntmps60 (Nat.le_of_ble_eq_true rfl) zkl h
 ·cases h
end Go.Proofs.Ytaaogcnjfkgnoaa

namespace Go.Proofs.Ytaaogcnjfkgnoaa
open Go.RowKit
def z1Q : TypeId := 5
def z0v : TypeId := 124
def zj3 : List AV := [(V (.slice none 0 0))]
def ziA : List (Nat × Nat) := [(0,1)]
def z5d : Code := (Try.f85.body).getD .skip
def wire_writer_nums_h : Hint := (.two .n (.one (.lp [] [0,6,7,8] [] (.two .n (.two (.two .n .n) (.two (.one (.two .n .n)) .n))))))
def z3T (m : Nat) : Env := [(95, .add (z4W m))]
abbrev zaz (n0 : Nat) : KO (AV × List AObj) := z5e Try.prog n0 []
def zb3 (m : Nat) (s : ASt) (kc : ASt → RO) (kx : KO (AV × List AObj)) : RO := z8G Try.prog GG (z3T m) m ⟨24,[]⟩ (cdL (cdL (cdR z5d))) wire_writer_nums_h.r.c.c [0,6,7,8] [] s kc kx
def z1A (m : Nat) (t0 t1 : AV) (H : List AObj) : RO := zLa Try.prog GG (z3T m) m ⟨24,[]⟩ z5d wire_writer_nums_h ⟨H,z14 0 [t0,t1]⟩ (zaz H.length)
theorem zff (m : Nat) (H : List AObj) (t0 t6 t7 t8 : AV) (kc : ASt → RO) (kx : KO (AV × List AObj)) : zb3 m ⟨H,[(0,t0),(6,t6),(7,t7),(8,t8)]⟩ kc kx =
 zMe none false false .lss t8 t7 fun t9 =>
 z0o t9 (
  z3H 1 H t6 t8 fun t10 =>
  z04 1 H t10 fun t11 =>
  zMC t0 fun t14 =>
  z02 (some (0,1)) t14 fun t15 =>
  z04 1 H t15 fun t16 =>
  zsa false (some .u64) true false false (ro H t11) fun t18 =>
  zNA (z4W m [(ro H t18)] H.length) H fun t19 H2 =>
  zNh (some (z1Q,1)) H2 t16 t19 fun t20 H3 =>
  zMC t0 fun t21 =>
  z02 (some (0,1)) t21 fun t22 =>
  z0I 1 H3 t22 t20 fun H4 =>
  zMe none false false .add t8 (V (.int .i64 1)) fun t23 =>
  z7z H.length H4 [(0,t0),(6,t6),(7,t7),(8,t23)] kc) (
  kx (.exit 0) ⟨H,[]⟩) := by
 refine (z0F _ _ _ _ _ _ _ _ _ _ _ _).trans ?_
 kernel_rfl
theorem ziI (m : Nat) (t0 t1 : AV) (H : List AObj) : z1A m t0 t1 H =
 zLZ false true H t1 fun t7 =>
 z7c m (zb3 m) ⟨H,[(0,t0),(6,t1),(7,t7),(8,(V (.int .i64 0)))]⟩ (z0P 0 (zaz H.length)) := by
 refine (zhw Try.prog GG (z3T m) m ⟨24,[]⟩ H.length z5d wire_writer_nums_h ⟨H,z14 0 [t0,t1]⟩ []).trans ?_
 kernel_rfl
def z1m (m : Nat) : List AV → List AObj → RO|[t0,t1],H=>z1A m t0 t1 H|_,_=>none
theorem z28 (m : Nat) : ∀ args H X H',z1m m args H = some (X,H') → AC Try.prog GG 85 args H (Is X H') := by
 intro args H X H' h
 unfold z1m at h
 split at h
 ·exact z1p MIX (by
  intro f e h
  simp only [z3T,Prod.mk.injEq,List.mem_cons,List.not_mem_nil,or_false] at h
  obtain ⟨rfl,rfl⟩ := h
  ·exact zoZ m) (f := 85) (c := z5d) Try.func85 rfl (by kernel_rfl) _ rfl Try.ntmps85 (Nat.le_of_ble_eq_true rfl) wire_writer_nums_h h
 ·cases h
def z7C : Code := (Try.f96.body).getD .skip
def z7Q : Hint := (.two .n .n)
def z67 (m : Nat) : Env := [(85, .keep (z1m m))]
abbrev zhe (n0 : Nat) : KO (AV × List AObj) := z5e Try.prog n0 []
def z7a (m : Nat) (t0 t1 : AV) (H : List AObj) : RO := zLa Try.prog GG (z67 m) m ⟨18,[]⟩ z7C z7Q ⟨H,z14 0 [t0,t1]⟩ (zhe H.length)
theorem ziq (m : Nat) (t0 t1 : AV) (H : List AObj) : z7a m t0 t1 H =
 zLZ true false H t1 fun t6 =>
 z0O (some (z5v,1)) 1 [(0,t6)] fun t7 =>
 z4O (z1A m (ro H t0) (ro H t7) H) fun t8 H2 =>
 zMC t0 fun t11 =>
 z02 (some (0,1)) t11 fun t12 =>
 z04 1 H2 t12 fun t13 =>
 zxA (some (z1Q,1)) H2 t13 t1 fun t15 H3 =>
 zMC t0 fun t16 =>
 z02 (some (0,1)) t16 fun t17 =>
 z0I 1 H3 t17 t15 fun H4 =>
 z4f H.length H4 (ro H4 (TU [])) := by
 refine (zhw Try.prog GG (z67 m) m ⟨18,[]⟩ H.length z7C z7Q ⟨H,z14 0 [t0,t1]⟩ []).trans ?_
 kernel_rfl
def z86 (m : Nat) : List AV → List AObj → RO|[t0,t1],H=>z7a m t0 t1 H|_,_=>none
theorem zhU (m : Nat) : ∀ args H X H',z86 m args H = some (X,H') → AC Try.prog GG 96 args H (Is X H') := by
 intro args H X H' h
 unfold z86 at h
 split at h
 ·exact z1p MIX (by
  intro f e h
  simp only [z67,Prod.mk.injEq,List.mem_cons,List.not_mem_nil,or_false] at h
  obtain ⟨rfl,rfl⟩ := h
  ·exact z28 m) (f := 96) (c := z7C) Try.func96 rfl (by kernel_rfl) _ rfl Try.ntmps96 (Nat.le_of_ble_eq_true rfl) z7Q h
 ·cases h
def z80 : Code := (Try.f87.body).getD .skip
def z7X : Hint := (.two .n .n)
def z6b (m : Nat) : Env := [(85, .keep (z1m m))]
abbrev zhu (n0 : Nat) : KO (AV × List AObj) := z5e Try.prog n0 []
def z6L (m : Nat) (t0 t1 : AV) (H : List AObj) : RO := zLa Try.prog GG (z6b m) m ⟨17,[]⟩ z80 z7X ⟨H,z14 0 [t0,t1]⟩ (zhu H.length)
theorem ziT (m : Nat) (t0 t1 : AV) (H : List AObj) : z6L m t0 t1 H =
 zN2 z01 H t1 fun t3 H2 =>
 z02 (some (0,1)) t3 fun t5 =>
 z04 1 H2 t5 fun t6 =>
 z02 (some (1,1)) t3 fun t7 =>
 z04 1 H2 t7 fun t8 =>
 z02 (some (2,1)) t3 fun t9 =>
 z04 1 H2 t9 fun t10 =>
 z02 (some (3,1)) t3 fun t11 =>
 z04 1 H2 t11 fun t12 =>
 z02 (some (4,1)) t3 fun t13 =>
 z04 1 H2 t13 fun t14 =>
 z0O (some (z5v,1)) 5 [(0,t6),(1,t8),(2,t10),(3,t12),(4,t14)] fun t15 =>
 z4O (z1A m (ro H2 t0) (ro H2 t15) H2) fun t16 H3 =>
 z4f H.length H3 (ro H3 (TU [])) := by
 refine (zhw Try.prog GG (z6b m) m ⟨17,[]⟩ H.length z80 z7X ⟨H,z14 0 [t0,t1]⟩ []).trans ?_
 kernel_rfl
def z3A (m : Nat) : List AV → List AObj → RO|[t0,t1],H=>z6L m t0 t1 H|_,_=>none
theorem zio (m : Nat) : ∀ args H X H',z3A m args H = some (X,H') → AC Try.prog GG 87 args H (Is X H') := by
 intro args H X H' h
 unfold z3A at h
 split at h
 ·exact z1p MIX (by
  intro f e h
  simp only [z6b,Prod.mk.injEq,List.mem_cons,List.not_mem_nil,or_false] at h
  obtain ⟨rfl,rfl⟩ := h
  ·exact z28 m) (f := 87) (c := z80) Try.func87 rfl (by kernel_rfl) _ rfl Try.ntmps87 (Nat.le_of_ble_eq_true rfl) z7X h
 ·cases h
def z7b : Code := (Try.f86.body).getD .skip
def wire_each_Stmt_h : Hint := (.two .n (.two .n (.one (.lp [] [2,13,14,15] [] (.two .n (.two (.two .n .n) (.two (.one (.two .n .n)) .n)))))))
def z2v (m : Nat) : Env := [(85, .keep (z1m m)),(87, .keep (z3A m))]
abbrev zbX (n0 : Nat) : KO (AV × List AObj) := z5e Try.prog n0 []
def zeu (m : Nat) (s : ASt) (kc : ASt → RO) (kx : KO (AV × List AObj)) : RO := z8G Try.prog GG (z2v m) m ⟨23,[]⟩ (cdL (cdL (cdR (cdR z7b)))) wire_each_Stmt_h.r.r.c.c [2,13,14,15] [] s kc kx
def z7i (m : Nat) (t0 t1 t2 : AV) (H : List AObj) : RO := zLa Try.prog GG (z2v m) m ⟨23,[]⟩ z7b wire_each_Stmt_h ⟨H,z14 0 [t0,t1,t2]⟩ (zbX H.length)
theorem zhv (m : Nat) (H : List AObj) (t2 t13 t14 t15 : AV) (kc : ASt → RO) (kx : KO (AV × List AObj)) : zeu m ⟨H,[(2,t2),(13,t13),(14,t14),(15,t15)]⟩ kc kx =
 zMe none false false .lss t15 t14 fun t16 =>
 z0o t16 (
  z3H 7 H t13 t15 fun t17 =>
  z04 7 H t17 fun t18 =>
  z2f (some zc_api_Stmt) z01 H fun t7 H2 =>
  z0I 7 H2 t7 t18 fun H3 =>
  z04 7 H3 t7 fun t20 =>
  zfn (z2v m) t2 [t20] H3 fun t21 H4 =>
  zMe none false false .add t15 (V (.int .i64 1)) fun t22 =>
  z7z H.length H4 [(2,t2),(13,t13),(14,t14),(15,t22)] kc) (
  kx (.exit 0) ⟨H,[]⟩) := by
 refine (z0F _ _ _ _ _ _ _ _ _ _ _ _).trans ?_
 kernel_rfl
theorem zl5 (m : Nat) (t0 t1 t2 : AV) (H : List AObj) : z7i m t0 t1 t2 H =
 zLZ false true H t1 fun t10 =>
 z0O (some (z5v,1)) 1 [(0,t10)] fun t11 =>
 z4O (z1A m (ro H t0) (ro H t11) H) fun t12 H2 =>
 zLZ false true H2 t1 fun t14 =>
 z7c m (zeu m) ⟨H2,[(2,t2),(13,t1),(14,t14),(15,(V (.int .i64 0)))]⟩ (z0P 0 (zbX H.length)) := by
 refine (zhw Try.prog GG (z2v m) m ⟨23,[]⟩ H.length z7b wire_each_Stmt_h ⟨H,z14 0 [t0,t1,t2]⟩ []).trans ?_
 kernel_rfl
def z7r (m : Nat) : List AV → List AObj → RO|[t0,t1,t2],H=>z7i m t0 t1 t2 H|_,_=>none
theorem ze7 (m : Nat) : ∀ args H X H',z7r m args H = some (X,H') → AC Try.prog GG 86 args H (Is X H') := by
 intro args H X H' h
 unfold z7r at h
 split at h
 ·exact z1p MIX (by
  intro f e h
  simp only [z2v,Prod.mk.injEq,List.mem_cons,List.not_mem_nil,or_false] at h
  rcases h with ⟨rfl,rfl⟩|⟨rfl,rfl⟩
  ·exact z28 m
  ·exact zio m) (f := 86) (c := z7b) Try.func86 rfl (by kernel_rfl) _ rfl Try.ntmps86 (Nat.le_of_ble_eq_true rfl) wire_each_Stmt_h h
 ·cases h
def z84 : Code := (Try.f89.body).getD .skip
def z81 : Hint := (.two .n (.two .n (.two .n .n)))
def z62 (m : Nat) : Env := [(85, .keep (z1m m)),(96, .keep (z86 m)),(86, .keep (z7r m))]
abbrev zhs (n0 : Nat) : KO (AV × List AObj) := z5e Try.prog n0 []
def z6F (m : Nat) (t0 t1 : AV) (H : List AObj) : RO := zLa Try.prog GG (z62 m) m ⟨23,[]⟩ z84 z81 ⟨H,z14 0 [t0,t1]⟩ (zhs H.length)
theorem zhI (m : Nat) (t0 t1 : AV) (H : List AObj) : z6F m t0 t1 H =
 zN2 z07 H t1 fun t3 H2 =>
 z02 (some (0,1)) t3 fun t5 =>
 z04 1 H2 t5 fun t6 =>
 z02 (some (1,1)) t3 fun t7 =>
 z04 1 H2 t7 fun t8 =>
 z02 (some (2,1)) t3 fun t9 =>
 z04 1 H2 t9 fun t10 =>
 z0O (some (z5v,1)) 3 [(0,t6),(1,t8),(2,t10)] fun t11 =>
 z4O (z1A m (ro H2 t0) (ro H2 t11) H2) fun t12 H3 =>
 z02 (some (3,1)) t3 fun t14 =>
 z04 1 H3 t14 fun t15 =>
 z4O (z7a m (ro H3 t0) (ro H3 t15) H3) fun t16 H4 =>
 z02 (some (4,1)) t3 fun t18 =>
 z04 1 H4 t18 fun t19 =>
 z0C (([t0] : List AV).all zLj) (
 z4O (z7i m (ro H4 t0) (ro H4 t19) (ro H4 (CL (.func 87) 1 [t0])) H4) fun t22 H5 =>
 z4f H.length H5 (ro H5 (TU []))) := by
 refine (zhw Try.prog GG (z62 m) m ⟨23,[]⟩ H.length z84 z81 ⟨H,z14 0 [t0,t1]⟩ []).trans ?_
 kernel_rfl
def z3F (m : Nat) : List AV → List AObj → RO|[t0,t1],H=>z6F m t0 t1 H|_,_=>none
theorem zj2 (m : Nat) : ∀ args H X H',z3F m args H = some (X,H') → AC Try.prog GG 89 args H (Is X H') := by
 intro args H X H' h
 unfold z3F at h
 split at h
 ·exact z1p MIX (by
  intro f e h
  simp only [z62,Prod.mk.injEq,List.mem_cons,List.not_mem_nil,or_false] at h
  rcases h with ⟨rfl,rfl⟩|⟨rfl,rfl⟩|⟨rfl,rfl⟩
  ·exact z28 m
  ·exact zhU m
  ·exact ze7 m) (f := 89) (c := z84) Try.func89 rfl (by kernel_rfl) _ rfl Try.ntmps89 (Nat.le_of_ble_eq_true rfl) z81 h
 ·cases h
def z78 : Code := (Try.f88.body).getD .skip
def wire_each_Cert_h : Hint := (.two .n (.two .n (.one (.lp [] [2,13,14,15] [] (.two .n (.two (.two .n .n) (.two (.one (.two .n .n)) .n)))))))
def z2x (m : Nat) : Env := [(85, .keep (z1m m)),(89, .keep (z3F m))]
abbrev zc6 (n0 : Nat) : KO (AV × List AObj) := z5e Try.prog n0 []
def ze5 (m : Nat) (s : ASt) (kc : ASt → RO) (kx : KO (AV × List AObj)) : RO := z8G Try.prog GG (z2x m) m ⟨23,[]⟩ (cdL (cdL (cdR (cdR z78)))) wire_each_Cert_h.r.r.c.c [2,13,14,15] [] s kc kx
def z9x (m : Nat) (t0 t1 t2 : AV) (H : List AObj) : RO := zLa Try.prog GG (z2x m) m ⟨23,[]⟩ z78 wire_each_Cert_h ⟨H,z14 0 [t0,t1,t2]⟩ (zc6 H.length)
theorem zhm (m : Nat) (H : List AObj) (t2 t13 t14 t15 : AV) (kc : ASt → RO) (kx : KO (AV × List AObj)) : ze5 m ⟨H,[(2,t2),(13,t13),(14,t14),(15,t15)]⟩ kc kx =
 zMe none false false .lss t15 t14 fun t16 =>
 z0o t16 (
  z3H 7 H t13 t15 fun t17 =>
  z04 7 H t17 fun t18 =>
  z2f (some zc_api_Cert) z07 H fun t7 H2 =>
  z0I 7 H2 t7 t18 fun H3 =>
  z04 7 H3 t7 fun t20 =>
  zfn (z2x m) t2 [t20] H3 fun t21 H4 =>
  zMe none false false .add t15 (V (.int .i64 1)) fun t22 =>
  z7z H.length H4 [(2,t2),(13,t13),(14,t14),(15,t22)] kc) (
  kx (.exit 0) ⟨H,[]⟩) := by
 refine (z0F _ _ _ _ _ _ _ _ _ _ _ _).trans ?_
 kernel_rfl
theorem zkO (m : Nat) (t0 t1 t2 : AV) (H : List AObj) : z9x m t0 t1 t2 H =
 zLZ false true H t1 fun t10 =>
 z0O (some (z5v,1)) 1 [(0,t10)] fun t11 =>
 z4O (z1A m (ro H t0) (ro H t11) H) fun t12 H2 =>
 zLZ false true H2 t1 fun t14 =>
 z7c m (ze5 m) ⟨H2,[(2,t2),(13,t1),(14,t14),(15,(V (.int .i64 0)))]⟩ (z0P 0 (zc6 H.length)) := by
 refine (zhw Try.prog GG (z2x m) m ⟨23,[]⟩ H.length z78 wire_each_Cert_h ⟨H,z14 0 [t0,t1,t2]⟩ []).trans ?_
 kernel_rfl
def zaC (m : Nat) : List AV → List AObj → RO|[t0,t1,t2],H=>z9x m t0 t1 t2 H|_,_=>none
theorem zkU (m : Nat) : ∀ args H X H',zaC m args H = some (X,H') → AC Try.prog GG 88 args H (Is X H') := by
 intro args H X H' h
 unfold zaC at h
 split at h
 ·exact z1p MIX (by
  intro f e h
  simp only [z2x,Prod.mk.injEq,List.mem_cons,List.not_mem_nil,or_false] at h
  rcases h with ⟨rfl,rfl⟩|⟨rfl,rfl⟩
  ·exact z28 m
  ·exact zj2 m) (f := 88) (c := z78) Try.func88 rfl (by kernel_rfl) _ rfl Try.ntmps88 (Nat.le_of_ble_eq_true rfl) wire_each_Cert_h h
 ·cases h
def z6a : Code := (Try.f61.body).getD .skip
def z66 : Hint := (.two .n (.two .n (.two .n .n)))
def z4X (m : Nat) : Env := [(85, .keep (z1m m)),(86, .keep (z7r m)),(88, .keep (zaC m))]
abbrev zf2 (n0 : Nat) : KO (AV × List AObj) := z5e Try.prog n0 []
def z5c (m : Nat) (t0 t1 : AV) (H : List AObj) : RO := zLa Try.prog GG (z4X m) m ⟨27,[]⟩ z6a z66 ⟨H,z14 0 [t0,t1]⟩ (zf2 H.length)
theorem zge (m : Nat) (t0 t1 : AV) (H : List AObj) : z5c m t0 t1 H =
 zN2 z00 H t1 fun t3 H2 =>
 z02 (some (0,1)) t3 fun t5 =>
 z04 1 H2 t5 fun t6 =>
 z02 (some (1,1)) t3 fun t7 =>
 z04 1 H2 t7 fun t8 =>
 z02 (some (2,1)) t3 fun t9 =>
 z04 1 H2 t9 fun t10 =>
 z02 (some (3,1)) t3 fun t11 =>
 z04 1 H2 t11 fun t12 =>
 z0O (some (z5v,1)) 4 [(0,t6),(1,t8),(2,t10),(3,t12)] fun t13 =>
 z4O (z1A m (ro H2 t0) (ro H2 t13) H2) fun t14 H3 =>
 z02 (some (4,1)) t3 fun t16 =>
 z04 1 H3 t16 fun t17 =>
 z0C (([t0] : List AV).all zLj) (
 z4O (z7i m (ro H3 t0) (ro H3 t17) (ro H3 (CL (.func 87) 1 [t0])) H3) fun t20 H4 =>
 z02 (some (5,1)) t3 fun t22 =>
 z04 1 H4 t22 fun t23 =>
 z0C (([t0] : List AV).all zLj) (
 z4O (z9x m (ro H4 t0) (ro H4 t23) (ro H4 (CL (.func 89) 1 [t0])) H4) fun t26 H5 =>
 z4f H.length H5 (ro H5 (TU [])))) := by
 refine (zhw Try.prog GG (z4X m) m ⟨27,[]⟩ H.length z6a z66 ⟨H,z14 0 [t0,t1]⟩ []).trans ?_
 kernel_rfl
def z63 (m : Nat) : List AV → List AObj → RO|[t0,t1],H=>z5c m t0 t1 H|_,_=>none
theorem zg9 (m : Nat) : ∀ args H X H',z63 m args H = some (X,H') → AC Try.prog GG 61 args H (Is X H') := by
 intro args H X H' h
 unfold z63 at h
 split at h
 ·exact z1p MIX (by
  intro f e h
  simp only [z4X,Prod.mk.injEq,List.mem_cons,List.not_mem_nil,or_false] at h
  rcases h with ⟨rfl,rfl⟩|⟨rfl,rfl⟩|⟨rfl,rfl⟩
  ·exact z28 m
  ·exact ze7 m
  ·exact zkU m) (f := 61) (c := z6a) Try.func61 rfl (by kernel_rfl) _ rfl Try.ntmps61 (Nat.le_of_ble_eq_true rfl) z66 h
 ·cases h
def z6X : Code := (Try.f33.body).getD .skip
def wire_EncodeChange_h : Hint := (.two .n (.two (.two .n (.two (.two .n .n) .n)) (.gh (3,0,z1Q,1) [1,3] .n (.two .n (.two .n .n)))))
def z5z (m : Nat) : Env := [(60, .tell (zfD m)),(61, .keep (z63 m))]
abbrev z99 : KO (AV × List AObj) := z1L Try.prog [.tmp 2]
def zap (m : Nat) (s : ASt) : RO := z11 Try.prog GG (z5z m) m ⟨16,[]⟩ (cdR (cdR (cdR z6X))) wire_EncodeChange_h.r.r.r s (z99)
def z32 (m : Nat) (t0 : AV) : RO := zLa Try.prog GG (z5z m) m ⟨16,[]⟩ z6X wire_EncodeChange_h ⟨[],z14 0 [t0]⟩ (z99)
theorem zeI (m : Nat) (H : List AObj) (t1 t3 : AV) : zap m ⟨H,[(1,t1),(3,t3)]⟩ =
 z04 8 H t1 fun t10 =>
 z4O (z5c m (ro H t3) (ro H t10) H) fun t11 H2 =>
 zMC t3 fun t13 =>
 z02 (some (0,1)) t13 fun t14 =>
 z04 1 H2 t14 fun t15 =>
 z1Z H2 (ro H2 t15) := by
 refine (z03 _ _ _ _ _ _ _ _ _).trans ?_
 kernel_rfl
theorem zhr (m : Nat) (t0 : AV) : z32 m t0 =
 zN2 z00 [] t0 fun t1 H1 =>
 z04 8 H1 t1 fun t4 =>
 z1D (zfV m (ro H1 t4)) [(ro H1 t4)] fun t5 =>
 unE .not t5 fun t6 =>
 z0o t6 (
  z1Z H1 (ro H1 (V (.slice none 0 0)))) (
  z1F (some ziA) (some zj3) [] fun t7 =>
  zN2 z0v H1 t7 fun t8 H2 =>
  zap m (ghS 3 0 z1Q 1 ⟨H2,[(1,t1),(3,t8)]⟩)) := by
 refine (z8O _ _ _ _ _ _ _ _ _).trans ?_
 kernel_rfl
def z3b (m : Nat) : List AV → RO|[t0]=>z32 m t0|_=>none
theorem z68 (m : Nat) : ∀ args X H',z3b m args = some (X,H') → ACp Try.prog GG 33 args X := by
 intro args X H' h
 unfold z3b at h
 split at h
 ·exact z0B MIX (by
  intro f e h
  simp only [z5z,Prod.mk.injEq,List.mem_cons,List.not_mem_nil,or_false] at h
  rcases h with ⟨rfl,rfl⟩|⟨rfl,rfl⟩
  ·exact znR m
  ·exact zg9 m) (f := 33) (c := z6X) Try.func33 rfl (by kernel_rfl) _ rfl Try.ntmps33 (Nat.le_of_ble_eq_true rfl) wire_EncodeChange_h h
 ·cases h
end Go.Proofs.Ytaaogcnjfkgnoaa

namespace Go.Proofs.Ytaaogcnjfkgnoaa
open Go.RowKit
def z0t : TypeId := 65
def zc_api_Change : List AV := [(V (.int .i64 0)),(V (.int .i64 0)),(V (.int .i64 0)),(V (.int .i64 0)),(V (.slice none 0 0)),(V (.slice none 0 0))]
def zc_api_Msg : List AV := [(V (.int .i64 0)),(V (.int .i64 0)),(V (.int .i64 0)),(V (.int .i64 0)),(V (.int .i64 0)),(V (.string ⟨#[]⟩)),(V (.slice none 0 0)),(V (.slice none 0 0))]
def zeO : Code := (Try.f69.body).getD .skip
def zfF : Hint := (.two .n (.two .n .n))
def zjL (m : Nat) : Env := []
abbrev zk1 : KO (AV × List AObj) := z1L Try.prog [.tmp 4]
def z56 (m : Nat) (t0 t1 : AV) : RO := zLa Try.prog GG (zjL m) m ⟨12,[]⟩ zeO zfF ⟨[],z14 0 [t0,t1]⟩ (zk1)
theorem zef (m : Nat) (t0 t1 : AV) : z56 m t0 t1 =
 zMe none false false .leq (V (.int .i64 0)) t0 fun t6 =>
 z0o t6 (
  zMe none false false .leq t0 t1 fun t10 =>
  z1Z [] (ro [] t10)) (
  z1Z [] (ro [] (V (.bool false)))) := by
 refine (z8O _ _ _ _ _ _ _ _ _).trans ?_
 kernel_rfl
def z4H (m : Nat) : List AV → RO|[t0,t1]=>z56 m t0 t1|_=>none
theorem z8U (m : Nat) : ∀ args X H',z4H m args = some (X,H') → ACp Try.prog GG 69 args X := by
 intro args X H' h
 unfold z4H at h
 split at h
 ·exact z0B MIX (by intro f e h;cases h) (f := 69) (c := zeO) Try.func69 rfl (by kernel_rfl) _ rfl Try.ntmps69 (Nat.le_of_ble_eq_true rfl) zfF h
 ·cases h
def zek : Code := (Try.f70.body).getD .skip
def zes : Hint := (.two .n (.two .n .n))
def zaK (m : Nat) : Env := [(69, .tell (z4H m))]
abbrev zi0 : KO (AV × List AObj) := z1L Try.prog [.tmp 2]
def z0T (m : Nat) (t0 : AV) : RO := zLa Try.prog GG (zaK m) m ⟨5,[]⟩ zek zes ⟨[],z14 0 [t0]⟩ (zi0)
theorem zjS (m : Nat) (t0 : AV) : z0T m t0 =
 z1D (z56 m (ro [] t0) (V (.int .i64 2147483647))) [(ro [] t0),(V (.int .i64 2147483647))] fun t4 =>
 z1Z [] (ro [] t4) := by
 refine (z8O _ _ _ _ _ _ _ _ _).trans ?_
 kernel_rfl
def z5S (m : Nat) : List AV → RO|[t0]=>z0T m t0|_=>none
theorem zc8 (m : Nat) : ∀ args X H',z5S m args = some (X,H') → ACp Try.prog GG 70 args X := by
 intro args X H' h
 unfold z5S at h
 split at h
 ·exact z0B MIX (by
  intro f e h
  simp only [zaK,Prod.mk.injEq,List.mem_cons,List.not_mem_nil,or_false] at h
  obtain ⟨rfl,rfl⟩ := h
  ·exact z8U m) (f := 70) (c := zek) Try.func70 rfl (by kernel_rfl) _ rfl Try.ntmps70 (Nat.le_of_ble_eq_true rfl) zes h
 ·cases h
def z29 : Code := (Try.f71.body).getD .skip
def plenumref28_stmts_h : Hint := (.two .n (.join [0] (.two .n (.one (.lp [] [0,3] [0,2] (.two (.two .n (.two .n .n)) (.join [0,3] (.one (.join [0,3,52] .n (.two (.two .n .n) .n))) .n))))) (.two .n .n)))
def z1B (m : Nat) : Env := [(69, .tell (z4H m)),(70, .tell (z5S m))]
abbrev z5D : KO (AV × List AObj) := z1L Try.prog [.tmp 2]
def z61 (m : Nat) (n0 : Nat) (kc : ASt → RO) (kx : KO (AV × List AObj)) (s : ASt) : RO := z11 Try.prog GG (z1B m) m ⟨56,[]⟩ (cdR (cdR (cdL (cdL (cdR (cdL (cdR z29))))))) plenumref28_stmts_h.r.l.r.c.c.r.r s (z5s n0 [0,3] [0,2] kc kx)
def z1O (m : Nat) (n0 : Nat) (kc : ASt → RO) (kx : KO (AV × List AObj)) (s : ASt) : RO := z11 Try.prog GG (z1B m) m ⟨56,[]⟩ (cdR (cdL (cdL (cdR (cdL (cdL (cdR (cdL (cdR z29))))))))) plenumref28_stmts_h.r.l.r.c.c.r.l.c.r s (z0P 1 (zM3 (fun s=>z61 m n0 kc kx ⟨s.H,[(0,gt s.T 0),(3,gt s.T 3)]⟩) (z5s n0 [0,3] [0,2] kc kx)))
def zal (m : Nat) (s : ASt) : RO := z11 Try.prog GG (z1B m) m ⟨56,[]⟩ (cdR (cdR z29)) plenumref28_stmts_h.r.r s (z5D)
def zaB (m : Nat) (s : ASt) (kc : ASt → RO) (kx : KO (AV × List AObj)) : RO := z8G Try.prog GG (z1B m) m ⟨56,[]⟩ (cdL (cdL (cdR (cdL (cdR z29))))) plenumref28_stmts_h.r.l.r.c.c [0,3] [0,2] s kc kx
def z47 (m : Nat) (t0 : AV) : RO := zLa Try.prog GG (z1B m) m ⟨56,[]⟩ z29 plenumref28_stmts_h ⟨[],z14 0 [t0]⟩ (z5D)
theorem z0W (m : Nat) (n0 : Nat) (kc : ASt → RO) (kx : KO (AV × List AObj)) (H : List AObj) (t0 t3 : AV) : z61 m n0 kc kx ⟨H,[(0,t0),(3,t3)]⟩ =
 zMe none false false .add t3 (V (.int .i64 1)) fun t9 =>
 z7z n0 H [(0,t0),(3,t9)] kc := by
 refine (z03 _ _ _ _ _ _ _ _ _).trans ?_
 kernel_rfl
theorem z0X (m : Nat) (n0 : Nat) (kc : ASt → RO) (kx : KO (AV × List AObj)) (H : List AObj) (t0 t3 t52 : AV) : z1O m n0 kc kx ⟨H,[(0,t0),(3,t3),(52,t52)]⟩ =
 z0o t52 (
  kx .ret ⟨H,[(0,t0),(2,(V (.bool false)))]⟩) (
  z61 m n0 kc kx ⟨H,[(0,t0),(3,t3)]⟩) := by
 refine (z03 _ _ _ _ _ _ _ _ _).trans ?_
 kernel_rfl
theorem z0Y (m : Nat) (H : List AObj) (t0 : AV) : zal m ⟨H,[(0,t0)]⟩ =
 zLZ false true H t0 fun t54 =>
 zMe none false false .leq t54 (V (.int .i64 64)) fun t55 =>
 z1Z H (ro H t55) := by
 refine (z03 _ _ _ _ _ _ _ _ _).trans ?_
 kernel_rfl
theorem zeF (m : Nat) (H : List AObj) (t0 t3 : AV) (kc : ASt → RO) (kx : KO (AV × List AObj)) : zaB m ⟨H,[(0,t0),(3,t3)]⟩ kc kx =
 zLZ false true H t0 fun t6 =>
 zMe none false false .lss t3 t6 fun t7 =>
 z0o t7 (
  z3H 7 H t0 t3 fun t12 =>
  z02 (some (0,1)) t12 fun t13 =>
  z04 1 H t13 fun t14 =>
  z1D (z56 m (ro H t14) (V (.int .i64 63))) [(ro H t14),(V (.int .i64 63))] fun t15 =>
  unE .not t15 fun t16 =>
  z0o t16 (
   z1O m H.length kc kx ⟨H,[(0,t0),(3,t3),(52,(V (.bool true)))]⟩) (
   z3H 7 H t0 t3 fun t20 =>
   z02 (some (1,1)) t20 fun t21 =>
   z04 1 H t21 fun t22 =>
   z1D (z0T m (ro H t22)) [(ro H t22)] fun t23 =>
   unE .not t23 fun t24 =>
   z0o t24 (
   z1O m H.length kc kx ⟨H,[(0,t0),(3,t3),(52,(V (.bool true)))]⟩) (
   z3H 7 H t0 t3 fun t29 =>
   z02 (some (2,1)) t29 fun t30 =>
   z04 1 H t30 fun t31 =>
   z1D (z0T m (ro H t31)) [(ro H t31)] fun t32 =>
   unE .not t32 fun t33 =>
   z0o t33 (
   z1O m H.length kc kx ⟨H,[(0,t0),(3,t3),(52,(V (.bool true)))]⟩) (
   z3H 7 H t0 t3 fun t38 =>
   z02 (some (3,1)) t38 fun t39 =>
   z04 1 H t39 fun t40 =>
   z1D (z0T m (ro H t40)) [(ro H t40)] fun t41 =>
   unE .not t41 fun t42 =>
   z0o t42 (
   z1O m H.length kc kx ⟨H,[(0,t0),(3,t3),(52,(V (.bool true)))]⟩) (
   z3H 7 H t0 t3 fun t47 =>
   z02 (some (4,1)) t47 fun t48 =>
   z04 1 H t48 fun t49 =>
   z1D (z0T m (ro H t49)) [(ro H t49)] fun t50 =>
   unE .not t50 fun t51 =>
   z1O m H.length kc kx ⟨H,[(0,t0),(3,t3),(52,t51)]⟩))))) (
  kx (.exit 0) ⟨H,[(0,t0),(2, .nil)]⟩) := by
 refine (z0F _ _ _ _ _ _ _ _ _ _ _ _).trans ?_
 kernel_rfl
theorem zh2 (m : Nat) (t0 : AV) : z47 m t0 =
 z7c m (zaB m) ⟨[],[(0,t0),(3,(V (.int .i64 0)))]⟩ (z0P 0 (zM3 (fun s=>zal m ⟨s.H,[(0,gt s.T 0)]⟩) (z5D))) := by
 refine (z8O _ _ _ _ _ _ _ _ _).trans ?_
 kernel_rfl
def z7j (m : Nat) : List AV → RO|[t0]=>z47 m t0|_=>none
theorem zh0 (m : Nat) : ∀ args X H',z7j m args = some (X,H') → ACp Try.prog GG 71 args X := by
 intro args X H' h
 unfold z7j at h
 split at h
 ·exact z0B MIX (by
  intro f e h
  simp only [z1B,Prod.mk.injEq,List.mem_cons,List.not_mem_nil,or_false] at h
  rcases h with ⟨rfl,rfl⟩|⟨rfl,rfl⟩
  ·exact z8U m
  ·exact zc8 m) (f := 71) (c := z29) Try.func71 rfl (by kernel_rfl) _ rfl Try.ntmps71 (Nat.le_of_ble_eq_true rfl) plenumref28_stmts_h h
 ·cases h
def z15 : Code := (Try.f47.body).getD .skip
def plenumref28_Change_h : Hint := (.two .n (.join [1] (.join [1,38] .n (.two (.two .n .n) .n)) (.join [] (.two .n (.one (.lp [] [1,3] [2] (.two (.two .n (.two .n .n)) (.join [1,3] (.one (.two .n (.join [1,3,78] .n (.two (.two .n .n) .n)))) .n))))) (.two .n .n))))
def z0Q (m : Nat) : Env := [(69, .tell (z4H m)),(70, .tell (z5S m)),(71, .tell (z7j m))]
abbrev z24 : KO (AV × List AObj) := z1L Try.prog [.tmp 2]
def z5B (m : Nat) (n0 : Nat) (kc : ASt → RO) (kx : KO (AV × List AObj)) (s : ASt) : RO := z11 Try.prog GG (z0Q m) m ⟨79,[]⟩ (cdR (cdR (cdL (cdL (cdR (cdL (cdR (cdR z15)))))))) plenumref28_Change_h.r.r.l.r.c.c.r.r s (z5s n0 [1,3] [2] kc kx)
def z1C (m : Nat) (n0 : Nat) (kc : ASt → RO) (kx : KO (AV × List AObj)) (s : ASt) : RO := z11 Try.prog GG (z0Q m) m ⟨79,[]⟩ (cdR (cdR (cdL (cdL (cdR (cdL (cdL (cdR (cdL (cdR (cdR z15))))))))))) plenumref28_Change_h.r.r.l.r.c.c.r.l.c.r.r s (z0P 1 (zM3 (fun s=>z5B m n0 kc kx ⟨s.H,[(1,gt s.T 1),(3,gt s.T 3)]⟩) (z5s n0 [1,3] [2] kc kx)))
def z9d (m : Nat) (s : ASt) : RO := z11 Try.prog GG (z0Q m) m ⟨79,[]⟩ (cdR (cdR (cdR z15))) plenumref28_Change_h.r.r.r s (z24)
def z9l (m : Nat) (s : ASt) (kc : ASt → RO) (kx : KO (AV × List AObj)) : RO := z8G Try.prog GG (z0Q m) m ⟨79,[]⟩ (cdL (cdL (cdR (cdL (cdR (cdR z15)))))) plenumref28_Change_h.r.r.l.r.c.c [1,3] [2] s kc kx
def z5A (m : Nat) (s : ASt) : RO := z11 Try.prog GG (z0Q m) m ⟨79,[]⟩ (cdR (cdR z15)) plenumref28_Change_h.r.r s (z24)
def z1b (m : Nat) (s : ASt) : RO := z11 Try.prog GG (z0Q m) m ⟨79,[]⟩ (cdR (cdL (cdR z15))) plenumref28_Change_h.r.l.r s (zM3 (fun s=>z5A m ⟨s.H,[(1,gt s.T 1)]⟩) (z24))
def z1S (m : Nat) (t0 : AV) : RO := zLa Try.prog GG (z0Q m) m ⟨79,[]⟩ z15 plenumref28_Change_h ⟨[],z14 0 [t0]⟩ (z24)
theorem z0h (m : Nat) (n0 : Nat) (kc : ASt → RO) (kx : KO (AV × List AObj)) (H : List AObj) (t1 t3 : AV) : z5B m n0 kc kx ⟨H,[(1,t1),(3,t3)]⟩ =
 zMe none false false .add t3 (V (.int .i64 1)) fun t45 =>
 z7z n0 H [(1,t1),(3,t45)] kc := by
 refine (z03 _ _ _ _ _ _ _ _ _).trans ?_
 kernel_rfl
theorem z0f (m : Nat) (n0 : Nat) (kc : ASt → RO) (kx : KO (AV × List AObj)) (H : List AObj) (t1 t3 t78 : AV) : z1C m n0 kc kx ⟨H,[(1,t1),(3,t3),(78,t78)]⟩ =
 z0o t78 (
  kx .ret ⟨H,[(2,(V (.bool false)))]⟩) (
  z5B m n0 kc kx ⟨H,[(1,t1),(3,t3)]⟩) := by
 refine (z03 _ _ _ _ _ _ _ _ _).trans ?_
 kernel_rfl
theorem z0i (m : Nat) (H : List AObj) : z9d m ⟨H,[]⟩ =
 z1Z H (ro H (V (.bool true))) := by
 refine (z03 _ _ _ _ _ _ _ _ _).trans ?_
 kernel_rfl
theorem zcZ (m : Nat) (H : List AObj) (t1 t3 : AV) (kc : ASt → RO) (kx : KO (AV × List AObj)) : z9l m ⟨H,[(1,t1),(3,t3)]⟩ kc kx =
 z02 (some (5,1)) t1 fun t40 =>
 z04 1 H t40 fun t41 =>
 zLZ false true H t41 fun t42 =>
 zMe none false false .lss t3 t42 fun t43 =>
 z0o t43 (
  z02 (some (5,1)) t1 fun t46 =>
  z04 1 H t46 fun t47 =>
  z3H 7 H t47 t3 fun t49 =>
  z04 7 H t49 fun t50 =>
  z2f (some zc_api_Cert) z07 H fun t4 H2 =>
  z0I 7 H2 t4 t50 fun H3 =>
  z02 (some (0,1)) t4 fun t51 =>
  z04 1 H3 t51 fun t52 =>
  z1D (z0T m (ro H3 t52)) [(ro H3 t52)] fun t53 =>
  unE .not t53 fun t54 =>
  z0o t54 (
   z1C m H.length kc kx ⟨H3,[(1,t1),(3,t3),(78,(V (.bool true)))]⟩) (
   z02 (some (1,1)) t4 fun t56 =>
   z04 1 H3 t56 fun t57 =>
   z1D (z0T m (ro H3 t57)) [(ro H3 t57)] fun t58 =>
   unE .not t58 fun t59 =>
   z0o t59 (
   z1C m H.length kc kx ⟨H3,[(1,t1),(3,t3),(78,(V (.bool true)))]⟩) (
   z02 (some (2,1)) t4 fun t62 =>
   z04 1 H3 t62 fun t63 =>
   z1D (z0T m (ro H3 t63)) [(ro H3 t63)] fun t64 =>
   unE .not t64 fun t65 =>
   z0o t65 (
   z1C m H.length kc kx ⟨H3,[(1,t1),(3,t3),(78,(V (.bool true)))]⟩) (
   z02 (some (3,1)) t4 fun t68 =>
   z04 1 H3 t68 fun t69 =>
   zLZ true false H3 t69 fun t70 =>
   zMe none false false .gtr t70 (V (.int .i64 65536)) fun t71 =>
   z0o t71 (
   z1C m H.length kc kx ⟨H3,[(1,t1),(3,t3),(78,(V (.bool true)))]⟩) (
   z02 (some (4,1)) t4 fun t74 =>
   z04 1 H3 t74 fun t75 =>
   z1D (z47 m (ro H3 t75)) [(ro H3 t75)] fun t76 =>
   unE .not t76 fun t77 =>
   z1C m H.length kc kx ⟨H3,[(1,t1),(3,t3),(78,t77)]⟩))))) (
  kx (.exit 0) ⟨H,[(2, .nil)]⟩) := by
 refine (z0F _ _ _ _ _ _ _ _ _ _ _ _).trans ?_
 kernel_rfl
theorem z0e (m : Nat) (H : List AObj) (t1 : AV) : z5A m ⟨H,[(1,t1)]⟩ =
 z7c m (z9l m) ⟨H,[(1,t1),(3,(V (.int .i64 0)))]⟩ (z0P 0 (zM3 (fun s=>z9d m ⟨s.H,[]⟩) (z24))) := by
 refine (z03 _ _ _ _ _ _ _ _ _).trans ?_
 kernel_rfl
theorem z0g (m : Nat) (H : List AObj) (t1 t38 : AV) : z1b m ⟨H,[(1,t1),(38,t38)]⟩ =
 z0o t38 (
  z1Z H (ro H (V (.bool false)))) (
  z5A m ⟨H,[(1,t1)]⟩) := by
 refine (z03 _ _ _ _ _ _ _ _ _).trans ?_
 kernel_rfl
theorem zgs (m : Nat) (t0 : AV) : z1S m t0 =
 zN2 z00 [] t0 fun t1 H1 =>
 z02 (some (0,1)) t1 fun t5 =>
 z04 1 H1 t5 fun t6 =>
 z1D (z56 m (ro H1 t6) (V (.int .i64 63))) [(ro H1 t6),(V (.int .i64 63))] fun t7 =>
 unE .not t7 fun t8 =>
 z0o t8 (
  z1b m ⟨H1,[(1,t1),(38,(V (.bool true)))]⟩) (
  z02 (some (1,1)) t1 fun t10 =>
  z04 1 H1 t10 fun t11 =>
  z1D (z0T m (ro H1 t11)) [(ro H1 t11)] fun t12 =>
  unE .not t12 fun t13 =>
  z0o t13 (
  z1b m ⟨H1,[(1,t1),(38,(V (.bool true)))]⟩) (
  z02 (some (2,1)) t1 fun t16 =>
  z04 1 H1 t16 fun t17 =>
  z1D (z0T m (ro H1 t17)) [(ro H1 t17)] fun t18 =>
  unE .not t18 fun t19 =>
  z0o t19 (
  z1b m ⟨H1,[(1,t1),(38,(V (.bool true)))]⟩) (
  z02 (some (3,1)) t1 fun t22 =>
  z04 1 H1 t22 fun t23 =>
  z1D (z0T m (ro H1 t23)) [(ro H1 t23)] fun t24 =>
  unE .not t24 fun t25 =>
  z0o t25 (
  z1b m ⟨H1,[(1,t1),(38,(V (.bool true)))]⟩) (
  z02 (some (4,1)) t1 fun t28 =>
  z04 1 H1 t28 fun t29 =>
  z1D (z47 m (ro H1 t29)) [(ro H1 t29)] fun t30 =>
  unE .not t30 fun t31 =>
  z0o t31 (
  z1b m ⟨H1,[(1,t1),(38,(V (.bool true)))]⟩) (
  z02 (some (5,1)) t1 fun t34 =>
  z04 1 H1 t34 fun t35 =>
  zLZ false true H1 t35 fun t36 =>
  zMe none false false .gtr t36 (V (.int .i64 64)) fun t37 =>
  z1b m ⟨H1,[(1,t1),(38,t37)]⟩))))) := by
 refine (z8O _ _ _ _ _ _ _ _ _).trans ?_
 kernel_rfl
def z2F (m : Nat) : List AV → RO|[t0]=>z1S m t0|_=>none
theorem z5t (m : Nat) : ∀ args X H',z2F m args = some (X,H') → ACp Try.prog GG 47 args X := by
 intro args X H' h
 unfold z2F at h
 split at h
 ·exact z0B MIX (by
  intro f e h
  simp only [z0Q,Prod.mk.injEq,List.mem_cons,List.not_mem_nil,or_false] at h
  rcases h with ⟨rfl,rfl⟩|⟨rfl,rfl⟩|⟨rfl,rfl⟩
  ·exact z8U m
  ·exact zc8 m
  ·exact zh0 m) (f := 47) (c := z15) Try.func47 rfl (by kernel_rfl) _ rfl Try.ntmps47 (Nat.le_of_ble_eq_true rfl) plenumref28_Change_h h
 ·cases h
def z5Y : Code := (Try.f72.body).getD .skip
def plenumref28_put_h : Hint := (.two .n (.two .n (.join [3] (.two .n (.one (.lp [] [0,3,4] [3] (.two (.two .n (.two .n .n)) (.two (.one .n) .n))))) (.two .n .n))))
def z4m (m : Nat) : Env := [(92, .tell (z46 m))]
abbrev z6U : KO (AV × List AObj) := z1L Try.prog [.tmp 2]
def zc5 (m : Nat) (s : ASt) : RO := z11 Try.prog GG (z4m m) m ⟨20,[]⟩ (cdR (cdR (cdR z5Y))) plenumref28_put_h.r.r.r s (z6U)
def zcu (m : Nat) (s : ASt) (kc : ASt → RO) (kx : KO (AV × List AObj)) : RO := z8G Try.prog GG (z4m m) m ⟨20,[]⟩ (cdL (cdL (cdR (cdL (cdR (cdR z5Y)))))) plenumref28_put_h.r.r.l.r.c.c [0,3,4] [3] s kc kx
def z1X (m : Nat) (t0 : AV) : RO := zLa Try.prog GG (z4m m) m ⟨20,[]⟩ z5Y plenumref28_put_h ⟨[],z14 0 [t0]⟩ (z6U)
theorem zgk (m : Nat) (H : List AObj) (t3 : AV) : zc5 m ⟨H,[(3,t3)]⟩ =
 z1Z H (ro H t3) := by
 refine (z03 _ _ _ _ _ _ _ _ _).trans ?_
 kernel_rfl
theorem zg6 (m : Nat) (H : List AObj) (t0 t3 t4 : AV) (kc : ASt → RO) (kx : KO (AV × List AObj)) : zcu m ⟨H,[(0,t0),(3,t3),(4,t4)]⟩ kc kx =
 zLZ false true H t0 fun t7 =>
 zMe none false false .lss t4 t7 fun t8 =>
 z0o t8 (
  z3H 1 H t0 t4 fun t14 =>
  z04 1 H t14 fun t15 =>
  zsa false (some .u64) true false false (ro H t15) fun t16 =>
  z1D (z46 m [(ro H t16)]) [(ro H t16)] fun t17 =>
  zMe none false false .add t3 t17 fun t18 =>
  zMe none false false .add t4 (V (.int .i64 1)) fun t10 =>
  z7z H.length H [(0,t0),(3,t18),(4,t10)] kc) (
  kx (.exit 0) ⟨H,[(3,t3)]⟩) := by
 refine (z0F _ _ _ _ _ _ _ _ _ _ _ _).trans ?_
 kernel_rfl
theorem zjf (m : Nat) (t0 : AV) : z1X m t0 =
 z7c m (zcu m) ⟨[],[(0,t0),(3,(V (.string ⟨#[]⟩))),(4,(V (.int .i64 0)))]⟩ (z0P 0 (zM3 (fun s=>zc5 m ⟨s.H,[(3,gt s.T 3)]⟩) (z6U))) := by
 refine (z8O _ _ _ _ _ _ _ _ _).trans ?_
 kernel_rfl
def z5P (m : Nat) : List AV → RO|[t0]=>z1X m t0|_=>none
theorem zbQ (m : Nat) : ∀ args X H',z5P m args = some (X,H') → ACp Try.prog GG 72 args X := by
 intro args X H' h
 unfold z5P at h
 split at h
 ·exact z0B MIX (by
  intro f e h
  simp only [z4m,Prod.mk.injEq,List.mem_cons,List.not_mem_nil,or_false] at h
  obtain ⟨rfl,rfl⟩ := h
  ·exact zjC m) (f := 72) (c := z5Y) Try.func72 rfl (by kernel_rfl) _ rfl Try.ntmps72 (Nat.le_of_ble_eq_true rfl) plenumref28_put_h h
 ·cases h
def z3S : Code := (Try.f73.body).getD .skip
def plenumref28_voices_h : Hint := (.two .n (.two .n (.join [3] (.two .n (.one (.lp [] [0,3,4] [3] (.two (.two .n (.two .n .n)) (.two (.one .n) .n))))) (.two .n .n))))
def z34 (m : Nat) : Env := [(72, .tell (z5P m))]
abbrev z4R : KO (AV × List AObj) := z1L Try.prog [.tmp 2]
def z9j (m : Nat) (s : ASt) : RO := z11 Try.prog GG (z34 m) m ⟨45,[]⟩ (cdR (cdR (cdR z3S))) plenumref28_voices_h.r.r.r s (z4R)
def z9h (m : Nat) (s : ASt) (kc : ASt → RO) (kx : KO (AV × List AObj)) : RO := z8G Try.prog GG (z34 m) m ⟨45,[]⟩ (cdL (cdL (cdR (cdL (cdR (cdR z3S)))))) plenumref28_voices_h.r.r.l.r.c.c [0,3,4] [3] s kc kx
def z3C (m : Nat) (t0 : AV) : RO := zLa Try.prog GG (z34 m) m ⟨45,[]⟩ z3S plenumref28_voices_h ⟨[],z14 0 [t0]⟩ (z4R)
theorem zdE (m : Nat) (H : List AObj) (t3 : AV) : z9j m ⟨H,[(3,t3)]⟩ =
 z1Z H (ro H t3) := by
 refine (z03 _ _ _ _ _ _ _ _ _).trans ?_
 kernel_rfl
theorem zcO (m : Nat) (H : List AObj) (t0 t3 t4 : AV) (kc : ASt → RO) (kx : KO (AV × List AObj)) : z9h m ⟨H,[(0,t0),(3,t3),(4,t4)]⟩ kc kx =
 zLZ false true H t0 fun t11 =>
 zMe none false false .lss t4 t11 fun t12 =>
 z0o t12 (
  z3H 7 H t0 t4 fun t18 =>
  z02 (some (0,1)) t18 fun t19 =>
  z04 1 H t19 fun t20 =>
  z3H 7 H t0 t4 fun t23 =>
  z02 (some (1,1)) t23 fun t24 =>
  z04 1 H t24 fun t25 =>
  z3H 7 H t0 t4 fun t28 =>
  z02 (some (2,1)) t28 fun t29 =>
  z04 1 H t29 fun t30 =>
  z3H 7 H t0 t4 fun t33 =>
  z02 (some (3,1)) t33 fun t34 =>
  z04 1 H t34 fun t35 =>
  z3H 7 H t0 t4 fun t38 =>
  z02 (some (4,1)) t38 fun t39 =>
  z04 1 H t39 fun t40 =>
  z0O (some (z5v,1)) 5 [(0,t20),(1,t25),(2,t30),(3,t35),(4,t40)] fun t41 =>
  z1D (z1X m (ro H t41)) [(ro H t41)] fun t42 =>
  zMe none false false .add t3 t42 fun t43 =>
  zMe none false false .add t4 (V (.int .i64 1)) fun t14 =>
  z7z H.length H [(0,t0),(3,t43),(4,t14)] kc) (
  kx (.exit 0) ⟨H,[(3,t3)]⟩) := by
 refine (z0F _ _ _ _ _ _ _ _ _ _ _ _).trans ?_
 kernel_rfl
theorem zgf (m : Nat) (t0 : AV) : z3C m t0 =
 zLZ false true [] t0 fun t6 =>
 z0O (some (z5v,1)) 1 [(0,t6)] fun t7 =>
 z1D (z1X m (ro [] t7)) [(ro [] t7)] fun t8 =>
 z7c m (z9h m) ⟨[],[(0,t0),(3,t8),(4,(V (.int .i64 0)))]⟩ (z0P 0 (zM3 (fun s=>z9j m ⟨s.H,[(3,gt s.T 3)]⟩) (z4R))) := by
 refine (z8O _ _ _ _ _ _ _ _ _).trans ?_
 kernel_rfl
def z6i (m : Nat) : List AV → RO|[t0]=>z3C m t0|_=>none
theorem zgd (m : Nat) : ∀ args X H',z6i m args = some (X,H') → ACp Try.prog GG 73 args X := by
 intro args X H' h
 unfold z6i at h
 split at h
 ·exact z0B MIX (by
  intro f e h
  simp only [z34,Prod.mk.injEq,List.mem_cons,List.not_mem_nil,or_false] at h
  obtain ⟨rfl,rfl⟩ := h
  ·exact zbQ m) (f := 73) (c := z3S) Try.func73 rfl (by kernel_rfl) _ rfl Try.ntmps73 (Nat.le_of_ble_eq_true rfl) plenumref28_voices_h h
 ·cases h
def z1U : Code := (Try.f50.body).getD .skip
def plenumref28_EncodeChange_h : Hint := (.two .n (.two .n (.join [3] (.two .n (.one (.lp [] [1,3,4] [3] (.two (.two .n (.two .n .n)) (.two (.one (.two .n .n)) .n))))) (.two .n .n))))
def z1x (m : Nat) : Env := [(72, .tell (z5P m)),(73, .tell (z6i m))]
abbrev z2H : KO (AV × List AObj) := z1L Try.prog [.tmp 2]
def z5r (m : Nat) (s : ASt) : RO := z11 Try.prog GG (z1x m) m ⟨59,[]⟩ (cdR (cdR (cdR z1U))) plenumref28_EncodeChange_h.r.r.r s (z2H)
def z5n (m : Nat) (s : ASt) (kc : ASt → RO) (kx : KO (AV × List AObj)) : RO := z8G Try.prog GG (z1x m) m ⟨59,[]⟩ (cdL (cdL (cdR (cdL (cdR (cdR z1U)))))) plenumref28_EncodeChange_h.r.r.l.r.c.c [1,3,4] [3] s kc kx
def z1w (m : Nat) (t0 : AV) : RO := zLa Try.prog GG (z1x m) m ⟨59,[]⟩ z1U plenumref28_EncodeChange_h ⟨[],z14 0 [t0]⟩ (z2H)
theorem z8T (m : Nat) (H : List AObj) (t3 : AV) : z5r m ⟨H,[(3,t3)]⟩ =
 z1Z H (ro H t3) := by
 refine (z03 _ _ _ _ _ _ _ _ _).trans ?_
 kernel_rfl
theorem z93 (m : Nat) (H : List AObj) (t1 t3 t4 : AV) (kc : ASt → RO) (kx : KO (AV × List AObj)) : z5n m ⟨H,[(1,t1),(3,t3),(4,t4)]⟩ kc kx =
 z02 (some (5,1)) t1 fun t27 =>
 z04 1 H t27 fun t28 =>
 zLZ false true H t28 fun t29 =>
 zMe none false false .lss t4 t29 fun t30 =>
 z0o t30 (
  z02 (some (5,1)) t1 fun t33 =>
  z04 1 H t33 fun t34 =>
  z3H 7 H t34 t4 fun t36 =>
  z04 7 H t36 fun t37 =>
  z2f (some zc_api_Cert) z07 H fun t5 H2 =>
  z0I 7 H2 t5 t37 fun H3 =>
  z02 (some (0,1)) t5 fun t39 =>
  z04 1 H3 t39 fun t40 =>
  z02 (some (1,1)) t5 fun t41 =>
  z04 1 H3 t41 fun t42 =>
  z02 (some (2,1)) t5 fun t43 =>
  z04 1 H3 t43 fun t44 =>
  z02 (some (3,1)) t5 fun t45 =>
  z04 1 H3 t45 fun t46 =>
  zLZ true false H3 t46 fun t47 =>
  z0O (some (z5v,1)) 4 [(0,t40),(1,t42),(2,t44),(3,t47)] fun t48 =>
  z1D (z1X m (ro H3 t48)) [(ro H3 t48)] fun t49 =>
  z02 (some (3,1)) t5 fun t50 =>
  z04 1 H3 t50 fun t51 =>
  zMe none false false .add t49 t51 fun t52 =>
  z02 (some (4,1)) t5 fun t53 =>
  z04 1 H3 t53 fun t54 =>
  z1D (z3C m (ro H3 t54)) [(ro H3 t54)] fun t55 =>
  zMe none false false .add t52 t55 fun t56 =>
  zMe none false false .add t3 t56 fun t57 =>
  zMe none false false .add t4 (V (.int .i64 1)) fun t32 =>
  z7z H.length H3 [(1,t1),(3,t57),(4,t32)] kc) (
  kx (.exit 0) ⟨H,[(3,t3)]⟩) := by
 refine (z0F _ _ _ _ _ _ _ _ _ _ _ _).trans ?_
 kernel_rfl
theorem zaG (m : Nat) (t0 : AV) : z1w m t0 =
 zN2 z00 [] t0 fun t1 H1 =>
 z02 (some (0,1)) t1 fun t6 =>
 z04 1 H1 t6 fun t7 =>
 z02 (some (1,1)) t1 fun t8 =>
 z04 1 H1 t8 fun t9 =>
 z02 (some (2,1)) t1 fun t10 =>
 z04 1 H1 t10 fun t11 =>
 z02 (some (3,1)) t1 fun t12 =>
 z04 1 H1 t12 fun t13 =>
 z0O (some (z5v,1)) 4 [(0,t7),(1,t9),(2,t11),(3,t13)] fun t14 =>
 z1D (z1X m (ro H1 t14)) [(ro H1 t14)] fun t15 =>
 z02 (some (4,1)) t1 fun t16 =>
 z04 1 H1 t16 fun t17 =>
 z1D (z3C m (ro H1 t17)) [(ro H1 t17)] fun t18 =>
 zMe none false false .add t15 t18 fun t19 =>
 z02 (some (5,1)) t1 fun t20 =>
 z04 1 H1 t20 fun t21 =>
 zLZ false true H1 t21 fun t22 =>
 z0O (some (z5v,1)) 1 [(0,t22)] fun t23 =>
 z1D (z1X m (ro H1 t23)) [(ro H1 t23)] fun t24 =>
 zMe none false false .add t19 t24 fun t25 =>
 z7c m (z5n m) ⟨H1,[(1,t1),(3,t25),(4,(V (.int .i64 0)))]⟩ (z0P 0 (zM3 (fun s=>z5r m ⟨s.H,[(3,gt s.T 3)]⟩) (z2H))) := by
 refine (z8O _ _ _ _ _ _ _ _ _).trans ?_
 kernel_rfl
def z1Y (m : Nat) : List AV → RO|[t0]=>z1w m t0|_=>none
theorem z5p (m : Nat) : ∀ args X H',z1Y m args = some (X,H') → ACp Try.prog GG 50 args X := by
 intro args X H' h
 unfold z1Y at h
 split at h
 ·exact z0B MIX (by
  intro f e h
  simp only [z1x,Prod.mk.injEq,List.mem_cons,List.not_mem_nil,or_false] at h
  rcases h with ⟨rfl,rfl⟩|⟨rfl,rfl⟩
  ·exact zbQ m
  ·exact zgd m) (f := 50) (c := z1U) Try.func50 rfl (by kernel_rfl) _ rfl Try.ntmps50 (Nat.le_of_ble_eq_true rfl) plenumref28_EncodeChange_h h
 ·cases h
def z5k : Code := (Try.f25.body).getD .skip
def plenumlaw28_text_h : Hint := (.two .n (.join [0] (.join [0,10] .n (.two (.two .n .n) .n)) (.two (.two .n (.two (.two .n .n) .n)) (.two .n .n))))
def z6g (m : Nat) : Env := []
abbrev z6e : KO (AV × List AObj) := z1L Try.prog [.tmp 2]
def z6D (m : Nat) (s : ASt) : RO := z11 Try.prog GG (z6g m) m ⟨19,[]⟩ (cdR (cdR z5k)) plenumlaw28_text_h.r.r s (z6e)
def z70 (m : Nat) (s : ASt) : RO := z11 Try.prog GG (z6g m) m ⟨19,[]⟩ (cdR (cdL (cdR z5k))) plenumlaw28_text_h.r.l.r s (zM3 (fun s=>z6D m ⟨s.H,[(0,gt s.T 0)]⟩) (z6e))
def z4J (m : Nat) (t0 : AV) : RO := zLa Try.prog GG (z6g m) m ⟨19,[]⟩ z5k plenumlaw28_text_h ⟨[],z14 0 [t0]⟩ (z6e)
theorem z33 (m : Nat) (H : List AObj) (t0 : AV) : z6D m ⟨H,[(0,t0)]⟩ =
 zLZ true false H t0 fun t14 =>
 zMe none false false .gtr t14 (V (.int .i64 65540)) fun t15 =>
 z0o t15 (
  zhk true none H t0 none (some (V (.int .i64 65540))) fun t17 =>
  z1Z H (ro H t17)) (
  z1Z H (ro H t0)) := by
 refine (z03 _ _ _ _ _ _ _ _ _).trans ?_
 kernel_rfl
theorem z3a (m : Nat) (H : List AObj) (t0 t10 : AV) : z70 m ⟨H,[(0,t0),(10,t10)]⟩ =
 z0o t10 (
  zhk true none H t0 none (some (V (.int .i64 3000))) fun t12 =>
  z1Z H (ro H t12)) (
  z6D m ⟨H,[(0,t0)]⟩) := by
 refine (z03 _ _ _ _ _ _ _ _ _).trans ?_
 kernel_rfl
theorem zj5 (m : Nat) (t0 : AV) : z4J m t0 =
 zLZ true false [] t0 fun t4 =>
 zMe none false false .gtr t4 (V (.int .i64 3000)) fun t5 =>
 z0o t5 (
  zLZ true false [] t0 fun t8 =>
  zMe none false false .leq t8 (V (.int .i64 65536)) fun t9 =>
  z70 m ⟨[],[(0,t0),(10,t9)]⟩) (
  z70 m ⟨[],[(0,t0),(10,(V (.bool false)))]⟩) := by
 refine (z8O _ _ _ _ _ _ _ _ _).trans ?_
 kernel_rfl
def z5m (m : Nat) : List AV → RO|[t0]=>z4J m t0|_=>none
theorem zaM (m : Nat) : ∀ args X H',z5m m args = some (X,H') → ACp Try.prog GG 25 args X := by
 intro args X H' h
 unfold z5m at h
 split at h
 ·exact z0B MIX (by intro f e h;cases h) (f := 25) (c := z5k) Try.func25 rfl (by kernel_rfl) _ rfl Try.ntmps25 (Nat.le_of_ble_eq_true rfl) plenumlaw28_text_h h
 ·cases h
def zb2 : Code := (Try.f24.body).getD .skip
def zaN : Hint := (.two .n (.two (.two .n (.two (.two .n .n) .n)) (.two .n .n)))
def zgm (m : Nat) : Env := []
abbrev zgj : KO (AV × List AObj) := z1L Try.prog [.tmp 2]
def z31 (m : Nat) (t0 : AV) : RO := zLa Try.prog GG (zgm m) m ⟨9,[]⟩ zb2 zaN ⟨[],z14 0 [t0]⟩ (zgj)
theorem zh5 (m : Nat) (t0 : AV) : z31 m t0 =
 zLZ false true [] t0 fun t4 =>
 zMe none false false .gtr t4 (V (.int .i64 66)) fun t5 =>
 z0o t5 (
  zhk false (some (z01,7)) [] t0 none (some (V (.int .i64 66))) fun t7 =>
  z1Z [] (ro [] t7)) (
  z1Z [] (ro [] t0)) := by
 refine (z8O _ _ _ _ _ _ _ _ _).trans ?_
 kernel_rfl
def z4t (m : Nat) : List AV → RO|[t0]=>z31 m t0|_=>none
theorem zaj (m : Nat) : ∀ args X H',z4t m args = some (X,H') → ACp Try.prog GG 24 args X := by
 intro args X H' h
 unfold z4t at h
 split at h
 ·exact z0B MIX (by intro f e h;cases h) (f := 24) (c := zb2) Try.func24 rfl (by kernel_rfl) _ rfl Try.ntmps24 (Nat.le_of_ble_eq_true rfl) zaN h
 ·cases h
def z1I : Code := (Try.f7.body).getD .skip
def plenumlaw28_FewChange_h : Hint := (.two .n (.two .n (.join [1,2] (.two .n (.two .n .n)) (.two .n (.join [1,2,3] (.two .n (.one (.lp [(3,z07,5)] [1,2,3,4] [1,2,3] (.two (.two .n (.two .n .n)) (.two (.one (.two .n (.two .n (.two .n .n)))) .n))))) (.two .n (.two .n .n)))))))
def z1l (m : Nat) : Env := [(24, .tell (z4t m)),(25, .tell (z5m m))]
abbrev z2a : KO (AV × List AObj) := z1L Try.prog [.cell 2 30]
def z72 (m : Nat) (s : ASt) : RO := z11 Try.prog GG (z1l m) m ⟨45,[]⟩ (cdR (cdR (cdR (cdR (cdR z1I))))) plenumlaw28_FewChange_h.r.r.r.r.r s (z2a)
def z6Y (m : Nat) (s : ASt) (kc : ASt → RO) (kx : KO (AV × List AObj)) : RO := z8G Try.prog GG (z1l m) m ⟨45,[]⟩ (cdL (cdL (cdR (cdL (cdR (cdR (cdR (cdR z1I)))))))) plenumlaw28_FewChange_h.r.r.r.r.l.r.c.c [1,2,3,4] [1,2,3] s kc kx
def z2l (m : Nat) (s : ASt) : RO := z11 Try.prog GG (z1l m) m ⟨45,[]⟩ (cdR (cdR (cdR z1I))) plenumlaw28_FewChange_h.r.r.r s (z2a)
def z3s (m : Nat) (t0 : AV) : RO := zLa Try.prog GG (z1l m) m ⟨45,[]⟩ z1I plenumlaw28_FewChange_h ⟨[],z14 0 [t0]⟩ (z2a)
theorem z5o (m : Nat) (H : List AObj) (t1 t2 t3 : AV) : z72 m ⟨H,[(1,t1),(2,t2),(3,t3)]⟩ =
 z02 (some (5,1)) t1 fun t43 =>
 z0I 1 H t43 t3 fun H2 =>
 z04 8 H2 t1 fun t44 =>
 z0I 8 H2 t2 t44 fun H3 =>
 z04 8 H3 t2 fun t9000 =>
 z1Z H3 (ro H3 t9000) := by
 refine (z03 _ _ _ _ _ _ _ _ _).trans ?_
 kernel_rfl
theorem zaF (m : Nat) (H : List AObj) (t1 t2 t3 t4 : AV) (kc : ASt → RO) (kx : KO (AV × List AObj)) : z6Y m ⟨H,[(1,t1),(2,t2),(3,t3),(4,t4)]⟩ kc kx =
 z02 (some (5,1)) t1 fun t19 =>
 z04 1 H t19 fun t20 =>
 zLZ false true H t20 fun t21 =>
 zMe none false false .lss t4 t21 fun t22 =>
 z0o t22 (
  z02 (some (5,1)) t1 fun t25 =>
  z04 1 H t25 fun t26 =>
  z3H 7 H t26 t4 fun t28 =>
  z04 7 H t28 fun t29 =>
  z2f (some zc_api_Cert) z07 H fun t5 H2 =>
  z0I 7 H2 t5 t29 fun H3 =>
  z02 (some (3,1)) t5 fun t30 =>
  z04 1 H3 t30 fun t31 =>
  z1D (z4J m (ro H3 t31)) [(ro H3 t31)] fun t32 =>
  z02 (some (3,1)) t5 fun t33 =>
  z0I 1 H3 t33 t32 fun H4 =>
  z02 (some (4,1)) t5 fun t34 =>
  z04 1 H4 t34 fun t35 =>
  z1D (z31 m (ro H4 t35)) [(ro H4 t35)] fun t36 =>
  z02 (some (4,1)) t5 fun t37 =>
  z0I 1 H4 t37 t36 fun H5 =>
  z04 7 H5 t5 fun t39 =>
  z0O (some (z07,5)) 1 [(0,t39)] fun t40 =>
  zNh (some (z07,5)) H5 t3 t40 fun t41 H6 =>
  zMe none false false .add t4 (V (.int .i64 1)) fun t24 =>
  z7z H.length H6 [(1,t1),(2,t2),(3,t41),(4,t24)] kc) (
  kx (.exit 0) ⟨H,[(1,t1),(2,t2),(3,t3)]⟩) := by
 refine (z0F _ _ _ _ _ _ _ _ _ _ _ _).trans ?_
 kernel_rfl
theorem z2Y (m : Nat) (H : List AObj) (t1 t2 : AV) : z2l m ⟨H,[(1,t1),(2,t2)]⟩ =
 zNf (V (.slice none 0 0)) z07 5 H fun t3 H2 =>
 z7c m (z6Y m) ⟨H2,[(1,t1),(2,t2),(3,t3),(4,(V (.int .i64 0)))]⟩ (z0P 0 (zM3 (fun s=>z72 m ⟨s.H,[(1,gt s.T 1),(2,gt s.T 2),(3,gt s.T 3)]⟩) (z2a))) := by
 refine (z03 _ _ _ _ _ _ _ _ _).trans ?_
 kernel_rfl
theorem zd0 (m : Nat) (t0 : AV) : z3s m t0 =
 zN2 z00 [] t0 fun t1 H1 =>
 z2f (some zc_api_Change) z00 H1 fun t2 H2 =>
 z02 (some (4,1)) t1 fun t6 =>
 z04 1 H2 t6 fun t7 =>
 z1D (z31 m (ro H2 t7)) [(ro H2 t7)] fun t8 =>
 z02 (some (4,1)) t1 fun t9 =>
 z0I 1 H2 t9 t8 fun H3 =>
 z02 (some (5,1)) t1 fun t10 =>
 z04 1 H3 t10 fun t11 =>
 zLZ false true H3 t11 fun t12 =>
 zMe none false false .gtr t12 (V (.int .i64 66)) fun t13 =>
 z0o t13 (
  z02 (some (5,1)) t1 fun t14 =>
  z04 1 H3 t14 fun t15 =>
  zhk false (some (z07,7)) H3 t15 none (some (V (.int .i64 66))) fun t16 =>
  z02 (some (5,1)) t1 fun t17 =>
  z0I 1 H3 t17 t16 fun H4 =>
  z2l m ⟨H4,[(1,t1),(2,t2)]⟩) (
  z2l m ⟨H3,[(1,t1),(2,t2)]⟩) := by
 refine (z8O _ _ _ _ _ _ _ _ _).trans ?_
 kernel_rfl
def z4d (m : Nat) : List AV → RO|[t0]=>z3s m t0|_=>none
theorem zcB (m : Nat) : ∀ args X H',z4d m args = some (X,H') → ACp Try.prog GG 7 args X := by
 intro args X H' h
 unfold z4d at h
 split at h
 ·exact z0B MIX (by
  intro f e h
  simp only [z1l,Prod.mk.injEq,List.mem_cons,List.not_mem_nil,or_false] at h
  rcases h with ⟨rfl,rfl⟩|⟨rfl,rfl⟩
  ·exact zaj m
  ·exact zaM m) (f := 7) (c := z1I) Try.func7 rfl (by kernel_rfl) _ rfl Try.ntmps7 (Nat.le_of_ble_eq_true rfl) plenumlaw28_FewChange_h h
 ·cases h
def z44 : Code := (Try.f19.body).getD .skip
def plenumlaw28_Few_h : Hint := (.two .n (.two .n (.two .n (.join [1,2] (.two .n (.two .n .n)) (.two .n (.join [1,2,3] (.two .n (.one (.lp [(3,z00,6)] [1,2,3,4] [1,2,3] (.two (.two .n (.two .n .n)) (.two (.one .n) .n))))) (.two .n (.two .n .n))))))))
def z3d (m : Nat) : Env := [(25, .tell (z5m m)),(24, .tell (z4t m)),(7, .tell (z4d m))]
abbrev z4l : KO (AV × List AObj) := z1L Try.prog [.cell 2 65]
def zbS (m : Nat) (s : ASt) : RO := z11 Try.prog GG (z3d m) m ⟨40,[]⟩ (cdR (cdR (cdR (cdR (cdR (cdR z44)))))) plenumlaw28_Few_h.r.r.r.r.r.r s (z4l)
def zck (m : Nat) (s : ASt) (kc : ASt → RO) (kx : KO (AV × List AObj)) : RO := z8G Try.prog GG (z3d m) m ⟨40,[]⟩ (cdL (cdL (cdR (cdL (cdR (cdR (cdR (cdR (cdR z44))))))))) plenumlaw28_Few_h.r.r.r.r.r.l.r.c.c [1,2,3,4] [1,2,3] s kc kx
def z59 (m : Nat) (s : ASt) : RO := z11 Try.prog GG (z3d m) m ⟨40,[]⟩ (cdR (cdR (cdR (cdR z44)))) plenumlaw28_Few_h.r.r.r.r s (z4l)
def z8j (m : Nat) (t0 : AV) : RO := zLa Try.prog GG (z3d m) m ⟨40,[]⟩ z44 plenumlaw28_Few_h ⟨[],z14 0 [t0]⟩ (z4l)
theorem z9m (m : Nat) (H : List AObj) (t1 t2 t3 : AV) : zbS m ⟨H,[(1,t1),(2,t2),(3,t3)]⟩ =
 z02 (some (7,1)) t1 fun t38 =>
 z0I 1 H t38 t3 fun H2 =>
 z04 10 H2 t1 fun t39 =>
 z0I 10 H2 t2 t39 fun H3 =>
 z04 10 H3 t2 fun t9000 =>
 z1Z H3 (ro H3 t9000) := by
 refine (z03 _ _ _ _ _ _ _ _ _).trans ?_
 kernel_rfl
theorem zg2 (m : Nat) (H : List AObj) (t1 t2 t3 t4 : AV) (kc : ASt → RO) (kx : KO (AV × List AObj)) : zck m ⟨H,[(1,t1),(2,t2),(3,t3),(4,t4)]⟩ kc kx =
 z02 (some (7,1)) t1 fun t22 =>
 z04 1 H t22 fun t23 =>
 zLZ false true H t23 fun t24 =>
 zMe none false false .lss t4 t24 fun t25 =>
 z0o t25 (
  z02 (some (7,1)) t1 fun t29 =>
  z04 1 H t29 fun t30 =>
  z3H 8 H t30 t4 fun t32 =>
  z04 8 H t32 fun t33 =>
  z1D (z3s m (ro H t33)) [(ro H t33)] fun t34 =>
  z0O (some (z00,6)) 1 [(0,t34)] fun t35 =>
  zNh (some (z00,6)) H t3 t35 fun t36 H2 =>
  zMe none false false .add t4 (V (.int .i64 1)) fun t27 =>
  z7z H.length H2 [(1,t1),(2,t2),(3,t36),(4,t27)] kc) (
  kx (.exit 0) ⟨H,[(1,t1),(2,t2),(3,t3)]⟩) := by
 refine (z0F _ _ _ _ _ _ _ _ _ _ _ _).trans ?_
 kernel_rfl
theorem z5w (m : Nat) (H : List AObj) (t1 t2 : AV) : z59 m ⟨H,[(1,t1),(2,t2)]⟩ =
 zNf (V (.slice none 0 0)) z00 6 H fun t3 H2 =>
 z7c m (zck m) ⟨H2,[(1,t1),(2,t2),(3,t3),(4,(V (.int .i64 0)))]⟩ (z0P 0 (zM3 (fun s=>zbS m ⟨s.H,[(1,gt s.T 1),(2,gt s.T 2),(3,gt s.T 3)]⟩) (z4l))) := by
 refine (z03 _ _ _ _ _ _ _ _ _).trans ?_
 kernel_rfl
theorem zjB (m : Nat) (t0 : AV) : z8j m t0 =
 zN2 z0t [] t0 fun t1 H1 =>
 z2f (some zc_api_Msg) z0t H1 fun t2 H2 =>
 z02 (some (5,1)) t1 fun t5 =>
 z04 1 H2 t5 fun t6 =>
 z1D (z4J m (ro H2 t6)) [(ro H2 t6)] fun t7 =>
 z02 (some (5,1)) t1 fun t8 =>
 z0I 1 H2 t8 t7 fun H3 =>
 z02 (some (6,1)) t1 fun t9 =>
 z04 1 H3 t9 fun t10 =>
 z1D (z31 m (ro H3 t10)) [(ro H3 t10)] fun t11 =>
 z02 (some (6,1)) t1 fun t12 =>
 z0I 1 H3 t12 t11 fun H4 =>
 z02 (some (7,1)) t1 fun t13 =>
 z04 1 H4 t13 fun t14 =>
 zLZ false true H4 t14 fun t15 =>
 zMe none false false .gtr t15 (V (.int .i64 66)) fun t16 =>
 z0o t16 (
  z02 (some (7,1)) t1 fun t17 =>
  z04 1 H4 t17 fun t18 =>
  zhk false (some (z00,8)) H4 t18 none (some (V (.int .i64 66))) fun t19 =>
  z02 (some (7,1)) t1 fun t20 =>
  z0I 1 H4 t20 t19 fun H5 =>
  z59 m ⟨H5,[(1,t1),(2,t2)]⟩) (
  z59 m ⟨H4,[(1,t1),(2,t2)]⟩) := by
 refine (z8O _ _ _ _ _ _ _ _ _).trans ?_
 kernel_rfl
def z97 (m : Nat) : List AV → RO|[t0]=>z8j m t0|_=>none
theorem zjp (m : Nat) : ∀ args X H',z97 m args = some (X,H') → ACp Try.prog GG 19 args X := by
 intro args X H' h
 unfold z97 at h
 split at h
 ·exact z0B MIX (by
  intro f e h
  simp only [z3d,Prod.mk.injEq,List.mem_cons,List.not_mem_nil,or_false] at h
  rcases h with ⟨rfl,rfl⟩|⟨rfl,rfl⟩|⟨rfl,rfl⟩
  ·exact zaM m
  ·exact zaj m
  ·exact zcB m) (f := 19) (c := z44) Try.func19 rfl (by kernel_rfl) _ rfl Try.ntmps19 (Nat.le_of_ble_eq_true rfl) plenumlaw28_Few_h h
 ·cases h
end Go.Proofs.Ytaaogcnjfkgnoaa

namespace Go.Proofs.Ytaaogcnjfkgnoaa
open Go.RowKit
def z0q : TypeId := 73
def zc_api_Choice : List AV := [(V (.int .i64 0)),(V (.int .i64 0)),(V (.string ⟨#[]⟩)),(V (.bool false))]
def z3M : List (Nat × Nat) := [(0,1),(1,1),(2,1),(3,1)]
def z37 : Code := (Try.f74.body).getD .skip
def choose_certs_h : Hint := (.two .n (.two .n (.join [] (.two .n (.one (.lp [] [1,3,9,10,11] [2] (.two .n (.two (.two .n .n) (.join [1,3,9,10,11] (.one (.two .n (.join [1,5,9,10,11] (.join [1,5,9,10,11,37] .n (.two (.two .n .n) .n)) .n))) .n)))))) (.two .n .n))))
def z2D (m : Nat) : Env := []
abbrev zaA : KO (AV × List AObj) := z1L Try.prog [.tmp 2]
def zbv (m : Nat) (n0 : Nat) (kc : ASt → RO) (kx : KO (AV × List AObj)) (s : ASt) : RO := z11 Try.prog GG (z2D m) m ⟨41,[]⟩ (cdR (cdR (cdR (cdL (cdL (cdR (cdL (cdR (cdR z37))))))))) choose_certs_h.r.r.l.r.c.c.r.r.r s (z5s n0 [1,3,9,10,11] [2] kc kx)
def zmG (m : Nat) (n0 : Nat) (kc : ASt → RO) (kx : KO (AV × List AObj)) (s : ASt) : RO := z11 Try.prog GG (z2D m) m ⟨41,[]⟩ (cdR (cdR (cdR (cdL (cdL (cdR (cdL (cdR (cdR z37))))))))) choose_certs_h.r.r.l.r.c.c.r.r.r s (z5s n0 [1,3,9,10,11] [2] kc kx)
def zbB (m : Nat) (n0 : Nat) (kc : ASt → RO) (kx : KO (AV × List AObj)) (s : ASt) : RO := z11 Try.prog GG (z2D m) m ⟨41,[]⟩ (cdR (cdR (cdL (cdL (cdR (cdR (cdL (cdL (cdR (cdL (cdR (cdR z37)))))))))))) choose_certs_h.r.r.l.r.c.c.r.r.l.c.r.r s (z0P 1 (zM3 (fun s=>zbv m n0 kc kx ⟨s.H,[(1,gt s.T 1),(3,gt s.T 3),(9,gt s.T 9),(10,gt s.T 10),(11,gt s.T 11)]⟩) (z5s n0 [1,3,9,10,11] [2] kc kx)))
def z5H (m : Nat) (n0 : Nat) (kc : ASt → RO) (kx : KO (AV × List AObj)) (s : ASt) : RO := z11 Try.prog GG (z2D m) m ⟨41,[]⟩ (cdR (cdL (cdR (cdL (cdL (cdR (cdR (cdL (cdL (cdR (cdL (cdR (cdR z37))))))))))))) choose_certs_h.r.r.l.r.c.c.r.r.l.c.r.l.r s (zM3 (fun s=>zbB m n0 kc kx ⟨s.H,[(1,gt s.T 1),(5,gt s.T 5),(9,gt s.T 9),(10,gt s.T 10),(11,gt s.T 11)]⟩) (z0P 1 (zM3 (fun s=>zmG m n0 kc kx ⟨s.H,[(1,gt s.T 1),(3,gt s.T 3),(9,gt s.T 9),(10,gt s.T 10),(11,gt s.T 11)]⟩) (z5s n0 [1,3,9,10,11] [2] kc kx))))
def zgQ (m : Nat) (s : ASt) : RO := z11 Try.prog GG (z2D m) m ⟨41,[]⟩ (cdR (cdR (cdR z37))) choose_certs_h.r.r.r s (zaA)
def zgF (m : Nat) (s : ASt) (kc : ASt → RO) (kx : KO (AV × List AObj)) : RO := z8G Try.prog GG (z2D m) m ⟨41,[]⟩ (cdL (cdL (cdR (cdL (cdR (cdR z37)))))) choose_certs_h.r.r.l.r.c.c [1,3,9,10,11] [2] s kc kx
def zay (m : Nat) (t0 : AV) : RO := zLa Try.prog GG (z2D m) m ⟨41,[]⟩ z37 choose_certs_h ⟨[],z14 0 [t0]⟩ (zaA)
theorem zjW (m : Nat) (n0 : Nat) (kc : ASt → RO) (kx : KO (AV × List AObj)) (H : List AObj) (t1 t3 t9 t10 t11 : AV) : zbv m n0 kc kx ⟨H,[(1,t1),(3,t3),(9,t9),(10,t10),(11,t11)]⟩ =
 zMe none false false .add t11 (V (.int .i64 1)) fun t40 =>
 z7z n0 H [(1,t1),(3,t3),(9,t9),(10,t10),(11,t40)] kc := by
 refine (z03 _ _ _ _ _ _ _ _ _).trans ?_
 kernel_rfl
theorem zjh (m : Nat) (n0 : Nat) (kc : ASt → RO) (kx : KO (AV × List AObj)) (H : List AObj) (t1 t5 t9 t10 t11 : AV) : zbB m n0 kc kx ⟨H,[(1,t1),(5,t5),(9,t9),(10,t10),(11,t11)]⟩ =
 z02 (some (0,1)) t5 fun t38 =>
 z04 1 H t38 fun t39 =>
 zbv m n0 kc kx ⟨H,[(1,t1),(3,t39),(9,t9),(10,t10),(11,t11)]⟩ := by
 refine (z03 _ _ _ _ _ _ _ _ _).trans ?_
 kernel_rfl
theorem zk2 (m : Nat) (n0 : Nat) (kc : ASt → RO) (kx : KO (AV × List AObj)) (H : List AObj) (t1 t5 t9 t10 t11 t37 : AV) : z5H m n0 kc kx ⟨H,[(1,t1),(5,t5),(9,t9),(10,t10),(11,t11),(37,t37)]⟩ =
 z0o t37 (
  kx .ret ⟨H,[(2,(V (.bool false)))]⟩) (
  zbB m n0 kc kx ⟨H,[(1,t1),(5,t5),(9,t9),(10,t10),(11,t11)]⟩) := by
 refine (z03 _ _ _ _ _ _ _ _ _).trans ?_
 kernel_rfl
theorem zjz (m : Nat) (H : List AObj) : zgQ m ⟨H,[]⟩ =
 z1Z H (ro H (V (.bool true))) := by
 refine (z03 _ _ _ _ _ _ _ _ _).trans ?_
 kernel_rfl
theorem zjN (m : Nat) (H : List AObj) (t1 t3 t9 t10 t11 : AV) (kc : ASt → RO) (kx : KO (AV × List AObj)) : zgF m ⟨H,[(1,t1),(3,t3),(9,t9),(10,t10),(11,t11)]⟩ kc kx =
 zMe none false false .lss t11 t10 fun t12 =>
 z0o t12 (
  z3H 7 H t9 t11 fun t13 =>
  z04 7 H t13 fun t14 =>
  z2f (some zc_api_Cert) z07 H fun t5 H2 =>
  z0I 7 H2 t5 t14 fun H3 =>
  z02 (some (0,1)) t5 fun t15 =>
  z04 1 H3 t15 fun t16 =>
  zMe none false false .leq t16 t3 fun t18 =>
  z0o t18 (
   z5H m H.length kc kx ⟨H3,[(1,t1),(5,t5),(9,t9),(10,t10),(11,t11),(37,(V (.bool true)))]⟩) (
   z02 (some (0,1)) t5 fun t20 =>
   z04 1 H3 t20 fun t21 =>
   z02 (some (2,1)) t1 fun t22 =>
   z04 1 H3 t22 fun t23 =>
   zMe none false false .sub t21 t23 fun t24 =>
   zMe none false false .gtr t24 (V (.int .i64 16)) fun t25 =>
   z0o t25 (
   z5H m H.length kc kx ⟨H3,[(1,t1),(5,t5),(9,t9),(10,t10),(11,t11),(37,(V (.bool true)))]⟩) (
   z02 (some (1,1)) t5 fun t28 =>
   z04 1 H3 t28 fun t29 =>
   zMe none false false .lss t29 (V (.int .i64 0)) fun t30 =>
   z0o t30 (
   z5H m H.length kc kx ⟨H3,[(1,t1),(5,t5),(9,t9),(10,t10),(11,t11),(37,(V (.bool true)))]⟩) (
   z02 (some (3,1)) t5 fun t33 =>
   z04 1 H3 t33 fun t34 =>
   zLZ true false H3 t34 fun t35 =>
   zMe none false false .gtr t35 (V (.int .i64 65536)) fun t36 =>
   z5H m H.length kc kx ⟨H3,[(1,t1),(5,t5),(9,t9),(10,t10),(11,t11),(37,t36)]⟩)))) (
  kx (.exit 0) ⟨H,[(2, .nil)]⟩) := by
 refine (z0F _ _ _ _ _ _ _ _ _ _ _ _).trans ?_
 kernel_rfl
theorem zmx (m : Nat) (t0 : AV) : zay m t0 =
 zN2 z00 [] t0 fun t1 H1 =>
 z02 (some (2,1)) t1 fun t6 =>
 z04 1 H1 t6 fun t7 =>
 z02 (some (5,1)) t1 fun t8 =>
 z04 1 H1 t8 fun t9 =>
 zLZ false true H1 t9 fun t10 =>
 z7c m (zgF m) ⟨H1,[(1,t1),(3,t7),(9,t9),(10,t10),(11,(V (.int .i64 0)))]⟩ (z0P 0 (zM3 (fun s=>zgQ m ⟨s.H,[]⟩) (zaA))) := by
 refine (z8O _ _ _ _ _ _ _ _ _).trans ?_
 kernel_rfl
def zdK (m : Nat) : List AV → RO|[t0]=>zay m t0|_=>none
theorem zmJ (m : Nat) : ∀ args X H',zdK m args = some (X,H') → ACp Try.prog GG 74 args X := by
 intro args X H' h
 unfold zdK at h
 split at h
 ·exact z0B MIX (by intro f e h;cases h) (f := 74) (c := z37) Try.func74 rfl (by kernel_rfl) _ rfl Try.ntmps74 (Nat.le_of_ble_eq_true rfl) choose_certs_h h
 ·cases h
def z4U : Code := (Try.f51.body).getD .skip
def choose_May_h : Hint := (.two .n (.two (.two .n (.two .n (.two (.two .n .n) .n))) (.two .n (.join [1,7] (.two .n (.one (.lp [] [1,7,17,18,19] [1,4,7] (.two .n (.two (.two .n .n) (.join [1,7,17,18,19] (.one (.two .n (.join [1,7,9,17,18,19] (.join [1,7,9,17,18,19,58] .n (.two (.two .n .n) .n)) .n))) .n)))))) (.two .n .n)))))
def z36 (m : Nat) : Env := [(32, .tell (z3n m)),(38, .tell (zds m)),(62, .tell (zfX m)),(74, .tell (zdK m)),(63, .tell (z5V m)),(75, .tell (zaU m))]
abbrev zdD : KO (AV × List AObj) := z1L Try.prog [.tmp 4]
def zf9 (m : Nat) (n0 : Nat) (kc : ASt → RO) (kx : KO (AV × List AObj)) (s : ASt) : RO := z11 Try.prog GG (z36 m) m ⟨67,[]⟩ (cdR (cdR (cdR (cdL (cdL (cdR (cdL (cdR (cdR (cdR z4U)))))))))) choose_May_h.r.r.r.l.r.c.c.r.r.r s (z5s n0 [1,7,17,18,19] [1,4,7] kc kx)
def zpb (m : Nat) (n0 : Nat) (kc : ASt → RO) (kx : KO (AV × List AObj)) (s : ASt) : RO := z11 Try.prog GG (z36 m) m ⟨67,[]⟩ (cdR (cdR (cdR (cdL (cdL (cdR (cdL (cdR (cdR (cdR z4U)))))))))) choose_May_h.r.r.r.l.r.c.c.r.r.r s (z5s n0 [1,7,17,18,19] [1,4,7] kc kx)
def zfp (m : Nat) (n0 : Nat) (kc : ASt → RO) (kx : KO (AV × List AObj)) (s : ASt) : RO := z11 Try.prog GG (z36 m) m ⟨67,[]⟩ (cdR (cdR (cdL (cdL (cdR (cdR (cdL (cdL (cdR (cdL (cdR (cdR (cdR z4U))))))))))))) choose_May_h.r.r.r.l.r.c.c.r.r.l.c.r.r s (z0P 1 (zM3 (fun s=>zf9 m n0 kc kx ⟨s.H,[(1,gt s.T 1),(7,gt s.T 7),(17,gt s.T 17),(18,gt s.T 18),(19,gt s.T 19)]⟩) (z5s n0 [1,7,17,18,19] [1,4,7] kc kx)))
def z38 (m : Nat) (n0 : Nat) (kc : ASt → RO) (kx : KO (AV × List AObj)) (s : ASt) : RO := z11 Try.prog GG (z36 m) m ⟨67,[]⟩ (cdR (cdL (cdR (cdL (cdL (cdR (cdR (cdL (cdL (cdR (cdL (cdR (cdR (cdR z4U)))))))))))))) choose_May_h.r.r.r.l.r.c.c.r.r.l.c.r.l.r s (zM3 (fun s=>zfp m n0 kc kx ⟨s.H,[(1,gt s.T 1),(7,gt s.T 7),(9,gt s.T 9),(17,gt s.T 17),(18,gt s.T 18),(19,gt s.T 19)]⟩) (z0P 1 (zM3 (fun s=>zpb m n0 kc kx ⟨s.H,[(1,gt s.T 1),(7,gt s.T 7),(17,gt s.T 17),(18,gt s.T 18),(19,gt s.T 19)]⟩) (z5s n0 [1,7,17,18,19] [1,4,7] kc kx))))
def zkm (m : Nat) (s : ASt) : RO := z11 Try.prog GG (z36 m) m ⟨67,[]⟩ (cdR (cdR (cdR (cdR z4U)))) choose_May_h.r.r.r.r s (zdD)
def zkk (m : Nat) (s : ASt) (kc : ASt → RO) (kx : KO (AV × List AObj)) : RO := z8G Try.prog GG (z36 m) m ⟨67,[]⟩ (cdL (cdL (cdR (cdL (cdR (cdR (cdR z4U))))))) choose_May_h.r.r.r.l.r.c.c [1,7,17,18,19] [1,4,7] s kc kx
def zc2 (m : Nat) (t0 t1 : AV) : RO := zLa Try.prog GG (z36 m) m ⟨67,[]⟩ z4U choose_May_h ⟨[],z14 0 [t0,t1]⟩ (zdD)
theorem z4D (m : Nat) (n0 : Nat) (kc : ASt → RO) (kx : KO (AV × List AObj)) (H : List AObj) (t1 t7 t17 t18 t19 : AV) : zf9 m n0 kc kx ⟨H,[(1,t1),(7,t7),(17,t17),(18,t18),(19,t19)]⟩ =
 zMe none false false .add t19 (V (.int .i64 1)) fun t63 =>
 z7z n0 H [(1,t1),(7,t7),(17,t17),(18,t18),(19,t63)] kc := by
 refine (z03 _ _ _ _ _ _ _ _ _).trans ?_
 kernel_rfl
theorem z4S (m : Nat) (n0 : Nat) (kc : ASt → RO) (kx : KO (AV × List AObj)) (H : List AObj) (t1 t7 t9 t17 t18 t19 : AV) : zfp m n0 kc kx ⟨H,[(1,t1),(7,t7),(9,t9),(17,t17),(18,t18),(19,t19)]⟩ =
 z02 (some (0,1)) t9 fun t60 =>
 z04 1 H t60 fun t61 =>
 z1D (zc4 m (ro H t7) (ro H t61)) [(ro H t7),(ro H t61)] fun t62 =>
 zf9 m n0 kc kx ⟨H,[(1,t1),(7,t62),(17,t17),(18,t18),(19,t19)]⟩ := by
 refine (z03 _ _ _ _ _ _ _ _ _).trans ?_
 kernel_rfl
theorem z4F (m : Nat) (n0 : Nat) (kc : ASt → RO) (kx : KO (AV × List AObj)) (H : List AObj) (t1 t7 t9 t17 t18 t19 t58 : AV) : z38 m n0 kc kx ⟨H,[(1,t1),(7,t7),(9,t9),(17,t17),(18,t18),(19,t19),(58,t58)]⟩ =
 z0o t58 (
  kx .ret ⟨H,[(1,t1),(4,(V (.bool false))),(7,t7)]⟩) (
  zfp m n0 kc kx ⟨H,[(1,t1),(7,t7),(9,t9),(17,t17),(18,t18),(19,t19)]⟩) := by
 refine (z03 _ _ _ _ _ _ _ _ _).trans ?_
 kernel_rfl
theorem zfr (m : Nat) (H : List AObj) (t1 t7 : AV) : zkm m ⟨H,[(1,t1),(7,t7)]⟩ =
 z1D (z5N m (ro H t7) (ro H t1)) [(ro H t7),(ro H t1)] fun t66 =>
 z1Z H (ro H t66) := by
 refine (z03 _ _ _ _ _ _ _ _ _).trans ?_
 kernel_rfl
theorem zeY (m : Nat) (H : List AObj) (t1 t7 t17 t18 t19 : AV) (kc : ASt → RO) (kx : KO (AV × List AObj)) : zkk m ⟨H,[(1,t1),(7,t7),(17,t17),(18,t18),(19,t19)]⟩ kc kx =
 zMe none false false .lss t19 t18 fun t20 =>
 z0o t20 (
  z3H 8 H t17 t19 fun t21 =>
  z04 8 H t21 fun t22 =>
  z2f (some zc_api_Change) z00 H fun t9 H2 =>
  z0I 8 H2 t9 t22 fun H3 =>
  z02 (some (0,1)) t9 fun t23 =>
  z04 1 H3 t23 fun t24 =>
  zMe none false false .lss t24 (V (.int .i64 0)) fun t25 =>
  z0o t25 (
   z38 m H.length kc kx ⟨H3,[(1,t1),(7,t7),(9,t9),(17,t17),(18,t18),(19,t19),(58,(V (.bool true)))]⟩) (
   z02 (some (0,1)) t9 fun t27 =>
   z04 1 H3 t27 fun t28 =>
   zMe none false false .geq t28 t1 fun t30 =>
   z0o t30 (
   z38 m H.length kc kx ⟨H3,[(1,t1),(7,t7),(9,t9),(17,t17),(18,t18),(19,t19),(58,(V (.bool true)))]⟩) (
   z02 (some (0,1)) t9 fun t34 =>
   z04 1 H3 t34 fun t35 =>
   z1D (zfA m (ro H3 t7) (ro H3 t35)) [(ro H3 t7),(ro H3 t35)] fun t36 =>
   z0o t36 (
   z38 m H.length kc kx ⟨H3,[(1,t1),(7,t7),(9,t9),(17,t17),(18,t18),(19,t19),(58,(V (.bool true)))]⟩) (
   z02 (some (2,1)) t9 fun t39 =>
   z04 1 H3 t39 fun t40 =>
   zMe none false false .neq t40 (V (.int .i64 0)) fun t41 =>
   z0o t41 (
   z02 (some (2,1)) t9 fun t43 =>
   z04 1 H3 t43 fun t44 =>
   z1D (zj6 m (ro H3 t44)) [(ro H3 t44)] fun t45 =>
   unE .not t45 fun t46 =>
   z0o t46 (
   z38 m H.length kc kx ⟨H3,[(1,t1),(7,t7),(9,t9),(17,t17),(18,t18),(19,t19),(58,(V (.bool true)))]⟩) (
   z02 (some (2,1)) t9 fun t50 =>
   z04 1 H3 t50 fun t51 =>
   zMe none false false .gtr t51 (V (.int .i64 2147483647)) fun t52 =>
   z0o t52 (
   z38 m H.length kc kx ⟨H3,[(1,t1),(7,t7),(9,t9),(17,t17),(18,t18),(19,t19),(58,(V (.bool true)))]⟩) (
   z04 8 H3 t9 fun t55 =>
   z1D (zay m (ro H3 t55)) [(ro H3 t55)] fun t56 =>
   unE .not t56 fun t57 =>
   z38 m H.length kc kx ⟨H3,[(1,t1),(7,t7),(9,t9),(17,t17),(18,t18),(19,t19),(58,t57)]⟩))) (
   z02 (some (2,1)) t9 fun t50 =>
   z04 1 H3 t50 fun t51 =>
   zMe none false false .gtr t51 (V (.int .i64 2147483647)) fun t52 =>
   z0o t52 (
   z38 m H.length kc kx ⟨H3,[(1,t1),(7,t7),(9,t9),(17,t17),(18,t18),(19,t19),(58,(V (.bool true)))]⟩) (
   z04 8 H3 t9 fun t55 =>
   z1D (zay m (ro H3 t55)) [(ro H3 t55)] fun t56 =>
   unE .not t56 fun t57 =>
   z38 m H.length kc kx ⟨H3,[(1,t1),(7,t7),(9,t9),(17,t17),(18,t18),(19,t19),(58,t57)]⟩)))))) (
  kx (.exit 0) ⟨H,[(1,t1),(4, .nil),(7,t7)]⟩) := by
 refine (z0F _ _ _ _ _ _ _ _ _ _ _ _).trans ?_
 kernel_rfl
theorem zku (m : Nat) (t0 t1 : AV) : zc2 m t0 t1 =
 z1D (z3L m (ro [] t1)) [(ro [] t1)] fun t12 =>
 zLC t12 0 fun t13 =>
 zLC t12 1 fun t14 =>
 zMe none false false .neq t14 (V (.int .i64 0)) fun t16 =>
 z0o t16 (
  z1Z [] (ro [] (V (.bool false)))) (
  zLZ false true [] t0 fun t18 =>
  z7c m (zkk m) ⟨[],[(1,t1),(7,(V (.int .u64 0))),(17,t0),(18,t18),(19,(V (.int .i64 0)))]⟩ (z0P 0 (zM3 (fun s=>zkm m ⟨s.H,[(1,gt s.T 1),(7,gt s.T 7)]⟩) (zdD)))) := by
 refine (z8O _ _ _ _ _ _ _ _ _).trans ?_
 kernel_rfl
def zdp (m : Nat) : List AV → RO|[t0,t1]=>zc2 m t0 t1|_=>none
theorem zkh (m : Nat) : ∀ args X H',zdp m args = some (X,H') → ACp Try.prog GG 51 args X := by
 intro args X H' h
 unfold zdp at h
 split at h
 ·exact z0B MIX (by
  intro f e h
  simp only [z36,Prod.mk.injEq,List.mem_cons,List.not_mem_nil,or_false] at h
  rcases h with ⟨rfl,rfl⟩|⟨rfl,rfl⟩|⟨rfl,rfl⟩|⟨rfl,rfl⟩|⟨rfl,rfl⟩|⟨rfl,rfl⟩
  ·exact z53 m
  ·exact zkr m
  ·exact zlU m
  ·exact zmJ m
  ·exact zcA m
  ·exact ziL m) (f := 51) (c := z4U) Try.func51 rfl (by kernel_rfl) _ rfl Try.ntmps51 (Nat.le_of_ble_eq_true rfl) choose_May_h h
 ·cases h
def za6 : Code := (Try.f76.body).getD .skip
def choose_Low_h : Hint := (.two .n (.two (.two .n (.two (.two .n .n) .n)) (.two .n (.join [7] (.two .n (.one (.lp [] [7,17,18,19] [7] (.two .n (.two (.two .n .n) (.join [7,17,18,19] (.one (.two .n (.two .n (.two .n .n)))) .n)))))) (.two .n .n)))))
def z74 (m : Nat) : Env := [(51, .tell (zdp m))]
abbrev zdT : KO (AV × List AObj) := z1L Try.prog [.tmp 4, .tmp 5, .tmp 6]
def zfq (m : Nat) (n0 : Nat) (kc : ASt → RO) (kx : KO (AV × List AObj)) (s : ASt) : RO := z11 Try.prog GG (z74 m) m ⟨34,[]⟩ (cdR (cdR (cdR (cdL (cdL (cdR (cdL (cdR (cdR (cdR za6)))))))))) choose_Low_h.r.r.r.l.r.c.c.r.r.r s (z5s n0 [7,17,18,19] [7] kc kx)
def zkA (m : Nat) (s : ASt) : RO := z11 Try.prog GG (z74 m) m ⟨34,[]⟩ (cdR (cdR (cdR (cdR za6)))) choose_Low_h.r.r.r.r s (zdT)
def zkf (m : Nat) (s : ASt) (kc : ASt → RO) (kx : KO (AV × List AObj)) : RO := z8G Try.prog GG (z74 m) m ⟨34,[]⟩ (cdL (cdL (cdR (cdL (cdR (cdR (cdR za6))))))) choose_Low_h.r.r.r.l.r.c.c [7,17,18,19] [7] s kc kx
def zhS (m : Nat) (t0 t1 : AV) : RO := zLa Try.prog GG (z74 m) m ⟨34,[]⟩ za6 choose_Low_h ⟨[],z14 0 [t0,t1]⟩ (zdT)
theorem zfd (m : Nat) (n0 : Nat) (kc : ASt → RO) (kx : KO (AV × List AObj)) (H : List AObj) (t7 t17 t18 t19 : AV) : zfq m n0 kc kx ⟨H,[(7,t7),(17,t17),(18,t18),(19,t19)]⟩ =
 zMe none false false .add t19 (V (.int .i64 1)) fun t29 =>
 z7z n0 H [(7,t7),(17,t17),(18,t18),(19,t29)] kc := by
 refine (z03 _ _ _ _ _ _ _ _ _).trans ?_
 kernel_rfl
theorem zlz (m : Nat) (H : List AObj) (t7 : AV) : zkA m ⟨H,[(7,t7)]⟩ =
 z02 (some (2,1)) t7 fun t30 =>
 z04 1 H t30 fun t31 =>
 z02 (some (3,1)) t7 fun t32 =>
 z04 1 H t32 fun t33 =>
 z1Z H (ro H (TU [noT t31,noT t33,noT (V (.int .i64 0))])) := by
 refine (z03 _ _ _ _ _ _ _ _ _).trans ?_
 kernel_rfl
theorem zlB (m : Nat) (H : List AObj) (t7 t17 t18 t19 : AV) (kc : ASt → RO) (kx : KO (AV × List AObj)) : zkf m ⟨H,[(7,t7),(17,t17),(18,t18),(19,t19)]⟩ kc kx =
 zMe none false false .lss t19 t18 fun t20 =>
 z0o t20 (
  z3H 8 H t17 t19 fun t21 =>
  z04 8 H t21 fun t22 =>
  z2f (some zc_api_Change) z00 H fun t9 H2 =>
  z0I 8 H2 t9 t22 fun H3 =>
  z02 (some (2,1)) t9 fun t23 =>
  z04 1 H3 t23 fun t24 =>
  z02 (some (2,1)) t7 fun t25 =>
  z04 1 H3 t25 fun t26 =>
  zMe none false false .gtr t24 t26 fun t27 =>
  z0o t27 (
   z04 8 H3 t9 fun t28 =>
   z0I 8 H3 t7 t28 fun H4 =>
   zfq m H.length kc kx ⟨H4,[(7,t7),(17,t17),(18,t18),(19,t19)]⟩) (
   zfq m H.length kc kx ⟨H3,[(7,t7),(17,t17),(18,t18),(19,t19)]⟩)) (
  kx (.exit 0) ⟨H,[(7,t7)]⟩) := by
 refine (z0F _ _ _ _ _ _ _ _ _ _ _ _).trans ?_
 kernel_rfl
theorem zpl (m : Nat) (t0 t1 : AV) : zhS m t0 t1 =
 z1D (zc2 m (ro [] t0) (ro [] t1)) [(ro [] t0),(ro [] t1)] fun t12 =>
 unE .not t12 fun t13 =>
 z0o t13 (
  z1Z [] (ro [] (TU [noT (V (.int .i64 0)),noT (V (.int .i64 0)),noT (V (.int .i64 1))]))) (
  z3H 8 [] t0 (V (.int .i64 0)) fun t15 =>
  z04 8 [] t15 fun t16 =>
  z2f (some zc_api_Change) z00 [] fun t7 H1 =>
  z0I 8 H1 t7 t16 fun H2 =>
  zLZ false true H2 t0 fun t18 =>
  z7c m (zkf m) ⟨H2,[(7,t7),(17,t0),(18,t18),(19,(V (.int .i64 0)))]⟩ (z0P 0 (zM3 (fun s=>zkA m ⟨s.H,[(7,gt s.T 7)]⟩) (zdT)))) := by
 refine (z8O _ _ _ _ _ _ _ _ _).trans ?_
 kernel_rfl
def zhn (m : Nat) : List AV → RO|[t0,t1]=>zhS m t0 t1|_=>none
theorem zp8 (m : Nat) : ∀ args X H',zhn m args = some (X,H') → ACp Try.prog GG 76 args X := by
 intro args X H' h
 unfold zhn at h
 split at h
 ·exact z0B MIX (by
  intro f e h
  simp only [z74,Prod.mk.injEq,List.mem_cons,List.not_mem_nil,or_false] at h
  obtain ⟨rfl,rfl⟩ := h
  ·exact zkh m) (f := 76) (c := za6) Try.func76 rfl (by kernel_rfl) _ rfl Try.ntmps76 (Nat.le_of_ble_eq_true rfl) choose_Low_h h
 ·cases h
def z0y : Code := (Try.f53.body).getD .skip
def plenumref31_May_h : Hint := (.two .n (.two .n (.join [0,1] (.join [0,1,22] .n (.two (.two .n .n) .n)) (.join [] (.two .n (.one (.lp [] [0,1,6] [4] (.two (.two .n (.two .n .n)) (.join [0,1,6] (.one (.two .n (.join [0,1,6,7] (.join [0,1,6,7,57] .n (.two (.two .n .n) .n)) (.join [0,1,6,7] (.two .n (.one (.lp [] [0,1,6,7,8] [0,1,4,6,7] (.two (.two .n (.two .n .n)) (.two (.one (.two .n (.two (.two .n .n) .n))) .n))))) (.two .n (.one (.lp [] [0,1,6,7,9] [0,1,4,6] (.two (.two .n (.two .n .n)) (.join [0,1,6,7,9] (.one (.two .n (.join [0,1,6,7,9,122] .n (.two (.two .n .n) .n)))) .n))))))))) .n))))) (.two .n .n)))))
def z0u (m : Nat) : Env := [(42, .tell (z1R m)),(48, .tell (z5X m))]
abbrev z3c : KO (AV × List AObj) := z1L Try.prog [.tmp 4]
def z79 (m : Nat) (n0 : Nat) (kc : ASt → RO) (kx : KO (AV × List AObj)) (s : ASt) : RO := z11 Try.prog GG (z0u m) m ⟨123,[]⟩ (cdR (cdR (cdL (cdL (cdR (cdR (cdR (cdR (cdL (cdL (cdR (cdL (cdL (cdR (cdL (cdR (cdR (cdR z0y)))))))))))))))))) plenumref31_May_h.r.r.r.l.r.c.c.r.l.c.r.r.r.r.c.c.r.r s (z5s n0 [0,1,6,7,9] [0,1,4,6] kc kx)
def z1c (m : Nat) (n0 : Nat) (kc : ASt → RO) (kx : KO (AV × List AObj)) (s : ASt) : RO := z11 Try.prog GG (z0u m) m ⟨123,[]⟩ (cdR (cdR (cdL (cdL (cdR (cdL (cdL (cdR (cdR (cdR (cdR (cdL (cdL (cdR (cdL (cdL (cdR (cdL (cdR (cdR (cdR z0y))))))))))))))))))))) plenumref31_May_h.r.r.r.l.r.c.c.r.l.c.r.r.r.r.c.c.r.l.c.r.r s (z0P 5 (zM3 (fun s=>z79 m n0 kc kx ⟨s.H,[(0,gt s.T 0),(1,gt s.T 1),(6,gt s.T 6),(7,gt s.T 7),(9,gt s.T 9)]⟩) (z5s n0 [0,1,6,7,9] [0,1,4,6] kc kx)))
def z85 (m : Nat) (n0 : Nat) (kc : ASt → RO) (kx : KO (AV × List AObj)) (s : ASt) : RO := z11 Try.prog GG (z0u m) m ⟨123,[]⟩ (cdR (cdR (cdL (cdL (cdR (cdL (cdR (cdR (cdR z0y))))))))) plenumref31_May_h.r.r.r.l.r.c.c.r.r s (z5s n0 [0,1,6] [4] kc kx)
def zcm (m : Nat) (n0 : Nat) (kc : ASt → RO) (kx : KO (AV × List AObj)) (s : ASt) : RO := z11 Try.prog GG (z0u m) m ⟨123,[]⟩ (cdR (cdR (cdL (cdL (cdR (cdL (cdR (cdR (cdR z0y))))))))) plenumref31_May_h.r.r.r.l.r.c.c.r.r s (z5s n0 [0,1,6] [4] kc kx)
def zcz (m : Nat) (s : ASt) (kc : ASt → RO) (kx : KO (AV × List AObj)) : RO := z8G Try.prog GG (z0u m) m ⟨123,[]⟩ (cdL (cdL (cdR (cdR (cdR (cdR (cdL (cdL (cdR (cdL (cdL (cdR (cdL (cdR (cdR (cdR z0y)))))))))))))))) plenumref31_May_h.r.r.r.l.r.c.c.r.l.c.r.r.r.r.c.c [0,1,6,7,9] [0,1,4,6] s kc kx
def z7N (m : Nat) (n0 : Nat) (kc : ASt → RO) (kx : KO (AV × List AObj)) (s : ASt) : RO := z11 Try.prog GG (z0u m) m ⟨123,[]⟩ (cdR (cdR (cdR (cdL (cdL (cdR (cdL (cdL (cdR (cdL (cdR (cdR (cdR z0y))))))))))))) plenumref31_May_h.r.r.r.l.r.c.c.r.l.c.r.r.r s (z0P 1 (zM3 (fun s=>z85 m n0 kc kx ⟨s.H,[(0,gt s.T 0),(1,gt s.T 1),(6,gt s.T 6)]⟩) (z5s n0 [0,1,6] [4] kc kx)))
def zjd (m : Nat) (n0 : Nat) (kc : ASt → RO) (kx : KO (AV × List AObj)) (s : ASt) : RO := z11 Try.prog GG (z0u m) m ⟨123,[]⟩ (cdR (cdR (cdL (cdL (cdR (cdL (cdR (cdR (cdR z0y))))))))) plenumref31_May_h.r.r.r.l.r.c.c.r.r s (z5s n0 [0,1,6] [4] kc kx)
def zc3 (m : Nat) (s : ASt) (kc : ASt → RO) (kx : KO (AV × List AObj)) : RO := z8G Try.prog GG (z0u m) m ⟨123,[]⟩ (cdL (cdL (cdR (cdL (cdR (cdR (cdL (cdL (cdR (cdL (cdL (cdR (cdL (cdR (cdR (cdR z0y)))))))))))))))) plenumref31_May_h.r.r.r.l.r.c.c.r.l.c.r.r.l.r.c.c [0,1,6,7,8] [0,1,4,6,7] s kc kx
def z5f (m : Nat) (n0 : Nat) (kc : ASt → RO) (kx : KO (AV × List AObj)) (s : ASt) : RO := z11 Try.prog GG (z0u m) m ⟨123,[]⟩ (cdR (cdR (cdL (cdL (cdR (cdL (cdL (cdR (cdL (cdR (cdR (cdR z0y)))))))))))) plenumref31_May_h.r.r.r.l.r.c.c.r.l.c.r.r s (z0P 1 (zM3 (fun s=>zcm m n0 kc kx ⟨s.H,[(0,gt s.T 0),(1,gt s.T 1),(6,gt s.T 6)]⟩) (z5s n0 [0,1,6] [4] kc kx)))
def z2u (m : Nat) (n0 : Nat) (kc : ASt → RO) (kx : KO (AV × List AObj)) (s : ASt) : RO := z11 Try.prog GG (z0u m) m ⟨123,[]⟩ (cdR (cdL (cdR (cdL (cdL (cdR (cdL (cdL (cdR (cdL (cdR (cdR (cdR z0y))))))))))))) plenumref31_May_h.r.r.r.l.r.c.c.r.l.c.r.l.r s (zM3 (fun s=>z5f m n0 kc kx ⟨s.H,[(0,gt s.T 0),(1,gt s.T 1),(6,gt s.T 6),(7,gt s.T 7)]⟩) (z0P 1 (zM3 (fun s=>zjd m n0 kc kx ⟨s.H,[(0,gt s.T 0),(1,gt s.T 1),(6,gt s.T 6)]⟩) (z5s n0 [0,1,6] [4] kc kx))))
def zbN (m : Nat) (s : ASt) : RO := z11 Try.prog GG (z0u m) m ⟨123,[]⟩ (cdR (cdR (cdR (cdR z0y)))) plenumref31_May_h.r.r.r.r s (z3c)
def zcj (m : Nat) (s : ASt) (kc : ASt → RO) (kx : KO (AV × List AObj)) : RO := z8G Try.prog GG (z0u m) m ⟨123,[]⟩ (cdL (cdL (cdR (cdL (cdR (cdR (cdR z0y))))))) plenumref31_May_h.r.r.r.l.r.c.c [0,1,6] [4] s kc kx
def z5j (m : Nat) (s : ASt) : RO := z11 Try.prog GG (z0u m) m ⟨123,[]⟩ (cdR (cdR (cdR z0y))) plenumref31_May_h.r.r.r s (z3c)
def z7V (m : Nat) (s : ASt) : RO := z11 Try.prog GG (z0u m) m ⟨123,[]⟩ (cdR (cdL (cdR (cdR z0y)))) plenumref31_May_h.r.r.l.r s (zM3 (fun s=>z5j m ⟨s.H,[(0,gt s.T 0),(1,gt s.T 1)]⟩) (z3c))
def z8i (m : Nat) (t0 t1 : AV) : RO := zLa Try.prog GG (z0u m) m ⟨123,[]⟩ z0y plenumref31_May_h ⟨[],z14 0 [t0,t1]⟩ (z3c)
theorem z8E (m : Nat) (n0 : Nat) (kc : ASt → RO) (kx : KO (AV × List AObj)) (H : List AObj) (t0 t1 t6 t7 t9 : AV) : z79 m n0 kc kx ⟨H,[(0,t0),(1,t1),(6,t6),(7,t7),(9,t9)]⟩ =
 zMe none false false .add t9 (V (.int .i64 1)) fun t77 =>
 z7z n0 H [(0,t0),(1,t1),(6,t6),(7,t7),(9,t77)] kc := by
 refine (z03 _ _ _ _ _ _ _ _ _).trans ?_
 kernel_rfl
theorem z0L (m : Nat) (n0 : Nat) (kc : ASt → RO) (kx : KO (AV × List AObj)) (H : List AObj) (t0 t1 t6 t7 t9 t122 : AV) : z1c m n0 kc kx ⟨H,[(0,t0),(1,t1),(6,t6),(7,t7),(9,t9),(122,t122)]⟩ =
 z0o t122 (
  kx .ret ⟨H,[(0,t0),(1,t1),(4,(V (.bool false))),(6,t6)]⟩) (
  z79 m n0 kc kx ⟨H,[(0,t0),(1,t1),(6,t6),(7,t7),(9,t9)]⟩) := by
 refine (z03 _ _ _ _ _ _ _ _ _).trans ?_
 kernel_rfl
theorem zga (m : Nat) (n0 : Nat) (kc : ASt → RO) (kx : KO (AV × List AObj)) (H : List AObj) (t0 t1 t6 : AV) : z85 m n0 kc kx ⟨H,[(0,t0),(1,t1),(6,t6)]⟩ =
 zMe none false false .add t6 (V (.int .i64 1)) fun t28 =>
 z7z n0 H [(0,t0),(1,t1),(6,t28)] kc := by
 refine (z03 _ _ _ _ _ _ _ _ _).trans ?_
 kernel_rfl
theorem zgc (m : Nat) (H : List AObj) (t0 t1 t6 t7 t9 : AV) (kc : ASt → RO) (kx : KO (AV × List AObj)) : zcz m ⟨H,[(0,t0),(1,t1),(6,t6),(7,t7),(9,t9)]⟩ kc kx =
 z02 (some (5,1)) t7 fun t72 =>
 z04 1 H t72 fun t73 =>
 zLZ false true H t73 fun t74 =>
 zMe none false false .lss t9 t74 fun t75 =>
 z0o t75 (
  z02 (some (5,1)) t7 fun t78 =>
  z04 1 H t78 fun t79 =>
  z3H 7 H t79 t9 fun t81 =>
  z04 7 H t81 fun t82 =>
  z2f (some zc_api_Cert) z07 H fun t10 H2 =>
  z0I 7 H2 t10 t82 fun H3 =>
  z02 (some (0,1)) t10 fun t83 =>
  z04 1 H3 t83 fun t84 =>
  z02 (some (2,1)) t7 fun t85 =>
  z04 1 H3 t85 fun t86 =>
  zMe none false false .leq t84 t86 fun t87 =>
  z0o t87 (
   z1c m H.length kc kx ⟨H3,[(0,t0),(1,t1),(6,t6),(7,t7),(9,t9),(122,(V (.bool true)))]⟩) (
   z02 (some (0,1)) t10 fun t89 =>
   z04 1 H3 t89 fun t90 =>
   z02 (some (2,1)) t7 fun t91 =>
   z04 1 H3 t91 fun t92 =>
   zMe none false false .add t92 (V (.int .i64 16)) fun t93 =>
   zMe none false false .gtr t90 t93 fun t94 =>
   z0o t94 (
   z1c m H.length kc kx ⟨H3,[(0,t0),(1,t1),(6,t6),(7,t7),(9,t9),(122,(V (.bool true)))]⟩) (
   zMe none false false .gtr t9 (V (.int .i64 0)) fun t98 =>
   z0o t98 (
   z02 (some (0,1)) t10 fun t100 =>
   z04 1 H3 t100 fun t101 =>
   z02 (some (5,1)) t7 fun t102 =>
   z04 1 H3 t102 fun t103 =>
   zMe none false false .sub t9 (V (.int .i64 1)) fun t105 =>
   z3H 7 H3 t103 t105 fun t106 =>
   z02 (some (0,1)) t106 fun t107 =>
   z04 1 H3 t107 fun t108 =>
   zMe none false false .leq t101 t108 fun t109 =>
   z0o t109 (
   z1c m H.length kc kx ⟨H3,[(0,t0),(1,t1),(6,t6),(7,t7),(9,t9),(122,(V (.bool true)))]⟩) (
   z02 (some (1,1)) t10 fun t113 =>
   z04 1 H3 t113 fun t114 =>
   zMe none false false .lss t114 (V (.int .i64 0)) fun t115 =>
   z0o t115 (
   z1c m H.length kc kx ⟨H3,[(0,t0),(1,t1),(6,t6),(7,t7),(9,t9),(122,(V (.bool true)))]⟩) (
   z02 (some (3,1)) t10 fun t118 =>
   z04 1 H3 t118 fun t119 =>
   zLZ true false H3 t119 fun t120 =>
   zMe none false false .gtr t120 (V (.int .i64 65536)) fun t121 =>
   z1c m H.length kc kx ⟨H3,[(0,t0),(1,t1),(6,t6),(7,t7),(9,t9),(122,t121)]⟩))) (
   z02 (some (1,1)) t10 fun t113 =>
   z04 1 H3 t113 fun t114 =>
   zMe none false false .lss t114 (V (.int .i64 0)) fun t115 =>
   z0o t115 (
   z1c m H.length kc kx ⟨H3,[(0,t0),(1,t1),(6,t6),(7,t7),(9,t9),(122,(V (.bool true)))]⟩) (
   z02 (some (3,1)) t10 fun t118 =>
   z04 1 H3 t118 fun t119 =>
   zLZ true false H3 t119 fun t120 =>
   zMe none false false .gtr t120 (V (.int .i64 65536)) fun t121 =>
   z1c m H.length kc kx ⟨H3,[(0,t0),(1,t1),(6,t6),(7,t7),(9,t9),(122,t121)]⟩))))) (
  kx (.exit 4) ⟨H,[(0,t0),(1,t1),(4, .nil),(6,t6)]⟩) := by
 refine (z0F _ _ _ _ _ _ _ _ _ _ _ _).trans ?_
 kernel_rfl
theorem zg4 (m : Nat) (n0 : Nat) (kc : ASt → RO) (kx : KO (AV × List AObj)) (H : List AObj) (t0 t1 t6 t7 : AV) : z7N m n0 kc kx ⟨H,[(0,t0),(1,t1),(6,t6),(7,t7)]⟩ =
 z7c m (zcz m) ⟨H,[(0,t0),(1,t1),(6,t6),(7,t7),(9,(V (.int .i64 0)))]⟩ (z0P 4 (z0P 1 (zM3 (fun s=>z85 m n0 kc kx ⟨s.H,[(0,gt s.T 0),(1,gt s.T 1),(6,gt s.T 6)]⟩) (z5s n0 [0,1,6] [4] kc kx)))) := by
 refine (z03 _ _ _ _ _ _ _ _ _).trans ?_
 kernel_rfl
theorem zg1 (m : Nat) (H : List AObj) (t0 t1 t6 t7 t8 : AV) (kc : ASt → RO) (kx : KO (AV × List AObj)) : zc3 m ⟨H,[(0,t0),(1,t1),(6,t6),(7,t7),(8,t8)]⟩ kc kx =
 zMe none false false .lss t8 t6 fun t60 =>
 z0o t60 (
  z3H 8 H t0 t8 fun t65 =>
  z02 (some (0,1)) t65 fun t66 =>
  z04 1 H t66 fun t67 =>
  z02 (some (0,1)) t7 fun t68 =>
  z04 1 H t68 fun t69 =>
  zMe none false false .eql t67 t69 fun t70 =>
  z0o t70 (
   kx .ret ⟨H,[(0,t0),(1,t1),(4,(V (.bool false))),(6,t6),(7,t7)]⟩) (
   zMe none false false .add t8 (V (.int .i64 1)) fun t62 =>
   z7z H.length H [(0,t0),(1,t1),(6,t6),(7,t7),(8,t62)] kc)) (
  kx (.exit 2) ⟨H,[(0,t0),(1,t1),(4, .nil),(6,t6),(7,t7)]⟩) := by
 refine (z0F _ _ _ _ _ _ _ _ _ _ _ _).trans ?_
 kernel_rfl
theorem zgg (m : Nat) (n0 : Nat) (kc : ASt → RO) (kx : KO (AV × List AObj)) (H : List AObj) (t0 t1 t6 t7 : AV) : z5f m n0 kc kx ⟨H,[(0,t0),(1,t1),(6,t6),(7,t7)]⟩ =
 z7c m (zc3 m) ⟨H,[(0,t0),(1,t1),(6,t6),(7,t7),(8,(V (.int .i64 0)))]⟩ (z0P 2 (zM3 (fun s=>z7N m n0 kc kx ⟨s.H,[(0,gt s.T 0),(1,gt s.T 1),(6,gt s.T 6),(7,gt s.T 7)]⟩) (z0P 1 (zM3 (fun s=>zcm m n0 kc kx ⟨s.H,[(0,gt s.T 0),(1,gt s.T 1),(6,gt s.T 6)]⟩) (z5s n0 [0,1,6] [4] kc kx))))) := by
 refine (z03 _ _ _ _ _ _ _ _ _).trans ?_
 kernel_rfl
theorem z0J (m : Nat) (n0 : Nat) (kc : ASt → RO) (kx : KO (AV × List AObj)) (H : List AObj) (t0 t1 t6 t7 t57 : AV) : z2u m n0 kc kx ⟨H,[(0,t0),(1,t1),(6,t6),(7,t7),(57,t57)]⟩ =
 z0o t57 (
  kx .ret ⟨H,[(4,(V (.bool false)))]⟩) (
  z5f m n0 kc kx ⟨H,[(0,t0),(1,t1),(6,t6),(7,t7)]⟩) := by
 refine (z03 _ _ _ _ _ _ _ _ _).trans ?_
 kernel_rfl
theorem zg3 (m : Nat) (H : List AObj) : zbN m ⟨H,[]⟩ =
 z1Z H (ro H (V (.bool true))) := by
 refine (z03 _ _ _ _ _ _ _ _ _).trans ?_
 kernel_rfl
theorem zg5 (m : Nat) (H : List AObj) (t0 t1 t6 : AV) (kc : ASt → RO) (kx : KO (AV × List AObj)) : zcj m ⟨H,[(0,t0),(1,t1),(6,t6)]⟩ kc kx =
 zLZ false true H t0 fun t25 =>
 zMe none false false .lss t6 t25 fun t26 =>
 z0o t26 (
  z3H 8 H t0 t6 fun t31 =>
  z04 8 H t31 fun t32 =>
  z2f (some zc_api_Change) z00 H fun t7 H2 =>
  z0I 8 H2 t7 t32 fun H3 =>
  z02 (some (0,1)) t7 fun t33 =>
  z04 1 H3 t33 fun t34 =>
  zMe none false false .lss t34 (V (.int .i64 0)) fun t35 =>
  z0o t35 (
   z2u m H.length kc kx ⟨H3,[(0,t0),(1,t1),(6,t6),(7,t7),(57,(V (.bool true)))]⟩) (
   z02 (some (0,1)) t7 fun t37 =>
   z04 1 H3 t37 fun t38 =>
   zMe none false false .geq t38 t1 fun t40 =>
   z0o t40 (
   z2u m H.length kc kx ⟨H3,[(0,t0),(1,t1),(6,t6),(7,t7),(57,(V (.bool true)))]⟩) (
   z02 (some (2,1)) t7 fun t43 =>
   z04 1 H3 t43 fun t44 =>
   zMe none false false .neq t44 (V (.int .i64 0)) fun t45 =>
   z0o t45 (
   z02 (some (2,1)) t7 fun t47 =>
   z04 1 H3 t47 fun t48 =>
   z1D (z5G m (ro H3 t48)) [(ro H3 t48)] fun t49 =>
   unE .not t49 fun t50 =>
   z0o t50 (
   z2u m H.length kc kx ⟨H3,[(0,t0),(1,t1),(6,t6),(7,t7),(57,(V (.bool true)))]⟩) (
   z02 (some (2,1)) t7 fun t54 =>
   z04 1 H3 t54 fun t55 =>
   zMe none false false .gtr t55 (V (.int .i64 2147483647)) fun t56 =>
   z2u m H.length kc kx ⟨H3,[(0,t0),(1,t1),(6,t6),(7,t7),(57,t56)]⟩)) (
   z02 (some (2,1)) t7 fun t54 =>
   z04 1 H3 t54 fun t55 =>
   zMe none false false .gtr t55 (V (.int .i64 2147483647)) fun t56 =>
   z2u m H.length kc kx ⟨H3,[(0,t0),(1,t1),(6,t6),(7,t7),(57,t56)]⟩)))) (
  kx (.exit 0) ⟨H,[(4, .nil)]⟩) := by
 refine (z0F _ _ _ _ _ _ _ _ _ _ _ _).trans ?_
 kernel_rfl
theorem zgb (m : Nat) (H : List AObj) (t0 t1 : AV) : z5j m ⟨H,[(0,t0),(1,t1)]⟩ =
 z7c m (zcj m) ⟨H,[(0,t0),(1,t1),(6,(V (.int .i64 0)))]⟩ (z0P 0 (zM3 (fun s=>zbN m ⟨s.H,[]⟩) (z3c))) := by
 refine (z03 _ _ _ _ _ _ _ _ _).trans ?_
 kernel_rfl
theorem z5y (m : Nat) (H : List AObj) (t0 t1 t22 : AV) : z7V m ⟨H,[(0,t0),(1,t1),(22,t22)]⟩ =
 z0o t22 (
  z1Z H (ro H (V (.bool false)))) (
  z5j m ⟨H,[(0,t0),(1,t1)]⟩) := by
 refine (z03 _ _ _ _ _ _ _ _ _).trans ?_
 kernel_rfl
theorem zk4 (m : Nat) (t0 t1 : AV) : z8i m t0 t1 =
 z1D (z1P m (ro [] t1)) [(ro [] t1)] fun t12 =>
 zMe none false false .eql t12 (V (.int .i64 0)) fun t14 =>
 z0o t14 (
  z7V m ⟨[],[(0,t0),(1,t1),(22,(V (.bool true)))]⟩) (
  zLZ false true [] t0 fun t17 =>
  zMe none false false .mul (V (.int .i64 2)) t12 fun t19 =>
  zMe none false false .add t19 (V (.int .i64 1)) fun t20 =>
  zMe none false false .lss t17 t20 fun t21 =>
  z7V m ⟨[],[(0,t0),(1,t1),(22,t21)]⟩) := by
 refine (z8O _ _ _ _ _ _ _ _ _).trans ?_
 kernel_rfl
def z95 (m : Nat) : List AV → RO|[t0,t1]=>z8i m t0 t1|_=>none
theorem zjt (m : Nat) : ∀ args X H',z95 m args = some (X,H') → ACp Try.prog GG 53 args X := by
 intro args X H' h
 unfold z95 at h
 split at h
 ·exact z0B MIX (by
  intro f e h
  simp only [z0u,Prod.mk.injEq,List.mem_cons,List.not_mem_nil,or_false] at h
  rcases h with ⟨rfl,rfl⟩|⟨rfl,rfl⟩
  ·exact z3q m
  ·exact zc0 m) (f := 53) (c := z0y) Try.func53 rfl (by kernel_rfl) _ rfl Try.ntmps53 (Nat.le_of_ble_eq_true rfl) plenumref31_May_h h
 ·cases h
def z41 : Code := (Try.f54.body).getD .skip
def plenumref31_Low_h : Hint := (.two .n (.two .n (.join [4,5] (.two .n (.one (.lp [] [0,4,5,6] [4,5] (.two (.two .n (.two .n .n)) (.join [0,4,5,6] (.one (.two .n (.two (.two .n .n) .n))) .n))))) (.two .n .n))))
def z4k (m : Nat) : Env := []
abbrev z7k : KO (AV × List AObj) := z1L Try.prog [.tmp 2, .tmp 3]
def z7J (m : Nat) (n0 : Nat) (kc : ASt → RO) (kx : KO (AV × List AObj)) (s : ASt) : RO := z11 Try.prog GG (z4k m) m ⟨32,[]⟩ (cdR (cdR (cdL (cdL (cdR (cdL (cdR (cdR z41)))))))) plenumref31_Low_h.r.r.l.r.c.c.r.r s (z5s n0 [0,4,5,6] [4,5] kc kx)
def zcr (m : Nat) (s : ASt) : RO := z11 Try.prog GG (z4k m) m ⟨32,[]⟩ (cdR (cdR (cdR z41))) plenumref31_Low_h.r.r.r s (z7k)
def zbU (m : Nat) (s : ASt) (kc : ASt → RO) (kx : KO (AV × List AObj)) : RO := z8G Try.prog GG (z4k m) m ⟨32,[]⟩ (cdL (cdL (cdR (cdL (cdR (cdR z41)))))) plenumref31_Low_h.r.r.l.r.c.c [0,4,5,6] [4,5] s kc kx
def z5L (m : Nat) (t0 : AV) : RO := zLa Try.prog GG (z4k m) m ⟨32,[]⟩ z41 plenumref31_Low_h ⟨[],z14 0 [t0]⟩ (z7k)
theorem z9n (m : Nat) (n0 : Nat) (kc : ASt → RO) (kx : KO (AV × List AObj)) (H : List AObj) (t0 t4 t5 t6 : AV) : z7J m n0 kc kx ⟨H,[(0,t0),(4,t4),(5,t5),(6,t6)]⟩ =
 zMe none false false .add t6 (V (.int .i64 1)) fun t12 =>
 z7z n0 H [(0,t0),(4,t4),(5,t5),(6,t12)] kc := by
 refine (z03 _ _ _ _ _ _ _ _ _).trans ?_
 kernel_rfl
theorem zg8 (m : Nat) (H : List AObj) (t4 t5 : AV) : zcr m ⟨H,[(4,t4),(5,t5)]⟩ =
 z1Z H (ro H (TU [noT t4,noT t5])) := by
 refine (z03 _ _ _ _ _ _ _ _ _).trans ?_
 kernel_rfl
theorem zgr (m : Nat) (H : List AObj) (t0 t4 t5 t6 : AV) (kc : ASt → RO) (kx : KO (AV × List AObj)) : zbU m ⟨H,[(0,t0),(4,t4),(5,t5),(6,t6)]⟩ kc kx =
 zLZ false true H t0 fun t9 =>
 zMe none false false .lss t6 t9 fun t10 =>
 z0o t10 (
  z3H 8 H t0 t6 fun t15 =>
  z02 (some (2,1)) t15 fun t16 =>
  z04 1 H t16 fun t17 =>
  zMe none false false .gtr t17 t4 fun t19 =>
  z0o t19 (
   z3H 8 H t0 t6 fun t22 =>
   z02 (some (2,1)) t22 fun t23 =>
   z04 1 H t23 fun t24 =>
   z3H 8 H t0 t6 fun t27 =>
   z02 (some (3,1)) t27 fun t28 =>
   z04 1 H t28 fun t29 =>
   z7J m H.length kc kx ⟨H,[(0,t0),(4,t24),(5,t29),(6,t6)]⟩) (
   z7J m H.length kc kx ⟨H,[(0,t0),(4,t4),(5,t5),(6,t6)]⟩)) (
  kx (.exit 0) ⟨H,[(4,t4),(5,t5)]⟩) := by
 refine (z0F _ _ _ _ _ _ _ _ _ _ _ _).trans ?_
 kernel_rfl
theorem zjR (m : Nat) (t0 : AV) : z5L m t0 =
 z7c m (zbU m) ⟨[],[(0,t0),(4,(V (.int .i64 (-1)))),(5,(V (.int .i64 0))),(6,(V (.int .i64 0)))]⟩ (z0P 0 (zM3 (fun s=>zcr m ⟨s.H,[(4,gt s.T 4),(5,gt s.T 5)]⟩) (z7k))) := by
 refine (z8O _ _ _ _ _ _ _ _ _).trans ?_
 kernel_rfl
def z5R (m : Nat) : List AV → RO|[t0]=>z5L m t0|_=>none
theorem zbI (m : Nat) : ∀ args X H',z5R m args = some (X,H') → ACp Try.prog GG 54 args X := by
 intro args X H' h
 unfold z5R at h
 split at h
 ·exact z0B MIX (by intro f e h;cases h) (f := 54) (c := z41) Try.func54 rfl (by kernel_rfl) _ rfl Try.ntmps54 (Nat.le_of_ble_eq_true rfl) plenumref31_Low_h h
 ·cases h
def z1M : Code := (Try.f55.body).getD .skip
def plenumref31_High_h : Hint := (.two .n (.two .n (.join [3] (.two .n (.one (.lp [] [0,3,5] [3] (.two (.two .n (.two .n .n)) (.join [0,3,5] (.one (.two .n (.one (.lp [] [0,3,5,6] [0,3,5] (.two (.two .n (.two .n .n)) (.join [0,3,5,6] (.one (.two .n (.two .n .n))) .n)))))) .n))))) (.two .n .n))))
def z1g (m : Nat) : Env := [(54, .tell (z5R m))]
abbrev z64 : KO (AV × List AObj) := z1L Try.prog [.tmp 2]
def z6E (m : Nat) (n0 : Nat) (kc : ASt → RO) (kx : KO (AV × List AObj)) (s : ASt) : RO := z11 Try.prog GG (z1g m) m ⟨49,[]⟩ (cdR (cdR (cdL (cdL (cdR (cdL (cdL (cdR (cdL (cdL (cdR (cdL (cdR (cdR z1M)))))))))))))) plenumref31_High_h.r.r.l.r.c.c.r.l.c.r.c.c.r.r s (z5s n0 [0,3,5,6] [0,3,5] kc kx)
def z75 (m : Nat) (n0 : Nat) (kc : ASt → RO) (kx : KO (AV × List AObj)) (s : ASt) : RO := z11 Try.prog GG (z1g m) m ⟨49,[]⟩ (cdR (cdR (cdL (cdL (cdR (cdL (cdR (cdR z1M)))))))) plenumref31_High_h.r.r.l.r.c.c.r.r s (z5s n0 [0,3,5] [3] kc kx)
def zaO (m : Nat) (s : ASt) : RO := z11 Try.prog GG (z1g m) m ⟨49,[]⟩ (cdR (cdR (cdR z1M))) plenumref31_High_h.r.r.r s (z64)
def z7q (m : Nat) (s : ASt) (kc : ASt → RO) (kx : KO (AV × List AObj)) : RO := z8G Try.prog GG (z1g m) m ⟨49,[]⟩ (cdL (cdL (cdR (cdL (cdL (cdR (cdL (cdL (cdR (cdL (cdR (cdR z1M)))))))))))) plenumref31_High_h.r.r.l.r.c.c.r.l.c.r.c.c [0,3,5,6] [0,3,5] s kc kx
def zaT (m : Nat) (s : ASt) (kc : ASt → RO) (kx : KO (AV × List AObj)) : RO := z8G Try.prog GG (z1g m) m ⟨49,[]⟩ (cdL (cdL (cdR (cdL (cdR (cdR z1M)))))) plenumref31_High_h.r.r.l.r.c.c [0,3,5] [3] s kc kx
def z6W (m : Nat) (t0 : AV) : RO := zLa Try.prog GG (z1g m) m ⟨49,[]⟩ z1M plenumref31_High_h ⟨[],z14 0 [t0]⟩ (z64)
theorem z8F (m : Nat) (n0 : Nat) (kc : ASt → RO) (kx : KO (AV × List AObj)) (H : List AObj) (t0 t3 t5 t6 : AV) : z6E m n0 kc kx ⟨H,[(0,t0),(3,t3),(5,t5),(6,t6)]⟩ =
 zMe none false false .add t6 (V (.int .i64 1)) fun t27 =>
 z7z n0 H [(0,t0),(3,t3),(5,t5),(6,t27)] kc := by
 refine (z03 _ _ _ _ _ _ _ _ _).trans ?_
 kernel_rfl
theorem zeP (m : Nat) (n0 : Nat) (kc : ASt → RO) (kx : KO (AV × List AObj)) (H : List AObj) (t0 t3 t5 : AV) : z75 m n0 kc kx ⟨H,[(0,t0),(3,t3),(5,t5)]⟩ =
 zMe none false false .add t5 (V (.int .i64 1)) fun t17 =>
 z7z n0 H [(0,t0),(3,t3),(5,t17)] kc := by
 refine (z03 _ _ _ _ _ _ _ _ _).trans ?_
 kernel_rfl
theorem zfm (m : Nat) (H : List AObj) (t3 : AV) : zaO m ⟨H,[(3,t3)]⟩ =
 z1Z H (ro H t3) := by
 refine (z03 _ _ _ _ _ _ _ _ _).trans ?_
 kernel_rfl
theorem zeR (m : Nat) (H : List AObj) (t0 t3 t5 t6 : AV) (kc : ASt → RO) (kx : KO (AV × List AObj)) : z7q m ⟨H,[(0,t0),(3,t3),(5,t5),(6,t6)]⟩ kc kx =
 z3H 8 H t0 t5 fun t21 =>
 z02 (some (5,1)) t21 fun t22 =>
 z04 1 H t22 fun t23 =>
 zLZ false true H t23 fun t24 =>
 zMe none false false .lss t6 t24 fun t25 =>
 z0o t25 (
  z3H 8 H t0 t5 fun t30 =>
  z02 (some (5,1)) t30 fun t31 =>
  z04 1 H t31 fun t32 =>
  z3H 7 H t32 t6 fun t34 =>
  z02 (some (0,1)) t34 fun t35 =>
  z04 1 H t35 fun t36 =>
  zMe none false false .gtr t36 t3 fun t38 =>
  z0o t38 (
   z3H 8 H t0 t5 fun t41 =>
   z02 (some (5,1)) t41 fun t42 =>
   z04 1 H t42 fun t43 =>
   z3H 7 H t43 t6 fun t45 =>
   z02 (some (0,1)) t45 fun t46 =>
   z04 1 H t46 fun t47 =>
   z6E m H.length kc kx ⟨H,[(0,t0),(3,t47),(5,t5),(6,t6)]⟩) (
   z6E m H.length kc kx ⟨H,[(0,t0),(3,t3),(5,t5),(6,t6)]⟩)) (
  kx (.exit 2) ⟨H,[(0,t0),(3,t3),(5,t5)]⟩) := by
 refine (z0F _ _ _ _ _ _ _ _ _ _ _ _).trans ?_
 kernel_rfl
theorem zfv (m : Nat) (H : List AObj) (t0 t3 t5 : AV) (kc : ASt → RO) (kx : KO (AV × List AObj)) : zaT m ⟨H,[(0,t0),(3,t3),(5,t5)]⟩ kc kx =
 zLZ false true H t0 fun t14 =>
 zMe none false false .lss t5 t14 fun t15 =>
 z0o t15 (
  z7c m (z7q m) ⟨H,[(0,t0),(3,t3),(5,t5),(6,(V (.int .i64 0)))]⟩ (z0P 2 (z0P 1 (zM3 (fun s=>z75 m H.length kc kx ⟨s.H,[(0,gt s.T 0),(3,gt s.T 3),(5,gt s.T 5)]⟩) (z5s H.length [0,3,5] [3] kc kx))))) (
  kx (.exit 0) ⟨H,[(3,t3)]⟩) := by
 refine (z0F _ _ _ _ _ _ _ _ _ _ _ _).trans ?_
 kernel_rfl
theorem ziF (m : Nat) (t0 : AV) : z6W m t0 =
 z1D (z5L m (ro [] t0)) [(ro [] t0)] fun t9 =>
 zLC t9 0 fun t10 =>
 zLC t9 1 fun t11 =>
 z7c m (zaT m) ⟨[],[(0,t0),(3,t10),(5,(V (.int .i64 0)))]⟩ (z0P 0 (zM3 (fun s=>zaO m ⟨s.H,[(3,gt s.T 3)]⟩) (z64))) := by
 refine (z8O _ _ _ _ _ _ _ _ _).trans ?_
 kernel_rfl
def z7U (m : Nat) : List AV → RO|[t0]=>z6W m t0|_=>none
theorem zit (m : Nat) : ∀ args X H',z7U m args = some (X,H') → ACp Try.prog GG 55 args X := by
 intro args X H' h
 unfold z7U at h
 split at h
 ·exact z0B MIX (by
  intro f e h
  simp only [z1g,Prod.mk.injEq,List.mem_cons,List.not_mem_nil,or_false] at h
  obtain ⟨rfl,rfl⟩ := h
  ·exact zbI m) (f := 55) (c := z1M) Try.func55 rfl (by kernel_rfl) _ rfl Try.ntmps55 (Nat.le_of_ble_eq_true rfl) plenumref31_High_h h
 ·cases h
def z0K : Code := (Try.f56.body).getD .skip
def plenumref31_At_h : Hint := (.two .n (.two .n (.join [1,4,5] (.two .n (.one (.lp [(5,z07,5)] [0,1,4,5,6] [1,4,5] (.two (.two .n (.two .n .n)) (.join [0,1,4,5,6] (.one (.two .n (.one (.lp [] [0,1,4,5,6,7] [0,1,4,5,6] (.two (.two .n (.two .n .n)) (.join [0,1,4,5,6,7] (.one (.two .n (.two .n .n))) .n)))))) .n))))) (.join [1,4] (.two .n (.one (.lp [] [1,4,5,8] [1,4] (.two (.two .n (.two .n .n)) (.join [1,4,5,8] (.one (.two .n (.join [1,4,5,8,9] (.two .n (.one (.lp [] [1,4,5,8,9,10] [1,4,5,8,9] (.two (.two .n (.two .n .n)) (.join [1,4,5,8,9,10] (.one (.two .n (.two .n .n))) .n))))) (.two .n (.two (.two .n .n) .n))))) .n))))) (.two .n .n)))))
def z0E (m : Nat) : Env := []
abbrev z2w : KO (AV × List AObj) := z1L Try.prog [.cell 4 73]
def z8M (m : Nat) (n0 : Nat) (kc : ASt → RO) (kx : KO (AV × List AObj)) (s : ASt) : RO := z11 Try.prog GG (z0E m) m ⟨87,[]⟩ (cdR (cdR (cdL (cdL (cdR (cdL (cdR (cdR (cdR z0K))))))))) plenumref31_At_h.r.r.r.l.r.c.c.r.r s (z5s n0 [1,4,5,8] [1,4] kc kx)
def z94 (m : Nat) (n0 : Nat) (kc : ASt → RO) (kx : KO (AV × List AObj)) (s : ASt) : RO := z11 Try.prog GG (z0E m) m ⟨87,[]⟩ (cdR (cdR (cdL (cdL (cdR (cdL (cdR (cdL (cdL (cdR (cdL (cdL (cdR (cdL (cdR (cdR (cdR z0K))))))))))))))))) plenumref31_At_h.r.r.r.l.r.c.c.r.l.c.r.l.r.c.c.r.r s (z5s n0 [1,4,5,8,9,10] [1,4,5,8,9] kc kx)
def zl0 (m : Nat) (n0 : Nat) (kc : ASt → RO) (kx : KO (AV × List AObj)) (s : ASt) : RO := z11 Try.prog GG (z0E m) m ⟨87,[]⟩ (cdR (cdR (cdL (cdL (cdR (cdL (cdR (cdR (cdR z0K))))))))) plenumref31_At_h.r.r.r.l.r.c.c.r.r s (z5s n0 [1,4,5,8] [1,4] kc kx)
def zej (m : Nat) (n0 : Nat) (kc : ASt → RO) (kx : KO (AV × List AObj)) (s : ASt) : RO := z11 Try.prog GG (z0E m) m ⟨87,[]⟩ (cdR (cdR (cdL (cdL (cdR (cdL (cdL (cdR (cdL (cdR (cdR (cdR z0K)))))))))))) plenumref31_At_h.r.r.r.l.r.c.c.r.l.c.r.r s (z0P 5 (zM3 (fun s=>z8M m n0 kc kx ⟨s.H,[(1,gt s.T 1),(4,gt s.T 4),(5,gt s.T 5),(8,gt s.T 8)]⟩) (z5s n0 [1,4,5,8] [1,4] kc kx)))
def zeq (m : Nat) (s : ASt) : RO := z11 Try.prog GG (z0E m) m ⟨87,[]⟩ (cdR (cdR (cdR (cdR z0K)))) plenumref31_At_h.r.r.r.r s (z2w)
def z8Y (m : Nat) (n0 : Nat) (kc : ASt → RO) (kx : KO (AV × List AObj)) (s : ASt) : RO := z11 Try.prog GG (z0E m) m ⟨87,[]⟩ (cdR (cdR (cdL (cdL (cdR (cdL (cdL (cdR (cdL (cdL (cdR (cdL (cdR (cdR z0K)))))))))))))) plenumref31_At_h.r.r.l.r.c.c.r.l.c.r.c.c.r.r s (z5s n0 [0,1,4,5,6,7] [0,1,4,5,6] kc kx)
def z92 (m : Nat) (n0 : Nat) (kc : ASt → RO) (kx : KO (AV × List AObj)) (s : ASt) : RO := z11 Try.prog GG (z0E m) m ⟨87,[]⟩ (cdR (cdR (cdL (cdL (cdR (cdL (cdR (cdR z0K)))))))) plenumref31_At_h.r.r.l.r.c.c.r.r s (z5s n0 [0,1,4,5,6] [1,4,5] kc kx)
def z8X (m : Nat) (s : ASt) (kc : ASt → RO) (kx : KO (AV × List AObj)) : RO := z8G Try.prog GG (z0E m) m ⟨87,[]⟩ (cdL (cdL (cdR (cdL (cdR (cdL (cdL (cdR (cdL (cdL (cdR (cdL (cdR (cdR (cdR z0K))))))))))))))) plenumref31_At_h.r.r.r.l.r.c.c.r.l.c.r.l.r.c.c [1,4,5,8,9,10] [1,4,5,8,9] s kc kx
def zet (m : Nat) (s : ASt) (kc : ASt → RO) (kx : KO (AV × List AObj)) : RO := z8G Try.prog GG (z0E m) m ⟨87,[]⟩ (cdL (cdL (cdR (cdL (cdR (cdR (cdR z0K))))))) plenumref31_At_h.r.r.r.l.r.c.c [1,4,5,8] [1,4] s kc kx
def z8V (m : Nat) (s : ASt) : RO := z11 Try.prog GG (z0E m) m ⟨87,[]⟩ (cdR (cdR (cdR z0K))) plenumref31_At_h.r.r.r s (z2w)
def z90 (m : Nat) (s : ASt) (kc : ASt → RO) (kx : KO (AV × List AObj)) : RO := z8G Try.prog GG (z0E m) m ⟨87,[]⟩ (cdL (cdL (cdR (cdL (cdL (cdR (cdL (cdL (cdR (cdL (cdR (cdR z0K)))))))))))) plenumref31_At_h.r.r.l.r.c.c.r.l.c.r.c.c [0,1,4,5,6,7] [0,1,4,5,6] s kc kx
def ze3 (m : Nat) (s : ASt) (kc : ASt → RO) (kx : KO (AV × List AObj)) : RO := z8G Try.prog GG (z0E m) m ⟨87,[]⟩ (cdL (cdL (cdR (cdL (cdR (cdR z0K)))))) plenumref31_At_h.r.r.l.r.c.c [0,1,4,5,6] [1,4,5] s kc kx
def z6J (m : Nat) (t0 t1 : AV) : RO := zLa Try.prog GG (z0E m) m ⟨87,[]⟩ z0K plenumref31_At_h ⟨[],z14 0 [t0,t1]⟩ (z2w)
theorem zha (m : Nat) (n0 : Nat) (kc : ASt → RO) (kx : KO (AV × List AObj)) (H : List AObj) (t1 t4 t5 t8 : AV) : z8M m n0 kc kx ⟨H,[(1,t1),(4,t4),(5,t5),(8,t8)]⟩ =
 zMe none false false .add t8 (V (.int .i64 1)) fun t54 =>
 z7z n0 H [(1,t1),(4,t4),(5,t5),(8,t54)] kc := by
 refine (z03 _ _ _ _ _ _ _ _ _).trans ?_
 kernel_rfl
theorem zas (m : Nat) (n0 : Nat) (kc : ASt → RO) (kx : KO (AV × List AObj)) (H : List AObj) (t1 t4 t5 t8 t9 t10 : AV) : z94 m n0 kc kx ⟨H,[(1,t1),(4,t4),(5,t5),(8,t8),(9,t9),(10,t10)]⟩ =
 zMe none false false .add t10 (V (.int .i64 1)) fun t60 =>
 z7z n0 H [(1,t1),(4,t4),(5,t5),(8,t8),(9,t9),(10,t60)] kc := by
 refine (z03 _ _ _ _ _ _ _ _ _).trans ?_
 kernel_rfl
theorem zaa (m : Nat) (n0 : Nat) (kc : ASt → RO) (kx : KO (AV × List AObj)) (H : List AObj) (t1 t4 t5 t8 t9 : AV) : zej m n0 kc kx ⟨H,[(1,t1),(4,t4),(5,t5),(8,t8),(9,t9)]⟩ =
 z0o t9 (
  z3H 7 H t5 t8 fun t76 =>
  z02 (some (2,1)) t76 fun t77 =>
  z04 1 H t77 fun t78 =>
  z3H 7 H t5 t8 fun t81 =>
  z02 (some (3,1)) t81 fun t82 =>
  z04 1 H t82 fun t83 =>
  z1F (some z3M) (some zc_api_Choice) [(0,t1),(1,t78),(2,t83)] fun t84 =>
  z0I 6 H t4 t84 fun H2 =>
  kx .ret ⟨H2,[(1,t1),(4,t4)]⟩) (
  z8M m n0 kc kx ⟨H,[(1,t1),(4,t4),(5,t5),(8,t8)]⟩) := by
 refine (z03 _ _ _ _ _ _ _ _ _).trans ?_
 kernel_rfl
theorem zhl (m : Nat) (H : List AObj) (t1 t4 : AV) : zeq m ⟨H,[(1,t1),(4,t4)]⟩ =
 z1F (some z3M) (some zc_api_Choice) [(0,t1),(3,(V (.bool true)))] fun t86 =>
 z0I 6 H t4 t86 fun H2 =>
 z04 6 H2 t4 fun t9000 =>
 z1Z H2 (ro H2 t9000) := by
 refine (z03 _ _ _ _ _ _ _ _ _).trans ?_
 kernel_rfl
theorem za8 (m : Nat) (n0 : Nat) (kc : ASt → RO) (kx : KO (AV × List AObj)) (H : List AObj) (t0 t1 t4 t5 t6 t7 : AV) : z8Y m n0 kc kx ⟨H,[(0,t0),(1,t1),(4,t4),(5,t5),(6,t6),(7,t7)]⟩ =
 zMe none false false .add t7 (V (.int .i64 1)) fun t26 =>
 z7z n0 H [(0,t0),(1,t1),(4,t4),(5,t5),(6,t6),(7,t26)] kc := by
 refine (z03 _ _ _ _ _ _ _ _ _).trans ?_
 kernel_rfl
theorem zh4 (m : Nat) (n0 : Nat) (kc : ASt → RO) (kx : KO (AV × List AObj)) (H : List AObj) (t0 t1 t4 t5 t6 : AV) : z92 m n0 kc kx ⟨H,[(0,t0),(1,t1),(4,t4),(5,t5),(6,t6)]⟩ =
 zMe none false false .add t6 (V (.int .i64 1)) fun t16 =>
 z7z n0 H [(0,t0),(1,t1),(4,t4),(5,t5),(6,t16)] kc := by
 refine (z03 _ _ _ _ _ _ _ _ _).trans ?_
 kernel_rfl
theorem zh1 (m : Nat) (H : List AObj) (t1 t4 t5 t8 t9 t10 : AV) (kc : ASt → RO) (kx : KO (AV × List AObj)) : z8X m ⟨H,[(1,t1),(4,t4),(5,t5),(8,t8),(9,t9),(10,t10)]⟩ kc kx =
 zLZ false true H t5 fun t57 =>
 zMe none false false .lss t10 t57 fun t58 =>
 z0o t58 (
  z3H 7 H t5 t10 fun t63 =>
  z02 (some (1,1)) t63 fun t64 =>
  z04 1 H t64 fun t65 =>
  z3H 7 H t5 t8 fun t68 =>
  z02 (some (1,1)) t68 fun t69 =>
  z04 1 H t69 fun t70 =>
  zMe none false false .gtr t65 t70 fun t71 =>
  z0o t71 (
   z94 m H.length kc kx ⟨H,[(1,t1),(4,t4),(5,t5),(8,t8),(9,(V (.bool false))),(10,t10)]⟩) (
   z94 m H.length kc kx ⟨H,[(1,t1),(4,t4),(5,t5),(8,t8),(9,t9),(10,t10)]⟩)) (
  kx (.exit 6) ⟨H,[(1,t1),(4,t4),(5,t5),(8,t8),(9,t9)]⟩) := by
 refine (z0F _ _ _ _ _ _ _ _ _ _ _ _).trans ?_
 kernel_rfl
theorem zho (m : Nat) (H : List AObj) (t1 t4 t5 t8 : AV) (kc : ASt → RO) (kx : KO (AV × List AObj)) : zet m ⟨H,[(1,t1),(4,t4),(5,t5),(8,t8)]⟩ kc kx =
 zLZ false true H t5 fun t51 =>
 zMe none false false .lss t8 t51 fun t52 =>
 z0o t52 (
  z7c m (z8X m) ⟨H,[(1,t1),(4,t4),(5,t5),(8,t8),(9,(V (.bool true))),(10,(V (.int .i64 0)))]⟩ (z0P 6 (zM3 (fun s=>zej m H.length kc kx ⟨s.H,[(1,gt s.T 1),(4,gt s.T 4),(5,gt s.T 5),(8,gt s.T 8),(9,gt s.T 9)]⟩) (z0P 5 (zM3 (fun s=>zl0 m H.length kc kx ⟨s.H,[(1,gt s.T 1),(4,gt s.T 4),(5,gt s.T 5),(8,gt s.T 8)]⟩) (z5s H.length [1,4,5,8] [1,4] kc kx)))))) (
  kx (.exit 4) ⟨H,[(1,t1),(4,t4)]⟩) := by
 refine (z0F _ _ _ _ _ _ _ _ _ _ _ _).trans ?_
 kernel_rfl
theorem zgZ (m : Nat) (H : List AObj) (t1 t4 t5 : AV) : z8V m ⟨H,[(1,t1),(4,t4),(5,t5)]⟩ =
 z7c m (zet m) ⟨H,[(1,t1),(4,t4),(5,t5),(8,(V (.int .i64 0)))]⟩ (z0P 4 (zM3 (fun s=>zeq m ⟨s.H,[(1,gt s.T 1),(4,gt s.T 4)]⟩) (z2w))) := by
 refine (z03 _ _ _ _ _ _ _ _ _).trans ?_
 kernel_rfl
theorem zhd (m : Nat) (H : List AObj) (t0 t1 t4 t5 t6 t7 : AV) (kc : ASt → RO) (kx : KO (AV × List AObj)) : z90 m ⟨H,[(0,t0),(1,t1),(4,t4),(5,t5),(6,t6),(7,t7)]⟩ kc kx =
 z3H 8 H t0 t6 fun t20 =>
 z02 (some (5,1)) t20 fun t21 =>
 z04 1 H t21 fun t22 =>
 zLZ false true H t22 fun t23 =>
 zMe none false false .lss t7 t23 fun t24 =>
 z0o t24 (
  z3H 8 H t0 t6 fun t29 =>
  z02 (some (5,1)) t29 fun t30 =>
  z04 1 H t30 fun t31 =>
  z3H 7 H t31 t7 fun t33 =>
  z02 (some (0,1)) t33 fun t34 =>
  z04 1 H t34 fun t35 =>
  zMe none false false .eql t35 t1 fun t37 =>
  z0o t37 (
   z3H 8 H t0 t6 fun t41 =>
   z02 (some (5,1)) t41 fun t42 =>
   z04 1 H t42 fun t43 =>
   z3H 7 H t43 t7 fun t45 =>
   z04 7 H t45 fun t46 =>
   z0O (some (z07,5)) 1 [(0,t46)] fun t47 =>
   zNh (some (z07,5)) H t5 t47 fun t48 H2 =>
   z8Y m H.length kc kx ⟨H2,[(0,t0),(1,t1),(4,t4),(5,t48),(6,t6),(7,t7)]⟩) (
   z8Y m H.length kc kx ⟨H,[(0,t0),(1,t1),(4,t4),(5,t5),(6,t6),(7,t7)]⟩)) (
  kx (.exit 2) ⟨H,[(0,t0),(1,t1),(4,t4),(5,t5),(6,t6)]⟩) := by
 refine (z0F _ _ _ _ _ _ _ _ _ _ _ _).trans ?_
 kernel_rfl
theorem zhb (m : Nat) (H : List AObj) (t0 t1 t4 t5 t6 : AV) (kc : ASt → RO) (kx : KO (AV × List AObj)) : ze3 m ⟨H,[(0,t0),(1,t1),(4,t4),(5,t5),(6,t6)]⟩ kc kx =
 zLZ false true H t0 fun t13 =>
 zMe none false false .lss t6 t13 fun t14 =>
 z0o t14 (
  z7c m (z90 m) ⟨H,[(0,t0),(1,t1),(4,t4),(5,t5),(6,t6),(7,(V (.int .i64 0)))]⟩ (z0P 2 (z0P 1 (zM3 (fun s=>z92 m H.length kc kx ⟨s.H,[(0,gt s.T 0),(1,gt s.T 1),(4,gt s.T 4),(5,gt s.T 5),(6,gt s.T 6)]⟩) (z5s H.length [0,1,4,5,6] [1,4,5] kc kx))))) (
  kx (.exit 0) ⟨H,[(1,t1),(4,t4),(5,t5)]⟩) := by
 refine (z0F _ _ _ _ _ _ _ _ _ _ _ _).trans ?_
 kernel_rfl
theorem zkM (m : Nat) (t0 t1 : AV) : z6J m t0 t1 =
 z2f (some zc_api_Choice) z0q [] fun t4 H1 =>
 zNf (V (.slice none 0 0)) z07 5 H1 fun t5 H2 =>
 z7c m (ze3 m) ⟨H2,[(0,t0),(1,t1),(4,t4),(5,t5),(6,(V (.int .i64 0)))]⟩ (z0P 0 (zM3 (fun s=>z8V m ⟨s.H,[(1,gt s.T 1),(4,gt s.T 4),(5,gt s.T 5)]⟩) (z2w))) := by
 refine (z8O _ _ _ _ _ _ _ _ _).trans ?_
 kernel_rfl
def zau (m : Nat) : List AV → RO|[t0,t1]=>z6J m t0 t1|_=>none
theorem zkF (m : Nat) : ∀ args X H',zau m args = some (X,H') → ACp Try.prog GG 56 args X := by
 intro args X H' h
 unfold zau at h
 split at h
 ·exact z0B MIX (by intro f e h;cases h) (f := 56) (c := z0K) Try.func56 rfl (by kernel_rfl) _ rfl Try.ntmps56 (Nat.le_of_ble_eq_true rfl) plenumref31_At_h h
 ·cases h
end Go.Proofs.Ytaaogcnjfkgnoaa

namespace Go.Proofs.Ytaaogcnjfkgnoaa
open Go.RowKit
def z4p : TypeId := 9
def z35 : TypeId := 107
def zkc : List AV := [(V (.map none)),(V (.slice none 0 0))]
def zko : List (Nat × Nat) := [(0,1),(1,1)]
def ziZ : Code := (Try.f26.body).getD .skip
def term_New_h : Hint := (.two .n (.gh (0,1,z4p,1) [0] .n .n))
def zhg (m : Nat) : Env := []
abbrev zlJ (n0 : Nat) : KO (AV × List AObj) := zqd Try.prog n0 [.tmp 0]
def zne (m : Nat) (n0k : Nat) (s : ASt) : RO := z11 Try.prog GG (zhg m) m ⟨4,[]⟩ (cdR (cdR ziZ)) term_New_h.r.r s (zlJ n0k)
def zjV (m : Nat) (H : List AObj) : RO := zLa Try.prog GG (zhg m) m ⟨4,[]⟩ ziZ term_New_h ⟨H,z14 0 []⟩ (zlJ H.length)
theorem znM (m : Nat) (n0k : Nat) (H : List AObj) (t0 : AV) : zne m n0k ⟨H,[(0,t0)]⟩ =
 zq3 H (ro H t0) := by
 refine (z03 _ _ _ _ _ _ _ _ _).trans ?_
 kernel_rfl
theorem zrO (m : Nat) (H : List AObj) : zjV m H =
 zuj (zMo Try.prog 105) H fun t1 H2 =>
 z1F (some zko) (some zkc) [(0,t1)] fun t2 =>
 zN2 z35 H2 t2 fun t3 H3 =>
 zne m H.length (ghS 0 1 z4p 1 ⟨H3,[(0,t3)]⟩) := by
 refine (zFe Try.prog GG (zhg m) m ⟨4,[]⟩ H.length ziZ term_New_h ⟨H,z14 0 []⟩ [.tmp 0]).trans ?_
 kernel_rfl
def zhY (m : Nat) : List AV → List AObj → RO|[],H=>zjV m H|_,_=>none
theorem zn7 (m : Nat) : ∀ args H X H',zhY m args H = some (X,H') → AC Try.prog GG 26 args H (Is X H') := by
 intro args H X H' h
 unfold zhY at h
 split at h
 ·exact zre (n := H.length) MIX (by intro f e h;cases h) (f := 26) (c := ziZ) Try.func26 rfl (by kernel_rfl) _ rfl Try.ntmps26 (Nat.le_of_ble_eq_true rfl) term_New_h h
 ·cases h
def zbG : Code := (Try.f28.body).getD .skip
def zbw : Hint := (.two .n (.two (.two .n (.two .n (.two (.two .n .n) .n))) (.two (.two .n (.two (.two .n .n) .n)) (.two .n (.two .n (.two .n .n))))))
def ze9 (m : Nat) : Env := []
abbrev zkK (n0 : Nat) : KO (AV × List AObj) := z5e Try.prog n0 [.tmp 4, .tmp 5]
def z4Z (m : Nat) (t0 t1 : AV) (H : List AObj) : RO := zLa Try.prog GG (ze9 m) m ⟨50,[]⟩ zbG zbw ⟨H,z14 0 [t0,t1]⟩ (zkK H.length)
theorem zll (m : Nat) (t0 t1 : AV) (H : List AObj) : z4Z m t0 t1 H =
 zMC t0 fun t10 =>
 z02 (some (0,1)) t10 fun t11 =>
 z04 1 H t11 fun t12 =>
 zuk Try.prog 105 H t12 t1 true fun t14 =>
 zLC t14 0 fun t15 =>
 zLC t14 1 fun t16 =>
 z0o t16 (
  z4f H.length H (ro H (TU [noT t15,noT (V (.int .i64 0))]))) (
  zMC t0 fun t20 =>
  z02 (some (1,1)) t20 fun t21 =>
  z04 1 H t21 fun t22 =>
  zLZ false true H t22 fun t23 =>
  zMe none false false .geq t23 (V (.int .i64 65536)) fun t24 =>
  z0o t24 (
   z4f H.length H (ro H (TU [noT (V (.int .i64 0)),noT (V (.int .i64 5))]))) (
   zMC t0 fun t27 =>
   z02 (some (1,1)) t27 fun t28 =>
   z04 1 H t28 fun t29 =>
   z0O (some (z4p,1)) 1 [(0,t1)] fun t31 =>
   zNh (some (z4p,1)) H t29 t31 fun t32 H2 =>
   zMC t0 fun t33 =>
   z02 (some (1,1)) t33 fun t34 =>
   z0I 1 H2 t34 t32 fun H3 =>
   zMC t0 fun t36 =>
   z02 (some (0,1)) t36 fun t37 =>
   z04 1 H3 t37 fun t38 =>
   zMC t0 fun t41 =>
   z02 (some (1,1)) t41 fun t42 =>
   z04 1 H3 t42 fun t43 =>
   zLZ false true H3 t43 fun t44 =>
   zue Try.prog 105 H3 t38 t1 t44 fun H4 =>
   zMC t0 fun t46 =>
   z02 (some (1,1)) t46 fun t47 =>
   z04 1 H4 t47 fun t48 =>
   zLZ false true H4 t48 fun t49 =>
   z4f H.length H4 (ro H4 (TU [noT t49,noT (V (.int .i64 0))])))) := by
 refine (zhw Try.prog GG (ze9 m) m ⟨50,[]⟩ H.length zbG zbw ⟨H,z14 0 [t0,t1]⟩ [.tmp 4, .tmp 5]).trans ?_
 kernel_rfl
def z49 (m : Nat) : List AV → List AObj → RO|[t0,t1],H=>z4Z m t0 t1 H|_,_=>none
theorem z6z (m : Nat) : ∀ args H X H',z49 m args H = some (X,H') → AC Try.prog GG 28 args H (Is X H') := by
 intro args H X H' h
 unfold z49 at h
 split at h
 ·exact z1p MIX (by intro f e h;cases h) (f := 28) (c := zbG) Try.func28 rfl (by kernel_rfl) _ rfl Try.ntmps28 (Nat.le_of_ble_eq_true rfl) zbw h
 ·cases h
def z8c : Code := (Try.f16.body).getD .skip
def z83 : Hint := (.two .n (.two .n .n))
def zaf (m : Nat) : Env := []
abbrev zhf (n0 : Nat) : KO (AV × List AObj) := z5e Try.prog n0 [.tmp 2]
def z4z (m : Nat) (t0 : AV) (H : List AObj) : RO := zLa Try.prog GG (zaf m) m ⟨8,[]⟩ z8c z83 ⟨H,z14 0 [t0]⟩ (zhf H.length)
theorem zhF (m : Nat) (t0 : AV) (H : List AObj) : z4z m t0 H =
 zMC t0 fun t4 =>
 z02 (some (1,1)) t4 fun t5 =>
 z04 1 H t5 fun t6 =>
 zLZ false true H t6 fun t7 =>
 z4f H.length H (ro H t7) := by
 refine (zhw Try.prog GG (zaf m) m ⟨8,[]⟩ H.length z8c z83 ⟨H,z14 0 [t0]⟩ [.tmp 2]).trans ?_
 kernel_rfl
def z7S (m : Nat) : List AV → List AObj → RO|[t0],H=>z4z m t0 H|_,_=>none
theorem zhG (m : Nat) : ∀ args H X H',z7S m args H = some (X,H') → AC Try.prog GG 16 args H (Is X H') := by
 intro args H X H' h
 unfold z7S at h
 split at h
 ·exact z1p MIX (by intro f e h;cases h) (f := 16) (c := z8c) Try.func16 rfl (by kernel_rfl) _ rfl Try.ntmps16 (Nat.le_of_ble_eq_true rfl) z83 h
 ·cases h
end Go.Proofs.Ytaaogcnjfkgnoaa

namespace Go.Proofs.Ytaaogcnjfkgnoaa
open Go.RowKit
def zjF : TypeId := 117
def z54 : TypeId := 119
def zk3 : List AV := [(V (.bool false)),(V (.bool false)),(V (.bool false)),(V (.bool false)),(V (.bool false)),(V (.bool false)),(V (.bool false)),(V (.bool false)),(V (.bool false)),(V (.bool false)),(V (.bool false)),(V (.bool false)),(V (.bool false)),(V (.bool false)),(V (.bool false)),(V (.bool false)),(V (.bool false)),(V (.bool false)),(V (.bool false)),(V (.bool false)),(V (.bool false)),(V (.bool false)),(V (.bool false)),(V (.bool false)),(V (.bool false)),(V (.bool false)),(V (.bool false)),(V (.bool false)),(V (.bool false)),(V (.bool false)),(V (.bool false)),(V (.bool false)),(V (.bool false)),(V (.bool false)),(V (.bool false)),(V (.bool false)),(V (.bool false)),(V (.bool false)),(V (.bool false)),(V (.bool false)),(V (.bool false)),(V (.bool false)),(V (.bool false)),(V (.bool false)),(V (.bool false)),(V (.bool false)),(V (.bool false)),(V (.bool false)),(V (.bool false)),(V (.bool false)),(V (.bool false)),(V (.bool false)),(V (.bool false)),(V (.bool false)),(V (.bool false)),(V (.bool false)),(V (.bool false)),(V (.bool false)),(V (.bool false)),(V (.bool false)),(V (.bool false)),(V (.bool false)),(V (.bool false)),(V (.bool false))]
def zlR : List AV := [(V (.int .i64 0)),(V (.bool false)),(V (.bool false)),(V (.bool false)),(V (.bool false)),(V (.bool false)),(V (.bool false)),(V (.bool false)),(V (.bool false)),(V (.bool false)),(V (.bool false)),(V (.bool false)),(V (.bool false)),(V (.bool false)),(V (.bool false)),(V (.bool false)),(V (.bool false)),(V (.bool false)),(V (.bool false)),(V (.bool false)),(V (.bool false)),(V (.bool false)),(V (.bool false)),(V (.bool false)),(V (.bool false)),(V (.bool false)),(V (.bool false)),(V (.bool false)),(V (.bool false)),(V (.bool false)),(V (.bool false)),(V (.bool false)),(V (.bool false)),(V (.bool false)),(V (.bool false)),(V (.bool false)),(V (.bool false)),(V (.bool false)),(V (.bool false)),(V (.bool false)),(V (.bool false)),(V (.bool false)),(V (.bool false)),(V (.bool false)),(V (.bool false)),(V (.bool false)),(V (.bool false)),(V (.bool false)),(V (.bool false)),(V (.bool false)),(V (.bool false)),(V (.bool false)),(V (.bool false)),(V (.bool false)),(V (.bool false)),(V (.bool false)),(V (.bool false)),(V (.bool false)),(V (.bool false)),(V (.bool false)),(V (.bool false)),(V (.bool false)),(V (.bool false)),(V (.bool false)),(V (.bool false)),(V (.map none)),(V (.slice none 0 0))]
def zmn : List (Nat × Nat) := [(0,1),(1,64),(65,1),(66,1)]
def zd6 : Code := (Try.f57.body).getD .skip
def zdL : Hint := (.two .n (.two .n .n))
def zf4 (m : Nat) : Env := []
abbrev zmo (n0 : Nat) : KO (AV × List AObj) := z5e Try.prog n0 [.tmp 4]
def z8a (m : Nat) (t0 t1 : AV) (H : List AObj) : RO := zLa Try.prog GG (zf4 m) m ⟨15,[]⟩ zd6 zdL ⟨H,z14 0 [t0,t1]⟩ (zmo H.length)
theorem zmF (m : Nat) (t0 t1 : AV) (H : List AObj) : z8a m t0 t1 H =
 zMe none false false .geq t1 (V (.int .i64 0)) fun t6 =>
 z0o t6 (
  zMC t0 fun t10 =>
  z02 (some (0,1)) t10 fun t11 =>
  z04 1 H t11 fun t12 =>
  zMe none false false .lss t1 t12 fun t13 =>
  z4f H.length H (ro H t13)) (
  z4f H.length H (ro H (V (.bool false)))) := by
 refine (zhw Try.prog GG (zf4 m) m ⟨15,[]⟩ H.length zd6 zdL ⟨H,z14 0 [t0,t1]⟩ [.tmp 4]).trans ?_
 kernel_rfl
def z6Z (m : Nat) : List AV → List AObj → RO|[t0,t1],H=>z8a m t0 t1 H|_,_=>none
theorem zbi (m : Nat) : ∀ args H X H',z6Z m args H = some (X,H') → AC Try.prog GG 57 args H (Is X H') := by
 intro args H X H' h
 unfold z6Z at h
 split at h
 ·exact z1p MIX (by intro f e h;cases h) (f := 57) (c := zd6) Try.func57 rfl (by kernel_rfl) _ rfl Try.ntmps57 (Nat.le_of_ble_eq_true rfl) zdL h
 ·cases h
def zbr : Code := (Try.f59.body).getD .skip
def zbu : Hint := (.two .n (.two .n .n))
def z8Q (m : Nat) : Env := [(57, .keep (z6Z m))]
abbrev zkE (n0 : Nat) : KO (AV × List AObj) := z5e Try.prog n0 [.tmp 4]
def z8D (m : Nat) (t0 t1 : AV) (H : List AObj) : RO := zLa Try.prog GG (z8Q m) m ⟨16,[]⟩ zbr zbu ⟨H,z14 0 [t0,t1]⟩ (zkE H.length)
theorem zlD (m : Nat) (t0 t1 : AV) (H : List AObj) : z8D m t0 t1 H =
 z4O (z8a m (ro H t0) (ro H t1) H) fun t7 H2 =>
 z0o t7 (
  zMC t0 fun t11 =>
  z02 (some (1,66)) t11 fun t12 =>
  zx3 64 1 t12 t1 fun t13 =>
  z04 1 H2 t13 fun t14 =>
  z4f H.length H2 (ro H2 t14)) (
  z4f H.length H2 (ro H2 (V (.bool false)))) := by
 refine (zhw Try.prog GG (z8Q m) m ⟨16,[]⟩ H.length zbr zbu ⟨H,z14 0 [t0,t1]⟩ [.tmp 4]).trans ?_
 kernel_rfl
def zbl (m : Nat) : List AV → List AObj → RO|[t0,t1],H=>z8D m t0 t1 H|_,_=>none
theorem zm5 (m : Nat) : ∀ args H X H',zbl m args H = some (X,H') → AC Try.prog GG 59 args H (Is X H') := by
 intro args H X H' h
 unfold zbl at h
 split at h
 ·exact z1p MIX (by
  intro f e h
  simp only [z8Q,Prod.mk.injEq,List.mem_cons,List.not_mem_nil,or_false] at h
  obtain ⟨rfl,rfl⟩ := h
  ·exact zbi m) (f := 59) (c := zbr) Try.func59 rfl (by kernel_rfl) _ rfl Try.ntmps59 (Nat.le_of_ble_eq_true rfl) zbu h
 ·cases h
def zbE : Code := (Try.f36.body).getD .skip
def zby : Hint := (.two .n (.two .n .n))
def zec (m : Nat) : Env := []
abbrev zkR (n0 : Nat) : KO (AV × List AObj) := z5e Try.prog n0 [.tmp 4]
def z4V (m : Nat) (t0 t1 : AV) (H : List AObj) : RO := zLa Try.prog GG (zec m) m ⟨12,[]⟩ zbE zby ⟨H,z14 0 [t0,t1]⟩ (zkR H.length)
theorem zm4 (m : Nat) (t0 t1 : AV) (H : List AObj) : z4V m t0 t1 H =
 zN2 z01 H t1 fun t3 H2 =>
 zMC t0 fun t6 =>
 z02 (some (65,1)) t6 fun t7 =>
 z04 1 H2 t7 fun t8 =>
 z04 7 H2 t3 fun t9 =>
 zuk Try.prog 116 H2 t8 t9 false fun t10 =>
 zMe none false false .gtr t10 (V (.int .i64 0)) fun t11 =>
 z4f H.length H2 (ro H2 t11) := by
 refine (zhw Try.prog GG (zec m) m ⟨12,[]⟩ H.length zbE zby ⟨H,z14 0 [t0,t1]⟩ [.tmp 4]).trans ?_
 kernel_rfl
def z4a (m : Nat) : List AV → List AObj → RO|[t0,t1],H=>z4V m t0 t1 H|_,_=>none
theorem z7g (m : Nat) : ∀ args H X H',z4a m args H = some (X,H') → AC Try.prog GG 36 args H (Is X H') := by
 intro args H X H' h
 unfold z4a at h
 split at h
 ·exact z1p MIX (by intro f e h;cases h) (f := 36) (c := zbE) Try.func36 rfl (by kernel_rfl) _ rfl Try.ntmps36 (Nat.le_of_ble_eq_true rfl) zby h
 ·cases h
def z8y : Code := (Try.f27.body).getD .skip
def ring_New_h : Hint := (.two .n (.join [0,1] (.join [0,1,14] .n (.two (.two .n .n) .n)) (.gh (6,66,z01,5) [1,6] .n (.join [6] (.two .n (.one (.lp [] [6,19,20,21] [4,5,6] (.two .n (.two (.two .n .n) (.two (.one (.two .n (.two (.two .n (.two (.two .n .n) .n)) .n))) .n)))))) (.two .n .n)))))
def z4C (m : Nat) : Env := [(57, .keep (z6Z m))]
abbrev z7T (n0 : Nat) : KO (AV × List AObj) := zqd Try.prog n0 [.tmp 4, .tmp 5]
def zn9 (m : Nat) (n0k : Nat) (s : ASt) : RO := z11 Try.prog GG (z4C m) m ⟨36,[]⟩ (cdR (cdR (cdR (cdR z8y)))) ring_New_h.r.r.r.r s (z7T n0k)
def zk6 (m : Nat) (s : ASt) (kc : ASt → RO) (kx : KO (AV × List AObj)) : RO := z8G Try.prog GG (z4C m) m ⟨36,[]⟩ (cdL (cdL (cdR (cdL (cdR (cdR (cdR z8y))))))) ring_New_h.r.r.r.l.r.c.c [6,19,20,21] [4,5,6] s kc kx
def zjO (m : Nat) (n0k : Nat) (s : ASt) : RO := z11 Try.prog GG (z4C m) m ⟨36,[]⟩ (cdR (cdR (cdR z8y))) ring_New_h.r.r.r s (z7T n0k)
def zjG (m : Nat) (n0k : Nat) (s : ASt) : RO := z11 Try.prog GG (z4C m) m ⟨36,[]⟩ (cdR (cdR z8y)) ring_New_h.r.r s (z7T n0k)
def zjP (m : Nat) (n0k : Nat) (s : ASt) : RO := z11 Try.prog GG (z4C m) m ⟨36,[]⟩ (cdR (cdL (cdR z8y))) ring_New_h.r.l.r s (zM3 (fun s=>zjG m n0k ⟨s.H,[(0,gt s.T 0),(1,gt s.T 1)]⟩) (z7T n0k))
def zeM (m : Nat) (t0 t1 : AV) (H : List AObj) : RO := zLa Try.prog GG (z4C m) m ⟨36,[]⟩ z8y ring_New_h ⟨H,z14 0 [t0,t1]⟩ (z7T H.length)
theorem znH (m : Nat) (n0k : Nat) (H : List AObj) (t6 : AV) : zn9 m n0k ⟨H,[(6,t6)]⟩ =
 zq3 H (ro H (TU [noT t6,noT (V (.int .i64 0))])) := by
 refine (z03 _ _ _ _ _ _ _ _ _).trans ?_
 kernel_rfl
theorem zdM (m : Nat) (H : List AObj) (t6 t19 t20 t21 : AV) (kc : ASt → RO) (kx : KO (AV × List AObj)) : zk6 m ⟨H,[(6,t6),(19,t19),(20,t20),(21,t21)]⟩ kc kx =
 zMe none false false .lss t21 t20 fun t22 =>
 z0o t22 (
  z3H 1 H t19 t21 fun t23 =>
  z04 1 H t23 fun t24 =>
  z4O (z8a m (ro H t6) (ro H t24) H) fun t27 H2 =>
  unE .not t27 fun t28 =>
  z0o t28 (
   kx .ret ⟨H2,[(4,(V (.pointer none))),(5,(V (.int .i64 1))),(6,t6)]⟩) (
   zMC t6 fun t31 =>
   z02 (some (1,66)) t31 fun t32 =>
   zx3 64 1 t32 t24 fun t33 =>
   z0I 1 H2 t33 (V (.bool true)) fun H3 =>
   zMe none false false .add t21 (V (.int .i64 1)) fun t34 =>
   z7z H.length H3 [(6,t6),(19,t19),(20,t20),(21,t34)] kc)) (
  kx (.exit 0) ⟨H,[(4, .nil),(5, .nil),(6,t6)]⟩) := by
 refine (z0F _ _ _ _ _ _ _ _ _ _ _ _).trans ?_
 kernel_rfl
theorem zhC (m : Nat) (n0k : Nat) (H : List AObj) (t1 t6 : AV) : zjO m n0k ⟨H,[(1,t1),(6,t6)]⟩ =
 zLZ false true H t1 fun t20 =>
 z7c m (zk6 m) ⟨H,[(6,t6),(19,t1),(20,t20),(21,(V (.int .i64 0)))]⟩ (z0P 0 (zM3 (fun s=>zn9 m n0k ⟨s.H,[(6,gt s.T 6)]⟩) (z7T n0k))) := by
 refine (z03 _ _ _ _ _ _ _ _ _).trans ?_
 kernel_rfl
theorem zo2 (m : Nat) (n0k : Nat) (H : List AObj) (t0 t1 : AV) : zjG m n0k ⟨H,[(0,t0),(1,t1)]⟩ =
 zuj (zMo Try.prog 116) H fun t16 H2 =>
 z1F (some zmn) (some zlR) [(0,t0),(2,t16)] fun t17 =>
 zN2 z54 H2 t17 fun t18 H3 =>
 zjO m n0k (ghS 6 66 z01 5 ⟨H3,[(1,t1),(6,t18)]⟩) := by
 refine (z03 _ _ _ _ _ _ _ _ _).trans ?_
 kernel_rfl
theorem zov (m : Nat) (n0k : Nat) (H : List AObj) (t0 t1 t14 : AV) : zjP m n0k ⟨H,[(0,t0),(1,t1),(14,t14)]⟩ =
 z0o t14 (
  zq3 H (ro H (TU [noT (V (.pointer none)),noT (V (.int .i64 1))]))) (
  zjG m n0k ⟨H,[(0,t0),(1,t1)]⟩) := by
 refine (z03 _ _ _ _ _ _ _ _ _).trans ?_
 kernel_rfl
theorem zs1 (m : Nat) (t0 t1 : AV) (H : List AObj) : zeM m t0 t1 H =
 zMe none false false .lss t0 (V (.int .i64 1)) fun t10 =>
 z0o t10 (
  zjP m H.length ⟨H,[(0,t0),(1,t1),(14,(V (.bool true)))]⟩) (
  zMe none false false .gtr t0 (V (.int .i64 64)) fun t13 =>
  zjP m H.length ⟨H,[(0,t0),(1,t1),(14,t13)]⟩) := by
 refine (zFe Try.prog GG (z4C m) m ⟨36,[]⟩ H.length z8y ring_New_h ⟨H,z14 0 [t0,t1]⟩ [.tmp 4, .tmp 5]).trans ?_
 kernel_rfl
def zhH (m : Nat) : List AV → List AObj → RO|[t0,t1],H=>zeM m t0 t1 H|_,_=>none
theorem zni (m : Nat) : ∀ args H X H',zhH m args H = some (X,H') → AC Try.prog GG 27 args H (Is X H') := by
 intro args H X H' h
 unfold zhH at h
 split at h
 ·exact zre (n := H.length) MIX (by
  intro f e h
  simp only [z4C,Prod.mk.injEq,List.mem_cons,List.not_mem_nil,or_false] at h
  obtain ⟨rfl,rfl⟩ := h
  ·exact zbi m) (f := 27) (c := z8y) Try.func27 rfl (by kernel_rfl) _ rfl Try.ntmps27 (Nat.le_of_ble_eq_true rfl) ring_New_h h
 ·cases h
def z5F : Code := (Try.f30.body).getD .skip
def ring_Ring_Say_h : Hint := (.two .n (.join [0,5] (.one (.two .n (.two (.two .n .n) (.join [0,5,12] .n (.two (.two .n .n) (.two .n (.two (.two .n .n) (.two .n (.two (.two .n .n) .n))))))))) (.two .n (.two .n (.two .n .n)))))
def z48 (m : Nat) : Env := [(57, .keep (z6Z m)),(59, .keep (zbl m)),(36, .keep (z4a m))]
abbrev z8W (n0 : Nat) : KO (AV × List AObj) := z5e Try.prog n0 [.tmp 6]
def z7e (m : Nat) (n0k : Nat) (s : ASt) : RO := z11 Try.prog GG (z48 m) m ⟨60,[]⟩ (cdR (cdR z5F)) ring_Ring_Say_h.r.r s (z8W n0k)
def z4M (m : Nat) (n0k : Nat) (s : ASt) : RO := z11 Try.prog GG (z48 m) m ⟨60,[]⟩ (cdR (cdR (cdR (cdL (cdL (cdR z5F)))))) ring_Ring_Say_h.r.l.c.r.r.r s (z0P 0 (zM3 (fun s=>z7e m n0k ⟨s.H,[(0,gt s.T 0),(5,gt s.T 5)]⟩) (z8W n0k)))
def z6n (m : Nat) (t0 t1 t2 : AV) (H : List AObj) : RO := zLa Try.prog GG (z48 m) m ⟨60,[]⟩ z5F ring_Ring_Say_h ⟨H,z14 0 [t0,t1,t2]⟩ (z8W H.length)
theorem zhT (m : Nat) (n0k : Nat) (H : List AObj) (t0 t5 : AV) : z7e m n0k ⟨H,[(0,t0),(5,t5)]⟩ =
 zMC t0 fun t42 =>
 z02 (some (66,1)) t42 fun t43 =>
 z04 1 H t43 fun t44 =>
 z04 7 H t5 fun t45 =>
 z0O (some (z01,5)) 1 [(0,t45)] fun t46 =>
 zNh (some (z01,5)) H t44 t46 fun t47 H2 =>
 zMC t0 fun t48 =>
 z02 (some (66,1)) t48 fun t49 =>
 z0I 1 H2 t49 t47 fun H3 =>
 zMC t0 fun t51 =>
 z02 (some (65,1)) t51 fun t52 =>
 z04 1 H3 t52 fun t53 =>
 z04 7 H3 t5 fun t54 =>
 zMC t0 fun t56 =>
 z02 (some (66,1)) t56 fun t57 =>
 z04 1 H3 t57 fun t58 =>
 zLZ false true H3 t58 fun t59 =>
 zue Try.prog 116 H3 t53 t54 t59 fun H4 =>
 z4f n0k H4 (ro H4 (V (.int .i64 0))) := by
 refine (z03 _ _ _ _ _ _ _ _ _).trans ?_
 kernel_rfl
theorem zhK (m : Nat) (n0k : Nat) (H : List AObj) (t0 t5 t12 : AV) : z4M m n0k ⟨H,[(0,t0),(5,t5),(12,t12)]⟩ =
 z0o t12 (
  z4f n0k H (ro H (V (.int .i64 19)))) (
  z04 7 H t5 fun t31 =>
  z4O (z4V m (ro H t0) (ro H t31) H) fun t32 H2 =>
  z0o t32 (
   z4f n0k H2 (ro H2 (V (.int .i64 0)))) (
   zMC t0 fun t35 =>
   z02 (some (66,1)) t35 fun t36 =>
   z04 1 H2 t36 fun t37 =>
   zLZ false true H2 t37 fun t38 =>
   zMe none false false .geq t38 (V (.int .i64 65536)) fun t39 =>
   z0o t39 (
    z4f n0k H2 (ro H2 (V (.int .i64 5)))) (
    z7e m n0k ⟨H2,[(0,t0),(5,t5)]⟩))) := by
 refine (z03 _ _ _ _ _ _ _ _ _).trans ?_
 kernel_rfl
theorem zlG (m : Nat) (t0 t1 t2 : AV) (H : List AObj) : z6n m t0 t1 t2 H =
 zN2 z01 H t2 fun t5 H2 =>
 z4O (z8a m (ro H2 t0) (ro H2 t1) H2) fun t10 H3 =>
 unE .not t10 fun t11 =>
 z0o t11 (
  z4f H.length H3 (ro H3 (V (.int .i64 4)))) (
  z02 (some (0,1)) t5 fun t13 =>
  z04 1 H3 t13 fun t14 =>
  zMe none false false .neq t14 t1 fun t16 =>
  z0o t16 (
   z4O (z8D m (ro H3 t0) (ro H3 t1) H3) fun t20 H4 =>
   z0o t20 (
   z02 (some (0,1)) t5 fun t23 =>
   z04 1 H4 t23 fun t24 =>
   z4O (z8D m (ro H4 t0) (ro H4 t24) H4) fun t25 H5 =>
   unE .not t25 fun t27 =>
   z4M m H.length ⟨H5,[(0,t0),(5,t5),(12,t27)]⟩) (
   z4M m H.length ⟨H4,[(0,t0),(5,t5),(12,(V (.bool true)))]⟩)) (
   z4M m H.length ⟨H3,[(0,t0),(5,t5),(12,(V (.bool false)))]⟩)) := by
 refine (zhw Try.prog GG (z48 m) m ⟨60,[]⟩ H.length z5F ring_Ring_Say_h ⟨H,z14 0 [t0,t1,t2]⟩ [.tmp 6]).trans ?_
 kernel_rfl
def z8k (m : Nat) : List AV → List AObj → RO|[t0,t1,t2],H=>z6n m t0 t1 t2 H|_,_=>none
theorem zeX (m : Nat) : ∀ args H X H',z8k m args H = some (X,H') → AC Try.prog GG 30 args H (Is X H') := by
 intro args H X H' h
 unfold z8k at h
 split at h
 ·exact z1p MIX (by
  intro f e h
  simp only [z48,Prod.mk.injEq,List.mem_cons,List.not_mem_nil,or_false] at h
  rcases h with ⟨rfl,rfl⟩|⟨rfl,rfl⟩|⟨rfl,rfl⟩
  ·exact zbi m
  ·exact zm5 m
  ·exact z7g m) (f := 30) (c := z5F) Try.func30 rfl (by kernel_rfl) _ rfl Try.ntmps30 (Nat.le_of_ble_eq_true rfl) ring_Ring_Say_h h
 ·cases h
def z0V : Code := (Try.f66.body).getD .skip
def ring_Ring_Voices_h : Hint := (.two .n (.two .n (.join [7] (.two .n (.one (.lp [] [0,5,7,13,14,15] [7] (.two .n (.two (.two .n .n) (.join [0,5,7,13,14,15] (.one (.two .n (.two .n (.join [0,5,7,9,13,14,15,29] .n (.two .n .n))))) .n)))))) (.two .n (.join [10] (.two .n (.one (.lp [(10,z5v,1)] [10,34,35] [10] (.two .n (.two (.two .n .n) (.join [10,34,35] (.one (.two .n (.two .n (.two .n .n)))) .n)))))) (.two .n .n))))))
def z0M (m : Nat) : Env := [(36, .keep (z4a m))]
abbrev z2N (n0 : Nat) : KO (AV × List AObj) := z5e Try.prog n0 [.tmp 6]
def z4s (m : Nat) (n0 : Nat) (kc : ASt → RO) (kx : KO (AV × List AObj)) (s : ASt) : RO := z11 Try.prog GG (z0M m) m ⟨46,[]⟩ (cdR (cdR (cdR (cdL (cdL (cdR (cdL (cdR (cdR z0V))))))))) ring_Ring_Voices_h.r.r.l.r.c.c.r.r.r s (z5s n0 [0,5,7,13,14,15] [7] kc kx)
def z6T (m : Nat) (n0 : Nat) (kc : ASt → RO) (kx : KO (AV × List AObj)) (s : ASt) : RO := z11 Try.prog GG (z0M m) m ⟨46,[]⟩ (cdR (cdR (cdR (cdL (cdL (cdR (cdL (cdR (cdR (cdR (cdR z0V))))))))))) ring_Ring_Voices_h.r.r.r.r.l.r.c.c.r.r.r s (z5s n0 [10,34,35] [10] kc kx)
def zaP (m : Nat) (n0k : Nat) (s : ASt) : RO := z11 Try.prog GG (z0M m) m ⟨46,[]⟩ (cdR (cdR (cdR (cdR (cdR z0V))))) ring_Ring_Voices_h.r.r.r.r.r s (z2N n0k)
def z6I (m : Nat) (n0 : Nat) (kc : ASt → RO) (kx : KO (AV × List AObj)) (s : ASt) : RO := z11 Try.prog GG (z0M m) m ⟨46,[]⟩ (cdR (cdR (cdR (cdL (cdL (cdR (cdR (cdL (cdL (cdR (cdL (cdR (cdR z0V))))))))))))) ring_Ring_Voices_h.r.r.l.r.c.c.r.r.l.c.r.r.r s (z0P 1 (zM3 (fun s=>z4s m n0 kc kx ⟨s.H,[(0,gt s.T 0),(5,gt s.T 5),(7,gt s.T 7),(13,gt s.T 13),(14,gt s.T 14),(15,gt s.T 15)]⟩) (z5s n0 [0,5,7,13,14,15] [7] kc kx)))
def zb4 (m : Nat) (s : ASt) (kc : ASt → RO) (kx : KO (AV × List AObj)) : RO := z8G Try.prog GG (z0M m) m ⟨46,[]⟩ (cdL (cdL (cdR (cdL (cdR (cdR (cdR (cdR z0V)))))))) ring_Ring_Voices_h.r.r.r.r.l.r.c.c [10,34,35] [10] s kc kx
def z6V (m : Nat) (n0k : Nat) (s : ASt) : RO := z11 Try.prog GG (z0M m) m ⟨46,[]⟩ (cdR (cdR (cdR z0V))) ring_Ring_Voices_h.r.r.r s (z2N n0k)
def zb1 (m : Nat) (s : ASt) (kc : ASt → RO) (kx : KO (AV × List AObj)) : RO := z8G Try.prog GG (z0M m) m ⟨46,[]⟩ (cdL (cdL (cdR (cdL (cdR (cdR z0V)))))) ring_Ring_Voices_h.r.r.l.r.c.c [0,5,7,13,14,15] [7] s kc kx
def z7d (m : Nat) (t0 t1 t2 : AV) (H : List AObj) : RO := zLa Try.prog GG (z0M m) m ⟨46,[]⟩ z0V ring_Ring_Voices_h ⟨H,z14 0 [t0,t1,t2]⟩ (z2N H.length)
theorem z4T (m : Nat) (n0 : Nat) (kc : ASt → RO) (kx : KO (AV × List AObj)) (H : List AObj) (t0 t5 t7 t13 t14 t15 : AV) : z4s m n0 kc kx ⟨H,[(0,t0),(5,t5),(7,t7),(13,t13),(14,t14),(15,t15)]⟩ =
 zMe none false false .add t15 (V (.int .i64 1)) fun t33 =>
 z7z n0 H [(0,t0),(5,t5),(7,t7),(13,t13),(14,t14),(15,t33)] kc := by
 refine (z03 _ _ _ _ _ _ _ _ _).trans ?_
 kernel_rfl
theorem z8C (m : Nat) (n0 : Nat) (kc : ASt → RO) (kx : KO (AV × List AObj)) (H : List AObj) (t10 t34 t35 : AV) : z6T m n0 kc kx ⟨H,[(10,t10),(34,t34),(35,t35)]⟩ =
 zMe none false false .add t35 (V (.int .i64 1)) fun t44 =>
 z7z n0 H [(10,t10),(34,t34),(35,t44)] kc := by
 refine (z03 _ _ _ _ _ _ _ _ _).trans ?_
 kernel_rfl
theorem zfk (m : Nat) (n0k : Nat) (H : List AObj) (t10 : AV) : zaP m n0k ⟨H,[(10,t10)]⟩ =
 z4f n0k H (ro H t10) := by
 refine (z03 _ _ _ _ _ _ _ _ _).trans ?_
 kernel_rfl
theorem z4Y (m : Nat) (n0 : Nat) (kc : ASt → RO) (kx : KO (AV × List AObj)) (H : List AObj) (t0 t5 t7 t9 t13 t14 t15 t29 : AV) : z6I m n0 kc kx ⟨H,[(0,t0),(5,t5),(7,t7),(9,t9),(13,t13),(14,t14),(15,t15),(29,t29)]⟩ =
 z0o t29 (
  z02 (some (0,1)) t9 fun t30 =>
  z04 1 H t30 fun t31 =>
  zx3 64 1 t7 t31 fun t32 =>
  z0I 1 H t32 (V (.bool true)) fun H2 =>
  z4s m n0 kc kx ⟨H2,[(0,t0),(5,t5),(7,t7),(13,t13),(14,t14),(15,t15)]⟩) (
  z4s m n0 kc kx ⟨H,[(0,t0),(5,t5),(7,t7),(13,t13),(14,t14),(15,t15)]⟩) := by
 refine (z03 _ _ _ _ _ _ _ _ _).trans ?_
 kernel_rfl
theorem zeW (m : Nat) (H : List AObj) (t10 t34 t35 : AV) (kc : ASt → RO) (kx : KO (AV × List AObj)) : zb4 m ⟨H,[(10,t10),(34,t34),(35,t35)]⟩ kc kx =
 zMe none false false .lss t35 (V (.int .i64 64)) fun t36 =>
 z0o t36 (
  zA8 false (some (64,1)) t34 t35 fun t38 =>
  z0o t38 (
   z0O (some (z5v,1)) 1 [(0,t35)] fun t42 =>
   zNh (some (z5v,1)) H t10 t42 fun t43 H2 =>
   z6T m H.length kc kx ⟨H2,[(10,t43),(34,t34),(35,t35)]⟩) (
   z6T m H.length kc kx ⟨H,[(10,t10),(34,t34),(35,t35)]⟩)) (
  kx (.exit 2) ⟨H,[(10,t10)]⟩) := by
 refine (z0F _ _ _ _ _ _ _ _ _ _ _ _).trans ?_
 kernel_rfl
theorem zfh (m : Nat) (n0k : Nat) (H : List AObj) (t7 : AV) : z6V m n0k ⟨H,[(7,t7)]⟩ =
 z04 66 H t7 fun t34 =>
 zNf (V (.slice none 0 0)) z5v 1 H fun t10 H2 =>
 z7c m (zb4 m) ⟨H2,[(10,t10),(34,t34),(35,(V (.int .i64 0)))]⟩ (z0P 2 (zM3 (fun s=>zaP m n0k ⟨s.H,[(10,gt s.T 10)]⟩) (z2N n0k))) := by
 refine (z03 _ _ _ _ _ _ _ _ _).trans ?_
 kernel_rfl
theorem zf0 (m : Nat) (H : List AObj) (t0 t5 t7 t13 t14 t15 : AV) (kc : ASt → RO) (kx : KO (AV × List AObj)) : zb1 m ⟨H,[(0,t0),(5,t5),(7,t7),(13,t13),(14,t14),(15,t15)]⟩ kc kx =
 zMe none false false .lss t15 t14 fun t16 =>
 z0o t16 (
  z3H 7 H t13 t15 fun t17 =>
  z04 7 H t17 fun t18 =>
  z2f (some zc_api_Stmt) z01 H fun t9 H2 =>
  z0I 7 H2 t9 t18 fun H3 =>
  z02 (some (0,1)) t9 fun t19 =>
  z04 1 H3 t19 fun t20 =>
  z02 (some (0,1)) t5 fun t21 =>
  z0I 1 H3 t21 t20 fun H4 =>
  z04 7 H4 t9 fun t22 =>
  z04 7 H4 t5 fun t23 =>
  zMe (some [.i .i64, .i .i64, .i .i64, .i .i64, .i .i64]) false false .eql t22 t23 fun t24 =>
  z0o t24 (
   z04 7 H4 t9 fun t27 =>
   z4O (z4V m (ro H4 t0) (ro H4 t27) H4) fun t28 H5 =>
   z6I m H.length kc kx ⟨H5,[(0,t0),(5,t5),(7,t7),(9,t9),(13,t13),(14,t14),(15,t15),(29,t28)]⟩) (
   z6I m H.length kc kx ⟨H4,[(0,t0),(5,t5),(7,t7),(9,t9),(13,t13),(14,t14),(15,t15),(29,(V (.bool false)))]⟩)) (
  kx (.exit 0) ⟨H,[(7,t7)]⟩) := by
 refine (z0F _ _ _ _ _ _ _ _ _ _ _ _).trans ?_
 kernel_rfl
theorem zj4 (m : Nat) (t0 t1 t2 : AV) (H : List AObj) : z7d m t0 t1 t2 H =
 zN2 z01 H t2 fun t5 H2 =>
 z2f (some zk3) zjF H2 fun t7 H3 =>
 zLZ false true H3 t1 fun t14 =>
 z7c m (zb1 m) ⟨H3,[(0,t0),(5,t5),(7,t7),(13,t1),(14,t14),(15,(V (.int .i64 0)))]⟩ (z0P 0 (zM3 (fun s=>z6V m H.length ⟨s.H,[(7,gt s.T 7)]⟩) (z2N H.length))) := by
 refine (zhw Try.prog GG (z0M m) m ⟨46,[]⟩ H.length z0V ring_Ring_Voices_h ⟨H,z14 0 [t0,t1,t2]⟩ [.tmp 6]).trans ?_
 kernel_rfl
def z7I (m : Nat) : List AV → List AObj → RO|[t0,t1,t2],H=>z7d m t0 t1 t2 H|_,_=>none
theorem ziw (m : Nat) : ∀ args H X H',z7I m args H = some (X,H') → AC Try.prog GG 66 args H (Is X H') := by
 intro args H X H' h
 unfold z7I at h
 split at h
 ·exact z1p MIX (by
  intro f e h
  simp only [z0M,Prod.mk.injEq,List.mem_cons,List.not_mem_nil,or_false] at h
  obtain ⟨rfl,rfl⟩ := h
  ·exact z7g m) (f := 66) (c := z0V) Try.func66 rfl (by kernel_rfl) _ rfl Try.ntmps66 (Nat.le_of_ble_eq_true rfl) ring_Ring_Voices_h h
 ·cases h
end Go.Proofs.Ytaaogcnjfkgnoaa

