/-
  Texts laid together, part 2 of 7: laws of a walk over data, contracts of functions, each whole by itself.
-/
import Derived.Test.YtoeajbhlkccekaaDoorMga
import Derived.RegionTactic
import Derived.ProofKit
import Derived.OpenShut
import Derived.ShutString
import Derived.ChangeOld
import Derived.Deep.Slices
set_option maxRecDepth 100000
set_option linter.unusedVariables false
set_option linter.unusedSimpArgs false
namespace Go.Proofs.YtoeajbhlkccekaaDoor
open Go.RowKit
def ro1 (H : List AObj) : AV → AV
 |.held (.inr (.inr (i,n)))=>match H[i]? with
  |some o=>if o.k = 2 ∧ n = o.c.length then SL o.c else OW i n
  |none=>OW i n
 |.held (.inl (.slice none 0 0))=>SL []
 |d=>d
def roA (H : List AObj) : AV → AV
 |.agg cs=>.agg (cs.map (ro1 H))
 |d=>ro1 H d
def ro (H : List AObj) : AV → AV
 |.iface s (.agg ds)=>.iface s (.agg (ds.map (roA H)))
 |d=>roA H d
section
variable {P : Program} {G : Gl} {w : World} {S : SS} {μ : List Value} {H : List AObj} {a : Act} {o : Oper} {K : AV → List AObj → Prop} {Q : Exit → Act → World → Prop} {T : Tm} {N : FS}
theorem rep1.toRo (hr : Rel w S μ H) {d : AV} {v : Value} (h : rep1 S μ d v) : rep1 S μ (ro1 H d) v := by
 unfold ro1
 split
 ·rename_i i n
  split
  ·rename_i ob hob
   split
   ·rename_i hh
    obtain ⟨hk,hn⟩ := hh
    obtain ⟨es,A,c,hK,hv,h1,h2,h3⟩ := elems_is (K := fun es=>es = ob.c) hr (d := OW i n) (v := v) h ⟨ob,hob,hk,hn,rfl⟩
    subst hK
    exact ⟨A,c,hv,h1,h2,h3⟩
   ·exact h
  ·exact h
 ·obtain ⟨rfl,_⟩ := h
  exact ⟨none,0,rfl,Nat.le_refl _,Nat.zero_le _,fun hne=>absurd rfl hne⟩
 ·exact h
theorem ro1_noagg {d : AV} (h : ∀ cs,d ≠ DataW.agg cs) : ∀ cs,ro1 H d ≠ DataW.agg cs := by
 intro cs e
 unfold ro1 at e
 split at e
 ·split at e
  ·split at e <;> cases e
  ·cases e
 ·cases e
 ·exact h cs e
theorem ro1_notup {d : AV} {s : String} {x : AV} (h : ro1 H d = .iface s x) : d = .iface s x := by
 unfold ro1 at h
 split at h
 ·split at h
  ·split at h <;> cases h
  ·cases h
 ·cases h
 ·exact h
theorem repA.toRo (hr : Rel w S μ H) {d : AV} {v : Value} (h : repA S μ d v) : repA S μ (roA H d) v := by
 unfold repA at h
 split at h
 ·rename_i cs
  obtain ⟨us,e,hl,hu⟩ := h
  refine ⟨us,e,by simpa using hl,fun j d u hd hu'=>?_⟩
  rw [List.getElem?_map] at hd
  cases hc : cs[j]? with
  |none=>rw [hc] at hd;cases hd
  |some c =>
   rw [hc] at hd
   simp at hd;subst hd
   exact ⟨(hu j c u hc hu').1,(hu j c u hc hu').2.toRo hr⟩
 ·rename_i hne
  have e : roA H d = ro1 H d := by
   unfold roA
   split
   ·exact absurd rfl (hne _)
   ·rfl
  rw [e]
  have h2 := rep1.toRo hr h
  unfold repA
  split
  ·rename_i cs hcs;exact absurd hcs (ro1_noagg hne cs)
  ·exact h2
theorem rep.toRo (hr : Rel w S μ H) {d : AV} {v : Value} (h : rep S μ d v) : rep S μ (ro H d) v := by
 unfold rep at h
 split at h
 ·rename_i s ds
  obtain ⟨us,e,hl,hu⟩ := h
  refine ⟨us,e,by simpa using hl,fun j d u hd hu'=>?_⟩
  rw [List.getElem?_map] at hd
  cases hc : ds[j]? with
  |none=>rw [hc] at hd;cases hd
  |some c =>
   rw [hc] at hd
   simp at hd;subst hd
   exact (hu j c u hc hu').toRo hr
 ·rename_i hne
  have e : ro H d = roA H d := by
   unfold ro
   split
   ·exact absurd rfl (hne _ _)
   ·rfl
  rw [e]
  exact rep_of_repA (repA.toRo hr h)
theorem op_call {f : FuncId} {args : Array Operand} {ts : Array TypeId} (hrel : Rel w S μ H) (hf : Fr S μ N T a) (hg : GOk G S) (ho : o.op = .call { callee := .value (.func f),args := args,argTypes := ts })
  (h : AC P G f ((args.toList.map (ev G T)).map (ro H)) H K) : o.wp P a w (OpPost w S μ H a o K) Q := by
 unfold Oper.wp
 rw [run_callIs h.1 ho rfl]
 have hc := h.2 w S μ (args.toList.map a.eval) hrel hg (by rw [List.length_map,List.length_map,List.length_map]) (fun j d v hd hv=>by
  rw [List.getElem?_map,List.getElem?_map] at hd
  rw [List.getElem?_map] at hv
  cases hx : args.toList[j]? with
  |none=>rw [hx] at hd;cases hd
  |some x =>
   rw [hx] at hd hv
   simp only [Option.map_some,Option.some.injEq] at hd hv
   subst hd hv
   exact (hf.ev hg x).toRo hrel)
 have e : (args.toList.map a.eval).toArray = args.map a.eval := by rw [← Array.toList_map,Array.toArray_toList]
 rw [e] at hc
 refine hc.mono fun e w' ⟨v,r,H',S',μ',he,hR,hrel',hrep,hst⟩=>?_
 subst he
 exact ⟨r,v,H',S',μ',hR,rfl,hrep,hrel',hst,fun q=>by rw [ho] at q;cases q⟩
end
section
variable {P : Program} {G : Gl} {w : World} {S : SS} {μ : List Value} {H : List AObj} {a : Act} {o : Oper} {K : AV → List AObj → Prop} {Q : Exit → Act → World → Prop} {T : Tm} {N : FS}
def cap0 : AV → Bool
 |.nil=>true
 |.held (.inl _)=>true
 |.held (.inr (.inl _))=>true
 |.ptr _=>true
 |_=>false
theorem rep0_of {d : AV} {v : Value} (h : rep S μ d v) (hc : cap0 d = true) : rep0 S μ d v := by
 match d,h,hc with
 |.nil,_,_=>trivial
 |.held (.inl u),h,_=>exact h
 |.held (.inr (.inl (i,q))),h,_=>exact h
 |.ptr d,h,_=>exact h
theorem rep_of_rep0 {d : AV} {v : Value} (h : rep0 S μ d v) : rep S μ d v := by
 match d,h with
 |.nil,_=>trivial
 |.held (.inl u),h=>exact h
 |.held (.inr (.inl (i,q))),h=>exact h
 |.ptr d,h=>exact h
theorem op_makeFunc {fn : Fn} {first caps : Array Operand} (hrel : Rel w S μ H) (hf : Fr S μ N T a) (hg : GOk G S) (ho : o.op = .makeFunc fn first caps) (hc : ((first.toList ++ caps.toList).map (ev G T)).all cap0 = true)
  (hK : K (CL fn first.toList.length ((first.toList ++ caps.toList).map (ev G T))) H) : o.wp P a w (OpPost w S μ H a o K) Q := by
 refine op_val (u := .func fn (first.map a.eval) (caps.map a.eval)) hrel ?_ hK ?_
 ·unfold execOp
  rw [ho]
  simp only [Instr.makeFunc,Sem.run_bind,Sem.run_pure,Result.andThen_ok]
 ·refine ⟨(first.toList ++ caps.toList).map a.eval,?_,by simp,fun j d u hd hu=>?_⟩
  ·have e1 : ((first.toList ++ caps.toList).map a.eval).take first.toList.length = (first.map a.eval).toList := by
    rw [List.map_append,List.take_append_of_le_length (by simp),List.take_of_length_le (by simp)];simp
   have e2 : ((first.toList ++ caps.toList).map a.eval).drop first.toList.length = (caps.map a.eval).toList := by
    rw [List.map_append,List.drop_append_of_le_length (by simp),List.drop_of_length_le (by simp)];simp
   rw [e1,e2]
  ·rw [List.getElem?_map] at hd hu
   cases hx : (first.toList ++ caps.toList)[j]? with
   |none=>rw [hx] at hd;cases hd
   |some x =>
    have hxm := List.mem_of_getElem? hx
    rw [hx] at hd hu
    simp only [Option.map_some,Option.some.injEq] at hd hu
    subst hd hu
    exact rep0_of (hf.ev hg x) ((List.all_eq_true.1 hc) _ (List.mem_map.2 ⟨x,hxm,rfl⟩))
def aCallV (P : Program) (G : Gl) (x : AV) (args : List AV) (H : List AObj) (K : AV → List AObj → Prop) : Prop :=
 match x with
 |.slice caps [.held (.inl (.func (.func f) _ _)), .held (.inr (.inl (k,_)))]=>AC P G f ((caps.take k ++ args ++ caps.drop k).map (ro H)) H K
 |.held (.inl (.func (.func f) ⟨[]⟩ ⟨[]⟩))=>AC P G f (args.map (ro H)) H K
 |_=>False
theorem run_callVal {t : Tmp} {args : Array Operand} {ts : Array TypeId} {f : FuncId} {fs cs : Array Value} (hf : callIs P f = true) (ho : o.op = .call { callee := .value (.tmp t),args := args,argTypes := ts }) (ht : a.eval (.tmp t) = .func (.func f) fs cs) :
  (execOp a.eval o).run P w = .ok (.enter f (fs ++ args.map a.eval ++ cs)) w := by
 unfold callIs at hf
 cases h : P.funcs[f]? with
 |none=>rw [h] at hf;cases hf
 |some fn =>
  rw [h] at hf
  simp only [Bool.and_eq_true,Bool.not_eq_true',Option.isSome_iff_ne_none] at hf
  obtain ⟨h1,h2⟩ := hf
  have h3 : fn.body.isNone = false := by cases hb : fn.body with|none=>exact absurd hb h2|some _=>rfl
  unfold execOp
  rw [ho]
  simp only [resolve,ht,Deferred.ofValue,Sem.run_bind,Sem.run_pure,Result.andThen_ok,invoke,callFunc,run_program,h,h1,h3]
  simp [Sem.run_pure]
theorem op_callv {t : Tmp} {args : Array Operand} {ts : Array TypeId} (hrel : Rel w S μ H) (hf : Fr S μ N T a) (hg : GOk G S) (ho : o.op = .call { callee := .value (.tmp t),args := args,argTypes := ts })
  (h : aCallV P G (get T t) (args.toList.map (ev G T)) H K) : o.wp P a w (OpPost w S μ H a o K) Q := by
 have hl : loud o.op = true := by rw [ho];rfl
 unfold aCallV at h
 split at h
 ·rename_i caps f f1 f2 k k2 hT
  have hs := hf.slot t
  rw [hT] at hs
  obtain ⟨us,hu,hul,hur⟩ := hs
  have ht : a.eval (.tmp t) = .func (.func f) (us.take k).toArray (us.drop k).toArray := hu
  unfold Oper.wp
  rw [run_callVal h.1 ho ht]
  have hrc : ∀ (j : Nat) (d : AV) (v : Value),caps[j]? = some d → us[j]? = some v → rep S μ d v := fun j d v hd hv=>rep_of_rep0 (hur j d v hd hv)
  have hc := h.2 w S μ (us.take k ++ args.toList.map a.eval ++ us.drop k) hrel hg (by simp [hul]) (fun j d v hd hv=>by
   rw [List.getElem?_map] at hd
   cases hx : (caps.take k ++ args.toList.map (ev G T) ++ caps.drop k)[j]? with
   |none=>rw [hx] at hd;cases hd
   |some x =>
    rw [hx] at hd
    simp only [Option.map_some,Option.some.injEq] at hd
    subst hd
    refine rep.toRo hrel ?_
    have hlt : (us.take k).length = (caps.take k).length := by simp [hul]
    rcases Nat.lt_or_ge j (caps.take k ++ args.toList.map (ev G T)).length with hj|hj
    ·rw [List.getElem?_append_left hj] at hx
     rw [List.getElem?_append_left (by simp only [List.length_append,List.length_map,hlt] at hj ⊢;exact hj)] at hv
     rcases Nat.lt_or_ge j (caps.take k).length with hj2|hj2
     ·rw [List.getElem?_append_left hj2] at hx
      rw [List.getElem?_append_left (by rw [hlt];exact hj2)] at hv
      rw [List.getElem?_take] at hx hv
      split at hx
      ·rw [if_pos (by assumption)] at hv;exact hrc j x v hx hv
      ·cases hx
     ·rw [List.getElem?_append_right hj2] at hx
      rw [List.getElem?_append_right (by rw [hlt];exact hj2),hlt] at hv
      rw [List.getElem?_map] at hx hv
      cases hy : args.toList[j - (caps.take k).length]? with
      |none=>rw [hy] at hx;cases hx
      |some y =>
       rw [hy] at hx hv
       simp only [Option.map_some,Option.some.injEq] at hx hv
       subst hx hv
       exact hf.ev hg y
    ·rw [List.getElem?_append_right hj] at hx
     have hle : (us.take k ++ args.toList.map a.eval).length = (caps.take k ++ args.toList.map (ev G T)).length := by simp [hul]
     rw [List.getElem?_append_right (by rw [hle];exact hj),hle] at hv
     rw [List.getElem?_drop] at hx hv
     exact hrc _ x v hx hv)
  have e : (us.take k ++ args.toList.map a.eval ++ us.drop k).toArray = (us.take k).toArray ++ args.map a.eval ++ (us.drop k).toArray := by
   apply Array.ext'
   simp
  rw [e] at hc
  refine hc.mono fun e w' ⟨v,r,H',S',μ',he,hR,hrel',hrep,hst⟩=>?_
  subst he
  exact ⟨r,v,H',S',μ',hR,rfl,hrep,hrel',hst,fun q=>by rw [hl] at q;cases q⟩
 ·rename_i f hT
  have hs := hf.slot t
  rw [hT] at hs
  have ht : a.eval (.tmp t) = .func (.func f) #[] #[] := hs.1
  unfold Oper.wp
  rw [run_callVal h.1 ho ht]
  have hc := h.2 w S μ (args.toList.map a.eval) hrel hg (by simp) (fun j d v hd hv=>by
   rw [List.getElem?_map,List.getElem?_map] at hd
   rw [List.getElem?_map] at hv
   cases hx : args.toList[j]? with
   |none=>rw [hx] at hd;cases hd
   |some x =>
    rw [hx] at hd hv
    simp only [Option.map_some,Option.some.injEq] at hd hv
    subst hd hv
    exact (hf.ev hg x).toRo hrel)
  have e : (args.toList.map a.eval).toArray = #[] ++ args.map a.eval ++ #[] := by
   apply Array.ext'
   simp
  rw [e] at hc
  refine hc.mono fun e w' ⟨v,r,H',S',μ',he,hR,hrel',hrep,hst⟩=>?_
  subst he
  exact ⟨r,v,H',S',μ',hR,rfl,hrep,hrel',hst,fun q=>by rw [hl] at q;cases q⟩
 ·exact h.elim
end
def aMM (mx : Bool) (x y : AV) (K : AV → Prop) : Prop := match x,y with
 |.held (.inl (.int k a)), .held (.inl (.int k' b))=>k = k' ∧ K (V (.int k (if mx = true then (if b > a then b else a) else (if b < a then b else a))))
 |_,_=>False
theorem op_mm {P : Program} {w : World} {S : SS} {μ : List Value} {H : List AObj} {a : Act} {o : Oper} {K : AV → List AObj → Prop} {Q : Exit → Act → World → Prop} {x y : Operand} {ts : Array TypeId} {d e : AV} (mx : Bool) (hrel : Rel w S μ H) (ho : o.op = .call { callee := .builtin (if mx = true then .max else .min),args := #[x,y],argTypes := ts }) (hx : rep S μ d (a.eval x)) (hy : rep S μ e (a.eval y)) (h : aMM mx d e fun r=>K r H) : o.wp P a w (OpPost w S μ H a o K) Q := by
 unfold aMM at h
 split at h
 ·rename_i k i k' j
  obtain ⟨rfl,hK⟩ := h
  obtain ⟨e1,_⟩ := hx
  obtain ⟨e2,_⟩ := hy
  refine op_val hrel ?_ hK (rep_V rfl)
  unfold execOp
  rw [ho]
  cases mx <;> simp [resolve,invoke,builtin,Sem.run_bind,Sem.run_pure,Result.andThen_ok,e1,e2,Builtin.max_,Builtin.min_,Builtin.max2,Builtin.min2]
 ·exact h.elim
def stepOp (P : Program) (G : Gl) (o : Oper) (s : ASt) (K : AV → List AObj → Prop) : Prop :=
 match o.op with
 |.move x=>K (ev G s.T x) s.H
 |.assign x=>K (ev G s.T x) s.H
 |.pick c x y=>aPick (ev G s.T c) (ev G s.T x) (ev G s.T y) fun r=>K r s.H
 |.binOp op t x y _=>aBin P t op (ev G s.T x) (ev G s.T y) fun r=>K r s.H
 |.unOp op _ x=>aUn op (ev G s.T x) fun r=>K r s.H
 |.alloc t=>match zeroC P t with
  |some c=>K (OP s.H.length 0) (s.H ++ [⟨1,t,0,c⟩])
  |none=>False
 |.box t x=>(cellsOf (ev G s.T x)).all sure = true ∧ K (OP s.H.length 0) (s.H ++ [⟨1,t,0,cellsOf (ev G s.T x)⟩])
 |.build t ps=>aBuild P t (ps.toList.map fun p=>(p.1,ev G s.T p.2)) fun r=>K r s.H
 |.buildSlice t n ps=>aBuildS P t n (ps.toList.map fun p=>(p.1,ev G s.T p.2)) fun r=>K r s.H
 |.load t x=>aLoad (kindT P t) s.H (ev G s.T x) fun r=>K r s.H
 |.store t x y=>aStore (kindT P t) s.H (ev G s.T x) (ev G s.T y) fun H'=>K .nil H'
 |.nilCheck x=>aNil (ev G s.T x) fun r=>K r s.H
 |.convert src dst x=>aConv P src dst (ro s.H (ev G s.T x)) fun r=>K r s.H
 |.extract x i=>aExtract (ev G s.T x) i fun r=>K r s.H
 |.fieldAddr t x f=>aField (fieldT P t f) (ev G s.T x) fun r=>K r s.H
 |.field t x f=>aFieldV (fieldT P t f) (ev G s.T x) fun r=>K r s.H
 |.indexAddr t x y=>aIndexA P t s.H (ev G s.T x) (ev G s.T y) fun r=>K r s.H
 |.index t x y=>aIndexV P t (ev G s.T x) (ev G s.T y) fun r=>K r s.H
 |.slice t x lo hi none=>aSlice P t s.H (ev G s.T x) (lo.map (ev G s.T)) (hi.map (ev G s.T)) fun r=>K r s.H
 |.call { callee := .value (.func f),args := args,argTypes := _ }=>AC P G f ((args.toList.map (ev G s.T)).map (ro s.H)) s.H K
 |.makeFunc fn first caps=>((first.toList ++ caps.toList).map (ev G s.T)).all cap0 = true ∧ K (CL fn first.toList.length ((first.toList ++ caps.toList).map (ev G s.T))) s.H
 |.call { callee := .value (.tmp t),args := args,argTypes := _ }=>aCallV P G (get s.T t) (args.toList.map (ev G s.T)) s.H K
 |.call { callee := .builtin .len,args := ⟨[x]⟩,argTypes := ⟨[t]⟩ }=>aLen P t s.H (ev G s.T x) fun r=>K r s.H
 |.call { callee := .builtin .append,args := ⟨[x,y]⟩,argTypes := ⟨[t,t']⟩ }=>if t' = t then aApp P t s.H (ev G s.T x) (ev G s.T y) K else P.underlying t' = some .string ∧ aAppS P t s.H (ev G s.T x) (ev G s.T y) K
 |.call { callee := .builtin .max,args := ⟨[x,y]⟩,argTypes := _ }=>aMM true (ev G s.T x) (ev G s.T y) fun r=>K r s.H
 |.call { callee := .builtin .min,args := ⟨[x,y]⟩,argTypes := _ }=>aMM false (ev G s.T x) (ev G s.T y) fun r=>K r s.H
 |_=>False
theorem map_ev {S : SS} {μ : List Value} {N : FS} {T : Tm} {a : Act} {G : Gl} (hf : Fr S μ N T a) (hg : GOk G S) (x : Option Operand) : (∀ y,x.map (ev G T) = some y → ∃ u,x.map a.eval = some u ∧ rep S μ y u) ∧ (x.map (ev G T) = none → x.map a.eval = none) := by
 cases x with
 |none=>exact ⟨fun y h=>(by cases h),fun _=>rfl⟩
 |some x=>exact ⟨fun y h=>by simp only [Option.map_some,Option.some.injEq] at h;subst h;exact ⟨_,rfl,hf.ev hg x⟩,fun h=>by cases h⟩
theorem stepOp_wp {P : Program} {G : Gl} {N : FS} {o : Oper} {s : ASt} {K : AV → List AObj → Prop} (h : stepOp P G o s K) {w : World} {S : SS} {μ : List Value} {a : Act} (hr : Rel w S μ s.H) (hf : Fr S μ N s.T a) (hg : GOk G S) (Q : Exit → Act → World → Prop) :
  o.wp P a w (OpPost w S μ s.H a o K) Q := by
 unfold stepOp at h
 split at h
 ·rename_i hx;exact op_move hr (.inl hx) (hf.ev hg _) h
 ·rename_i hx;exact op_move hr (.inr hx) (hf.ev hg _) h
 ·rename_i hx;exact op_pick hr hx (hf.ev hg _) (hf.ev hg _) (hf.ev hg _) h
 ·rename_i hx;exact op_bin hr hx (hf.ev hg _) (hf.ev hg _) h
 ·rename_i hx;exact op_un hr hx (hf.ev hg _) h
 ·rename_i t hx
  split at h
  ·rename_i c hc;exact op_alloc hr hx hc h
  ·exact h.elim
 ·rename_i hx;exact op_box hr hx (hf.ev hg _) h.1 h.2
 ·rename_i hx;exact op_build hr hf hg hx h
 ·rename_i hx;exact op_buildSlice hr hf hg hx h
 ·rename_i hx;exact op_load hr hx (hf.ev hg _) h
 ·rename_i hx;exact op_store hr hx (hf.ev hg _) (hf.ev hg _) h
 ·rename_i hx;exact op_nilCheck hr hx (hf.ev hg _) h
 ·rename_i hx;exact op_conv hr hx ((hf.ev hg _).toRo hr) h
 ·rename_i hx;exact op_extract hr hx (hf.ev hg _) h
 ·rename_i hx;exact op_fieldAddr hr hx (hf.ev hg _) h
 ·rename_i hx;exact op_field hr hx (hf.ev hg _) h
 ·rename_i hx;exact op_indexAddr hr hx (hf.ev hg _) (hf.ev hg _) h
 ·rename_i hx;exact op_index hr hx (hf.ev hg _) (hf.ev hg _) h
 ·rename_i hx;exact op_slice hr hx (hf.ev hg _) (map_ev hf hg _).1 (map_ev hf hg _).2 (map_ev hf hg _).1 (map_ev hf hg _).2 h
 ·rename_i hx;exact op_call hr hf hg hx h
 ·rename_i hx;exact op_makeFunc hr hf hg hx h.1 h.2
 ·rename_i hx;exact op_callv hr hf hg hx h
 ·rename_i hx;exact op_len hr hx (hf.ev hg _) h
 ·rename_i hx
  split at h
  ·rename_i e;subst e;exact op_append hr hx (hf.ev hg _) (hf.ev hg _) h
  ·exact op_appendS hr hx (hf.ev hg _) (hf.ev hg _) h.1 h.2
 ·rename_i hx;exact op_mm true hr hx (hf.ev hg _) (hf.ev hg _) h
 ·rename_i hx;exact op_mm false hr hx (hf.ev hg _) (hf.ev hg _) h
 ·exact h.elim
def dstAt (ops : List Oper) (j : Nat) : Option Tmp := (ops[j]?).bind (·.dst)
abbrev UD : AV := .iface "" (.agg [])
def guardA (x : AV) (want : Bool) (A B : Prop) : Prop :=
 match x with
 |.held (.inl (.bool b))=>(b = want → A) ∧ (b = !want → B)
 |.iface _ (.agg [])=>B
 |_=>False
def runOps (P : Program) (G : Gl) (ops : List Oper) : List Oper → ASt → (ASt → Prop) → Prop
 |[],s,K=>K s
 |o :: r,s,K=>match o.guard with
  |none=>stepOp P G o s fun d H=>runOps P G ops r (s.set H o.dst d) K
  |some (j,want)=>match dstAt ops j with
   |some t=>guardA (get s.T t) want (stepOp P G o s fun d H=>runOps P G ops r (s.set H o.dst d) K) (runOps P G ops r (s.set s.H o.dst UD) K)
   |none=>False
def fits (N : Nat) (ops : List Oper) : Bool := ops.all fun o=>match o.dst with|some d=>decide (d < N)|none=>true
theorem yielded_get {S : SS} {μ : List Value} {N : FS} {T : Tm} {a : Act} (hf : Fr S μ N T a) {ops : List Oper} {j t : Nat} {b : Bool} (ht : dstAt ops j = some t) (hx : get T t = V (.bool b)) : yielded ops.toArray a.tmps j = some b := by
 have h := hf.slot t
 rw [hx] at h
 obtain ⟨he,_⟩ := h
 unfold yielded
 have h1 : ((ops.toArray)[j]?).bind (·.dst) = some t := by simpa [dstAt] using ht
 rw [h1]
 simp only [Option.bind_some]
 rw [Array.getD_eq_getD_getElem?] at he
 cases h2 : a.tmps[t]? with
 |none=>rw [h2] at he;simp [undef] at he
 |some x=>rw [h2] at he;simp only [Option.getD_some] at he;subst he;rfl
theorem rep_ud (S : SS) (μ : List Value) : rep S μ UD undef := ⟨[],rfl,rfl,fun j d u h=>by simp at h⟩
theorem ud_undef {S : SS} {μ : List Value} {t : String} {v : Value} (h : rep S μ (.iface t (.agg [])) v) : v = undef := by
 obtain ⟨us,rfl,hl,_⟩ := h
 have : us = [] := List.eq_nil_of_length_eq_zero hl
 subst this;rfl
theorem yielded_ud {S : SS} {μ : List Value} {N : FS} {T : Tm} {a : Act} (hf : Fr S μ N T a) {ops : List Oper} {j t : Nat} {q : String} (ht : dstAt ops j = some t) (hx : get T t = .iface q (.agg [])) : yielded ops.toArray a.tmps j = none := by
 have h := hf.slot t
 rw [hx] at h
 have he := ud_undef h
 unfold yielded
 have h1 : ((ops.toArray)[j]?).bind (·.dst) = some t := by simpa [dstAt] using ht
 rw [h1]
 simp only [Option.bind_some]
 rw [Array.getD_eq_getD_getElem?] at he
 cases h2 : a.tmps[t]? with
 |none=>rfl
 |some x=>rw [h2] at he;simp only [Option.getD_some] at he;subst he;rfl
theorem Oper.wp_next {P : Program} {o : Oper} {a : Act} {w : World} {K K' : Act → World → Prop} {Q : Exit → Act → World → Prop} (hh : o.wp P a w K Q) (h : ∀ a w,K a w → K' a w) : o.wp P a w K' Q := by
 unfold Oper.wp at *
 generalize (execOp a.eval o).run P w = r at *
 cases r with
 |ok n w' =>
  cases n <;> simp only [Oper.upon] at hh ⊢ <;>
   first
    |exact h _ _ hh
    |exact Calls.mono hh (fun e w'' he=>by cases e <;> first|exact h _ _ he|exact he)
    |exact Rows.mono hh (fun _ _ he=>h _ _ he)
 |halt x w'=>cases x <;> simp only [Oper.upon] at hh ⊢ <;> exact hh
theorem runOps_wp {P : Program} {G : Gl} {N : FS} {n : Nat} {ops : List Oper} {K : ASt → Prop} {Q : Exit → ASt → Prop} (hK : ∀ s,K s → Q .normal s) {w0 : World} {S0 : SS} {μ0 : List Value} {H0 : List AObj} (hn : n ≤ H0.length) (hl0 : μ0.length = H0.length) : ∀ (l : List Oper) (s : ASt),runOps P G ops l s K → fits N l = true →
  ∀ w S μ a,Rel w S μ s.H → Fr S μ N s.T a → GOk G S → Step n w0 S0 μ0 H0 w S μ s.H → wpList P ops.toArray (Lift N n w0 S0 μ0 H0 Q) l a w
 |[],s,h,_,w,S,μ,a,hr,hf,hg,hs=>⟨s,S,μ,hK s h,hr,hf,hs⟩
 |o :: r,s,h,hfit,w,S,μ,a,hr,hf,hg,hs=>by
  have hfit' := hfit
  simp only [fits,List.all_cons,Bool.and_eq_true] at hfit'
  have hd : ∀ i,o.dst = some i → i < N := fun i e=>by have := hfit'.1;rw [e] at this;simpa using this
  have hgo : ∀ (hw : Region.wanted o (yielded ops.toArray a.tmps) = true),stepOp P G o s (fun d H=>runOps P G ops r (s.set H o.dst d) K) → wpList P ops.toArray (Lift N n w0 S0 μ0 H0 Q) (o :: r) a w := by
   intro hw hstep
   unfold wpList
   rw [if_pos hw]
   refine .inl ?_
   have hop := stepOp_wp hstep hr hf hg (Lift N n w0 S0 μ0 H0 Q)
   refine _root_.Go.Proofs.YtoeajbhlkccekaaDoor.Oper.wp_next hop fun a' w'=>?_
   rintro ⟨d,u,H',S',μ',hrest,rfl,hrep,hr',hs',_⟩
   have hst := (hf.ext (hs'.toExt hr)).put o.dst hd hrep
   have hn' : n ≤ s.H.length := by
    have := hs.objs
    rcases Nat.lt_or_ge s.H.length n with hlt|hge
    ·have hlm : s.H.length < μ0.length := by omega
     obtain ⟨x',hx',_⟩ := hs.objs s.H.length μ0[s.H.length] hlt (List.getElem?_eq_getElem hlm)
     have := (List.getElem?_eq_some_iff.1 hx').1
     rw [hr.len] at this;omega
    ·exact hge
   exact runOps_wp hK hn hl0 r _ hrest hfit'.2 w' S' μ' _ hr' hst (hg.ext hs'.still) (hs.trans (hs'.less hn'))
  unfold runOps at h
  split at h
  ·rename_i hgd
   exact hgo (by simp [Region.wanted,hgd]) h
  ·rename_i j want hgd
   split at h
   ·rename_i t ht
    unfold guardA at h
    split at h
    ·rename_i b hb
     have hy := yielded_get hf ht hb
     by_cases e : b = want
     ·exact hgo (by simp [Region.wanted,hgd,hy,e]) (h.1 e)
     ·have hrest := h.2 (by cases b <;> cases want <;> simp_all)
      unfold wpList
      rw [if_neg (by simp [Region.wanted,hgd,hy,e])]
      have hst := hf.put o.dst hd (rep_ud S μ)
      exact runOps_wp hK hn hl0 r _ hrest hfit'.2 w S μ _ hr hst hg hs
    ·rename_i q hb
     have hy := yielded_ud hf ht hb
     unfold wpList
     rw [if_neg (by simp [Region.wanted,hgd,hy])]
     have hst := hf.put o.dst hd (rep_ud S μ)
     exact runOps_wp hK hn hl0 r _ h hfit'.2 w S μ _ hr hst hg hs
    ·exact h.elim
   ·exact h.elim
theorem awp_region {P : Program} {G : Gl} {N : FS} {n : Nat} {Q : Exit → ASt → Prop} {s : ASt} {id : Nat} {ops : List Oper} (hfit : fits N ops = true) (hn : n ≤ s.H.length) (h : runOps P G ops ops s fun s=>Q .normal s) : AWp P G N n (.region id ops.toArray false) Q s :=
 fun w S μ a hr hf hg=>wp_region_lit (runOps_wp (K := fun s=>Q .normal s) (fun s h=>h) hn hr.len ops s h hfit w S μ a hr hf hg (Step.refl _ _ _ _ _))
end Go.Proofs.YtoeajbhlkccekaaDoor

namespace Go.Proofs.YtoeajbhlkccekaaDoor
open Go.RowKit
def argsT : Nat → List AV → Tm
 |_,[]=>[]
 |k,d :: r=>(k,d) :: argsT (k + 1) r
theorem get_argsT : ∀ (args : List AV) (k i : Nat),get (argsT k args) i = if k ≤ i then (args[i - k]?).getD .nil else .nil
 |[],k,i=>by simp [argsT,get]
 |d :: r,k,i=>by
  simp only [argsT,get]
  split
  ·rename_i e;subst e;simp
  ·rename_i hne
   rw [get_argsT r (k + 1) i]
   by_cases h : k ≤ i
   ·rw [if_pos (by omega),if_pos h]
    obtain ⟨q,hq⟩ : ∃ q,i - k = q + 1 := ⟨i - k - 1,by omega⟩
    rw [hq,show i - (k + 1) = q by omega]
    simp
   ·rw [if_neg (by omega),if_neg h]
def noT : AV → AV
 |.iface _ _=>.nil
 |d=>d
def resA : List Nat → Tm → AV
 |[t],T=>get T t
 |ts,T=>TU (ts.map fun t=>noT (get T t))
section
variable {P : Program} {G : Gl}
theorem repA_noT {S : SS} {μ : List Value} {d : AV} {v : Value} (h : rep S μ d v) : repA S μ (noT d) v := by
 unfold noT
 split
 ·trivial
 ·rename_i hne
  unfold rep at h
  split at h
  ·exact absurd rfl (hne _ _)
  ·exact h
theorem results_run {fn : Func} {rs : List Nat} (h : fn.results.toList = rs.map ResultVar.tmp) {S : SS} {μ : List Value} {N : FS} {T : Tm} {a : Act} (hf : Fr S μ N T a) (w : World) :
    ∃ v, (results fn a.tmps).run P w = .ok v w ∧ rep S μ (resA rs T) v := by
  have hm := run_mapM (P := P) (w := w) (l := fn.results) (f := fun r : ResultVar => (match r with | .tmp t => (pure (a.tmps.getD t undef) : Sem Value) | .cell b t => (do loadVar t (← asAddr (a.tmps.getD b undef)))))
    (g := fun r : ResultVar => match r with | .tmp t => some (a.tmps.getD t undef) | .cell _ _ => none) (fun x y hxy => by
      cases x with
      | tmp t => simp only [Option.some.injEq] at hxy; subst hxy; rfl
      | cell b t => cases hxy) (r := rs.map fun t => a.tmps.getD t undef) (by
      rw [h]
      clear h
      induction rs with
      | nil => rfl
      | cons t r ih => rw [List.map_cons, List.mapM_cons, ih]; rfl)
  have hr : (results fn a.tmps).run P w = .ok (if h : (rs.map fun t => a.tmps.getD t undef).toArray.size = 1 then (rs.map fun t => a.tmps.getD t undef).toArray[0] else .tuple (rs.map fun t => a.tmps.getD t undef).toArray) w := by
    unfold results
    simp only [Sem.run_bind]
    erw [hm]
    simp only [Result.andThen_ok, Sem.run_pure]
  refine ⟨_, hr, ?_⟩
  match rs with
  | [t] => exact hf.slot t
  | [] => exact ⟨[], rfl, rfl, fun j d u hd => by simp at hd⟩
  | t :: t' :: r =>
    refine ⟨(t :: t' :: r).map fun t => a.tmps.getD t undef, by simp, by simp, fun j d u hd hu => ?_⟩
    rw [List.getElem?_map] at hd hu
    cases hj : (t :: t' :: r)[j]? with
    | none => rw [hj] at hd; cases hd
    | some q =>
      rw [hj] at hd hu
      simp only [Option.map_some, Option.some.injEq] at hd hu
      subst hd hu
      exact repA_noT (hf.slot q)
def retP (rs : List Nat) (X : AV) : Exit → ASt → Prop
 |.normal,s=>ro s.H (resA rs s.T) = X
 |.ret,s=>ro s.H (resA rs s.T) = X
 |_,_=>False
theorem call_pure {f : FuncId} {args : List AV} {X : AV} {H : List AObj} {R : AV → List AObj → Prop} (h : ACp P G f args X) (ha : args.all (ltT 0) = true) (k : R X H) : AC P G f args H R :=
 (AC.pure h ha H).mono fun r H' ⟨e1,e2⟩=>by subst e1 e2;exact k
end
end Go.Proofs.YtoeajbhlkccekaaDoor

namespace Go.Proofs.YtoeajbhlkccekaaDoor
open Go.RowKit
section
variable {P : Program} {G : Gl} {N : FS} {n : Nat} {s s' : ASt} {H H' : List AObj} {T : Tm} {K : ASt → Prop} {K1 : AV → Prop} {K2 : AV → List AObj → Prop} {ops l r : List Oper} {dst : Option Tmp} {op : Op} {ty : TypeId} {pos : String} {af : Array Edge} {gd : Option (Nat × Bool)} {x y z : AV} {t t' : TypeId}
def guardO (d : Option Tmp) (T : Tm) (w : Bool) (A B : Prop) : Prop := match d with
 |some t=>guardA (get T t) w A B
 |none=>False
theorem go_some {t : Tmp} {w : Bool} {A B : Prop} : guardO (some t) T w A B = guardA (get T t) w A B := _root_.id rfl
theorem ro_guard {j : Nat} {w : Bool} : runOps P G ops (⟨dst,op,ty,pos,af,some (j,w)⟩ :: r) s K = guardO (dstAt ops j) s.T w (stepOp P G ⟨dst,op,ty,pos,af,some (j,w)⟩ s fun d H=>runOps P G ops r (s.set H dst d) K) (runOps P G ops r (s.set s.H dst UD) K) := by
 rw [show runOps P G ops (⟨dst,op,ty,pos,af,some (j,w)⟩ :: r) s K = (match dstAt ops j with
  |some t=>guardA (get s.T t) w (stepOp P G ⟨dst,op,ty,pos,af,some (j,w)⟩ s fun d H=>runOps P G ops r (s.set H dst d) K) (runOps P G ops r (s.set s.H dst UD) K)
  |none=>False) from rfl]
 unfold guardO;rfl
theorem dstAt_zero {o : Oper} : dstAt (o :: r) 0 = o.dst := _root_.id rfl
theorem dstAt_succ {o : Oper} {j : Nat} : dstAt (o :: r) (j + 1) = dstAt r j := _root_.id rfl
theorem set_some {d : Nat} : ASt.set ⟨H,T⟩ H' (some d) x = ⟨H',(d,x) :: T⟩ := _root_.id rfl
theorem set_none : ASt.set ⟨H,T⟩ H' none x = ⟨H',T⟩ := _root_.id rfl
theorem get_cons {j i : Nat} : get ((j,x) :: T) i = if j = i then x else get T i := _root_.id rfl
def allocA (z : Option (List AV)) (t : TypeId) (H : List AObj) (K2 : AV → List AObj → Prop) : Prop := match z with
 |some c=>K2 (OP H.length 0) (H ++ [⟨1,t,0,c⟩])
 |none=>False
theorem al_some {c : List AV} : allocA (some c) t H K2 = K2 (OP H.length 0) (H ++ [⟨1,t,0,c⟩]) := _root_.id rfl
theorem so_load {a : Operand} : stepOp P G ⟨dst, .load t a,ty,pos,af,gd⟩ s K2 = aLoad (kindT P t) s.H (ev G s.T a) fun r=>K2 r s.H := _root_.id rfl
theorem ev_tmp {i : Nat} : ev G T (.tmp i) = get T i := _root_.id rfl
theorem ev_const {v : Value} : ev G T (.const v) = cv v := _root_.id rfl
theorem ev_func {f : FuncId} : ev G T (.func f) = V (.func (.func f) #[] #[]) := _root_.id rfl
theorem ev_global {g : Nat} : ev G T (.global g) = glob G g := _root_.id rfl
theorem glob_cons {j g : Nat} : glob ((j,x) :: G) g = if j = g then .ptr x else glob G g := _root_.id rfl
theorem cv_int {k : IntKind} {i : Int} : cv (.int k i) = V (.int k i) := _root_.id rfl
theorem cv_bool {b : Bool} : cv (.bool b) = V (.bool b) := _root_.id rfl
theorem cv_str {b : ByteArray} : cv (.string b) = V (.string b) := _root_.id rfl
theorem cv_slice {A : Option Addr} {i c : Nat} : cv (.slice A i c) = V (.slice A i c) := _root_.id rfl
theorem cv_ptr {A : Option Addr} : cv (.pointer A) = V (.pointer A) := _root_.id rfl
theorem cv_agg {vs : List Value} : cv (.agg ⟨vs⟩) = if vs.all (·.oneCell') = true then .agg (vs.map fun u=>V u) else .nil := by simp [cv]
theorem one_int {k : IntKind} {i : Int} : (Value.int k i).oneCell' = true := _root_.id rfl
theorem one_bool {b : Bool} : (Value.bool b).oneCell' = true := _root_.id rfl
theorem one_str {b : ByteArray} : (Value.string b).oneCell' = true := _root_.id rfl
theorem one_slice {A : Option Addr} {i c : Nat} : (Value.slice A i c).oneCell' = true := _root_.id rfl
theorem one_ptr {A : Option Addr} : (Value.pointer A).oneCell' = true := _root_.id rfl
section
variable {k : IntKind} {a b : Int}
theorem b_add : aBin P t .add (V (.int k a)) (V (.int k b)) K1 = K1 (V (.int k (k.wrap (a + b)))) := by simp [aBin,aInt]
theorem b_sub : aBin P t .sub (V (.int k a)) (V (.int k b)) K1 = K1 (V (.int k (k.wrap (a - b)))) := by simp [aBin,aInt]
theorem b_mul : aBin P t .mul (V (.int k a)) (V (.int k b)) K1 = K1 (V (.int k (k.wrap (a * b)))) := by simp [aBin,aInt]
theorem b_quo : aBin P t .quo (V (.int k a)) (V (.int k b)) K1 = (b ≠ 0 ∧ K1 (V (.int k (k.wrap (a.tdiv b))))) := by simp [aBin,aInt]
theorem b_rem : aBin P t .rem (V (.int k a)) (V (.int k b)) K1 = (b ≠ 0 ∧ K1 (V (.int k (a.tmod b)))) := by simp [aBin,aInt]
theorem b_and : aBin P t .and (V (.int k a)) (V (.int k b)) K1 = K1 (V (.int k (bits .and k a b))) := by simp [aBin,aInt]
theorem b_or : aBin P t .or (V (.int k a)) (V (.int k b)) K1 = K1 (V (.int k (bits .or k a b))) := by simp [aBin,aInt]
theorem b_xor : aBin P t .xor (V (.int k a)) (V (.int k b)) K1 = K1 (V (.int k (bits .xor k a b))) := by simp [aBin,aInt]
theorem b_andNot : aBin P t .andNot (V (.int k a)) (V (.int k b)) K1 = K1 (V (.int k (bits .andNot k a b))) := by simp [aBin,aInt]
theorem b_shl {k' : IntKind} : aBin P t .shl (V (.int k a)) (V (.int k' b)) K1 = (0 ≤ b ∧ K1 (V (.int k (k.wrap (a * 2 ^ (min b.toNat k.bits)))))) := by simp [aBin,aInt]
theorem b_shr {k' : IntKind} : aBin P t .shr (V (.int k a)) (V (.int k' b)) K1 = (0 ≤ b ∧ K1 (V (.int k (a.fdiv (2 ^ (min b.toNat k.bits)))))) := by simp [aBin,aInt]
theorem b_eql : aBin P t .eql (V (.int k a)) (V (.int k b)) K1 = K1 (V (.bool (decide (a = b)))) := by
 have : (a == b) = decide (a = b) := by by_cases h : a = b <;> simp [h]
 simp [aBin,aInt,this]
theorem b_neq : aBin P t .neq (V (.int k a)) (V (.int k b)) K1 = K1 (V (.bool (decide (¬ a = b)))) := by
 have : (a != b) = decide (¬ a = b) := by by_cases h : a = b <;> simp [h]
 simp [aBin,aInt,this]
theorem b_lss : aBin P t .lss (V (.int k a)) (V (.int k b)) K1 = K1 (V (.bool (decide (a < b)))) := by simp [aBin,aInt]
theorem b_leq : aBin P t .leq (V (.int k a)) (V (.int k b)) K1 = K1 (V (.bool (decide (a ≤ b)))) := by simp [aBin,aInt]
theorem b_gtr : aBin P t .gtr (V (.int k a)) (V (.int k b)) K1 = K1 (V (.bool (decide (b < a)))) := by simp [aBin,aInt]
theorem b_geq : aBin P t .geq (V (.int k a)) (V (.int k b)) K1 = K1 (V (.bool (decide (b ≤ a)))) := by simp [aBin,aInt]
end
theorem b_str {o : BinOp} {a b : ByteArray} : aBin P t o (V (.string a)) (V (.string b)) K1 = aStr o a b K1 := _root_.id rfl
theorem b_beq {a b : Bool} : aBin P t .eql (V (.bool a)) (V (.bool b)) K1 = (P.underlying t = some .bool ∧ K1 (V (.bool (a == b)))) := _root_.id rfl
theorem b_bne {a b : Bool} : aBin P t .neq (V (.bool a)) (V (.bool b)) K1 = (P.underlying t = some .bool ∧ K1 (V (.bool (!(a == b))))) := _root_.id rfl
theorem u_not {b : Bool} : aUn .not (V (.bool b)) K1 = K1 (V (.bool (!b))) := _root_.id rfl
theorem u_neg {k : IntKind} {a : Int} : aUn .neg (V (.int k a)) K1 = K1 (V (.int k (k.wrap (0 - a)))) := _root_.id rfl
theorem w_i64 {a : Int} (h1 : -9223372036854775808 ≤ a) (h2 : a ≤ 9223372036854775807) : IntKind.i64.wrap a = a := IntWalk.i64_in a ⟨h1,h2⟩
theorem w_u64 {a : Int} (h1 : 0 ≤ a) (h2 : a ≤ 18446744073709551615) : IntKind.u64.wrap a = a := IntWalk.u64_in a ⟨h1,h2⟩
theorem tdiv_pos {a b : Int} (h : 0 ≤ a) : a.tdiv b = a / b := Int.tdiv_eq_ediv_of_nonneg h
theorem tmod_pos {a b : Int} (h : 0 ≤ a) : a.tmod b = a % b := Int.tmod_eq_emod_of_nonneg h
theorem ex_tu {ds : List AV} {i : Nat} : aExtract (TU ds) i K1 = nth ds i K1 := _root_.id rfl
theorem nth_zero {a : List AV} : nth (x :: a) 0 K1 = K1 x := by simp [nth]
theorem nth_succ {a : List AV} {i : Nat} : nth (x :: a) (i + 1) K1 = nth a i K1 := by simp [nth]
theorem nth_map {α : Type} {f : α → AV} {a : List α} {i : Nat} (h : i < a.length) : nth (a.map f) i K1 = K1 (f a[i]) := by simp [nth,List.getElem?_map,List.getElem?_eq_getElem h]
theorem nthO_zero {o : AObj} {K3 : AObj → Prop} : nthO (o :: H) 0 K3 = K3 o := by simp [nthO]
theorem nthO_succ {o : AObj} {i : Nat} {K3 : AObj → Prop} : nthO (o :: H) (i + 1) K3 = nthO H i K3 := by simp [nthO]
theorem l_ptr {k : Nat} {cs : List AV} : aLoad k H (.ptr (.agg cs)) K1 = (k = cs.length + 2 ∧ K1 (.agg cs)) := _root_.id rfl
theorem l_ptrV {k : Nat} {v : Value} : aLoad k H (.ptr (V v)) K1 = (k = 1 ∧ K1 (V v)) := _root_.id rfl
theorem l_ptrS {k : Nat} {es sp : List AV} : aLoad k H (.ptr (.slice es sp)) K1 = (k = 1 ∧ K1 (.slice es sp)) := _root_.id rfl
theorem l_op {k i o : Nat} : aLoad k H (OP i o) K1 = nthO H i fun ob=>cellsP ob fun l=>ofCells k l o K1 := _root_.id rfl
theorem cP_one {e : TypeId} {z : Nat} {c : List AV} {K3 : List AV → Prop} : cellsP ⟨1,e,z,c⟩ K3 = K3 c := _root_.id rfl
theorem oc_one {a : List AV} {o : Nat} : ofCells 1 a o K1 = nth a o K1 := by simp [ofCells]
theorem oc_agg {a : List AV} {k o : Nat} : ofCells (k + 2) a o K1 = (o + k ≤ a.length ∧ K1 (.agg ((a.drop o).take k))) := by simp [ofCells]
theorem st_op {k i o : Nat} {K3 : List AObj → Prop} : aStore k H (OP i o) x K3 = nthO H i fun ob=>putP ob k o x fun ob'=>K3 (H.set i ob') := _root_.id rfl
theorem pP_one {e : TypeId} {z k o : Nat} {c : List AV} {K3 : AObj → Prop} : putP ⟨1,e,z,c⟩ k o x K3 = (k ≠ 0 ∧ (cellsOf x).length = szOf k ∧ (cellsOf x).all sure = true ∧ o + szOf k ≤ c.length ∧ K3 ⟨1,e,z,setCells c o (cellsOf x)⟩) := _root_.id rfl
theorem f_ptr {off k : Nat} {cs : List AV} : aField (some (off,k)) (.ptr (.agg cs)) K1 = ofCells k cs off fun d=>K1 (.ptr d) := _root_.id rfl
theorem f_op {off k i o : Nat} : aField (some (off,k)) (OP i o) K1 = K1 (OP i (o + off)) := _root_.id rfl
theorem fv_agg {off k : Nat} {cs : List AV} : aFieldV (some (off,k)) (.agg cs) K1 = ofCells k cs off K1 := _root_.id rfl
theorem co_agg {cs : List AV} : cellsOf (.agg cs) = cs := _root_.id rfl
theorem co_V {v : Value} : cellsOf (V v) = [V v] := _root_.id rfl
theorem co_slice {es sp : List AV} : cellsOf (.slice es sp) = [.slice es sp] := _root_.id rfl
theorem co_OW {i m : Nat} : cellsOf (OW i m) = [OW i m] := _root_.id rfl
theorem co_OP {i m : Nat} : cellsOf (OP i m) = [OP i m] := _root_.id rfl
theorem co_ptr : cellsOf (.ptr x) = [.ptr x] := _root_.id rfl
theorem sure_V {v : Value} : sure (V v) = true := _root_.id rfl
theorem sure_slice {es sp : List AV} : sure (.slice es sp) = true := _root_.id rfl
theorem sure_OW {i m : Nat} : sure (OW i m) = true := _root_.id rfl
theorem sure_OP {i m : Nat} : sure (OP i m) = true := _root_.id rfl
theorem sure_ptr : sure (.ptr x) = true := _root_.id rfl
theorem sure_agg {cs : List AV} : sure (.agg cs) = true := _root_.id rfl
theorem sc_nil {a : List AV} {o : Nat} : setCells a o [] = a := _root_.id rfl
theorem sc_cons {a c : List AV} {o : Nat} : setCells a o (x :: c) = setCells (a.set o x) (o + 1) c := _root_.id rfl
theorem ixS {k' : IntKind} {k : Nat} {i : Int} {es : List AV} : aIndexS k H (.slice es []) (V (.int k' i)) K1 = (0 ≤ i ∧ nth es i.toNat fun d=>(cellsOf d).length = szOf k ∧ K1 (.ptr d)) := _root_.id rfl
theorem ixSW {k' : IntKind} {k j m : Nat} {i : Int} : aIndexS k H (OW j m) (V (.int k' i)) K1 = (0 ≤ i ∧ elemsOf H (OW j m) fun es=>nth es i.toNat fun d=>(cellsOf d).length = szOf k ∧ K1 (.ptr d)) := _root_.id rfl
theorem ixSN {k' : IntKind} {k : Nat} {i : Int} : aIndexS k H (V (.slice none 0 0)) (V (.int k' i)) K1 = (0 ≤ i ∧ elemsOf H (V (.slice none 0 0)) fun es=>nth es i.toNat fun d=>(cellsOf d).length = szOf k ∧ K1 (.ptr d)) := _root_.id rfl
theorem el_slice {es : List AV} {K3 : List AV → Prop} : elemsOf H (.slice es []) K3 = K3 es := _root_.id rfl
theorem el_row {i m : Nat} {K3 : List AV → Prop} : elemsOf H (OW i m) K3 = nthO H i fun o=>o.k = 2 ∧ m = o.c.length ∧ K3 o.c := _root_.id rfl
theorem el_nil {K3 : List AV → Prop} : elemsOf H (V (.slice none 0 0)) K3 = K3 [] := _root_.id rfl
theorem len_str {b : ByteArray} : aLen P t H (V (.string b)) K1 = (P.underlying t = some .string ∧ K1 (V (.int .i64 b.size))) := _root_.id rfl
theorem len_slice {es : List AV} : aLen P t H (.slice es []) K1 = ((sliceT P t).isSome = true ∧ K1 (V (.int .i64 es.length))) := _root_.id rfl
theorem len_row {i m : Nat} : aLen P t H (OW i m) K1 = ((sliceT P t).isSome = true ∧ nthO H i fun o=>o.k = 2 ∧ m = o.c.length ∧ K1 (V (.int .i64 o.c.length))) := _root_.id rfl
theorem len_nil : aLen P t H (V (.slice none 0 0)) K1 = ((sliceT P t).isSome = true ∧ K1 (V (.int .i64 0))) := _root_.id rfl
theorem asI_none {d : Int} {K3 : Int → Prop} : asI none d K3 = K3 d := _root_.id rfl
theorem asI_some {d i : Int} {k : IntKind} {K3 : Int → Prop} : asI (some (V (.int k i))) d K3 = K3 i := _root_.id rfl
theorem nil_op {i o : Nat} : aNil (OP i o) K1 = K1 (OP i o) := _root_.id rfl
theorem nil_ptr : aNil (.ptr x) K1 = K1 (.ptr x) := _root_.id rfl
theorem ro_int {k : IntKind} {i : Int} : ro H (V (.int k i)) = V (.int k i) := _root_.id rfl
theorem ro_bool {b : Bool} : ro H (V (.bool b)) = V (.bool b) := _root_.id rfl
theorem ro_str {b : ByteArray} : ro H (V (.string b)) = V (.string b) := _root_.id rfl
theorem ro_nils : ro H (V (.slice none 0 0)) = SL [] := _root_.id rfl
theorem ro_slice {es sp : List AV} : ro H (.slice es sp) = .slice es sp := _root_.id rfl
theorem ro_ptr : ro H (.ptr x) = .ptr x := _root_.id rfl
theorem ro_OP {i o : Nat} : ro H (OP i o) = OP i o := _root_.id rfl
theorem ro_OW {i m : Nat} : ro H (OW i m) = ro1 H (OW i m) := _root_.id rfl
theorem ro_agg {cs : List AV} : ro H (.agg cs) = .agg (cs.map (ro1 H)) := _root_.id rfl
theorem ro_tu {ds : List AV} : ro H (TU ds) = TU (ds.map (roA H)) := _root_.id rfl
theorem roA_agg {cs : List AV} : roA H (.agg cs) = .agg (cs.map (ro1 H)) := _root_.id rfl
theorem roA_V {v : Value} : roA H (V v) = ro1 H (V v) := _root_.id rfl
theorem roA_slice {es sp : List AV} : roA H (.slice es sp) = .slice es sp := _root_.id rfl
theorem roA_OW {i m : Nat} : roA H (OW i m) = ro1 H (OW i m) := _root_.id rfl
theorem roA_OP {i m : Nat} : roA H (OP i m) = OP i m := _root_.id rfl
theorem roA_ptr : roA H (.ptr x) = .ptr x := _root_.id rfl
theorem r1_int {k : IntKind} {i : Int} : ro1 H (V (.int k i)) = V (.int k i) := _root_.id rfl
theorem r1_bool {b : Bool} : ro1 H (V (.bool b)) = V (.bool b) := _root_.id rfl
theorem r1_str {b : ByteArray} : ro1 H (V (.string b)) = V (.string b) := _root_.id rfl
theorem r1_nils : ro1 H (V (.slice none 0 0)) = SL [] := _root_.id rfl
theorem r1_slice {es sp : List AV} : ro1 H (.slice es sp) = .slice es sp := _root_.id rfl
theorem r1_ptr : ro1 H (.ptr x) = .ptr x := _root_.id rfl
theorem r1_OP {i o : Nat} : ro1 H (OP i o) = OP i o := _root_.id rfl
theorem resA_one {i : Nat} : resA [i] T = get T i := _root_.id rfl
theorem resA_two {i j : Nat} : resA [i,j] T = TU [noT (get T i),noT (get T j)] := _root_.id rfl
theorem resA_three {i j k : Nat} : resA [i,j,k] T = TU [noT (get T i),noT (get T j),noT (get T k)] := _root_.id rfl
theorem noT_V {v : Value} : noT (V v) = V v := _root_.id rfl
theorem noT_agg {cs : List AV} : noT (.agg cs) = .agg cs := _root_.id rfl
theorem noT_slice {es sp : List AV} : noT (.slice es sp) = .slice es sp := _root_.id rfl
theorem noT_OW {i m : Nat} : noT (OW i m) = OW i m := _root_.id rfl
theorem noT_OP {i m : Nat} : noT (OP i m) = OP i m := _root_.id rfl
theorem noT_ptr : noT (.ptr x) = .ptr x := _root_.id rfl
theorem noT_nil : noT .nil = .nil := _root_.id rfl
theorem argsT_nil {k : Nat} : argsT k [] = [] := _root_.id rfl
theorem argsT_cons {k : Nat} {a : List AV} : argsT k (x :: a) = (k,x) :: argsT (k + 1) a := _root_.id rfl
theorem allC_nil {m : Nat} : allC m [] = True := by simp [allC]
theorem allC_cons {m : Nat} {a : List AV} : allC m (x :: a) = ((cellsOf x).length = m ∧ allC m a) := by simp [allC]
theorem allC_append {m : Nat} {a b : List AV} : allC m (a ++ b) = (allC m a ∧ allC m b) := by
 simp only [allC,List.mem_append,eq_iff_iff]
 exact ⟨fun h=>⟨fun d hd=>h d (.inl hd),fun d hd=>h d (.inr hd)⟩,fun h d hd=>hd.elim (h.1 d) (h.2 d)⟩
theorem allC_mapEq {α : Type} {m : Nat} {f : α → AV} {a : List α} (h : ∀ x,(cellsOf (f x)).length = m) : allC m (a.map f) = True := by
 simp only [allC,List.mem_map,eq_iff_iff,iff_true]
 rintro d ⟨x,_,rfl⟩;exact h x
section
variable {Q : Exit → ASt → Prop} {id : Nat} {c d e : Code}
theorem wr (hfit : fits N ops = true) (hn : n ≤ s.H.length) (h : runOps P G ops ops s fun s=>AWp P G N n d Q s) : AWp P G N n (.seq (.region id ops.toArray false) d) Q s := awp_seq (awp_region hfit hn h)
theorem wr1 (hfit : fits N ops = true) (hn : n ≤ s.H.length) (h : runOps P G ops ops s fun s=>Q .normal s) : AWp P G N n (.region id ops.toArray false) Q s := awp_region hfit hn h
theorem thenA_n {K : ASt → Prop} : thenA K Q .normal s = K s := _root_.id rfl
theorem thenA_r {K : ASt → Prop} : thenA K Q .ret s = Q .ret s := _root_.id rfl
theorem thenA_x {K : ASt → Prop} {i : Nat} : thenA K Q (.exit i) s = Q (.exit i) s := _root_.id rfl
theorem inB_n : inBlockA id Q .normal s = Q .normal s := _root_.id rfl
theorem inB_r : inBlockA id Q .ret s = Q .ret s := _root_.id rfl
theorem inB_x {i : Nat} : inBlockA id Q (.exit i) s = if i = id then Q .normal s else Q (.exit i) s := _root_.id rfl
theorem loop_r {ι : Type} {I : ι → ASt} {M : ι → Nat} {i : ι} : loopA n I M i Q .ret s = Q .ret s := _root_.id rfl
theorem loop_x {ι : Type} {I : ι → ASt} {M : ι → Nat} {i : ι} {j : Nat} : loopA n I M i Q (.exit j) s = Q (.exit j) s := _root_.id rfl
theorem loop_n {ι : Type} {I : ι → ASt} {M : ι → Nat} {i : ι} (i' : ι) (h1 : Le s (I i')) (h2 : n ≤ (I i').H.length) (h3 : M i' < M i) : loopA n I M i Q .normal s := ⟨i',h1,h2,h3⟩
theorem retP_n {rs : List Nat} : retP rs x .normal s = (ro s.H (resA rs s.T) = x) := _root_.id rfl
theorem retP_r {rs : List Nat} : retP rs x .ret s = (ro s.H (resA rs s.T) = x) := _root_.id rfl
def condA (x : AV) (A B : Prop) : Prop := match x with
 |.held (.inl (.bool t))=>(t = true → A) ∧ (t = false → B)
 |_=>False
theorem wc {o : Operand} (h : condA (ev G s.T o) (AWp P G N n c Q s) (AWp P G N n d Q s)) : AWp P G N n (.cond o c d) Q s := by
 unfold condA at h
 split at h
 ·rename_i t ht;exact awp_cond ht h.1 h.2
 ·exact h.elim
theorem c_true {A B : Prop} : condA (V (.bool true)) A B = A := by simp [condA]
theorem c_false {A B : Prop} : condA (V (.bool false)) A B = B := by simp [condA]
theorem g_tt {A B : Prop} : guardA (V (.bool true)) true A B = A := by simp [guardA]
theorem g_tf {A B : Prop} : guardA (V (.bool true)) false A B = B := by simp [guardA]
theorem g_ft {A B : Prop} : guardA (V (.bool false)) true A B = B := by simp [guardA]
theorem g_ff {A B : Prop} : guardA (V (.bool false)) false A B = A := by simp [guardA]
theorem le_nil {T : Tm} : TLe n T [] = True := _root_.id rfl
theorem le_cons {T T' : Tm} {i : Nat} : TLe n T ((i,x) :: T') = (get T i = x ∧ ltT n x = true ∧ TLe n T T') := _root_.id rfl
theorem hle_nil : HLe H [] = True := by cases H <;> rfl
theorem hle_cons {o o' : AObj} : HLe (o :: H) (o' :: H') = ((o' = o ∨ o'.k = 0) ∧ HLe H H') := _root_.id rfl
theorem le_mk {T T' : Tm} (h1 : HLe H H') (h2 : H'.all (ltO H'.length) = true) (h3 : TLe H'.length T T') : Le ⟨H,T⟩ ⟨H',T'⟩ := ⟨h1,h2,h3⟩
end
end
end Go.Proofs.YtoeajbhlkccekaaDoor

namespace Go.Proofs.YtoeajbhlkccekaaDoor
open Go.RowKit
def Gr (w w' : World) : Prop := Below w.heap.size w w'
theorem Gr.refl (w : World) : Gr w w := Below.refl _ _
theorem Gr.trans {a b c : World} (h : Gr a b) (k : Gr b c) : Gr a c := Below.trans h (k.mono h.size)
theorem Gr.drew (w : World) : Gr w w.drew := (Below.refl _ _).drew
theorem Gr.alloc (w : World) (o : Obj) : Gr w (w.alloc o) := (Below.refl _ _).alloc (Nat.le_refl _) o
section
variable {P : Program} {ops : Array Oper}
def predsOf (ops : Array Oper) (o : Oper) : List (Nat × Nat) :=
 o.after.toList.filterMap fun e=>if Region.binds .any e then ((ops[e.on]?).bind (·.dst)).map (fun d=>(e.on,d)) else none
def freeFor (ops : Array Oper) (j d : Nat) : Bool :=
 (List.range ops.size).all fun k=>k == j || ((ops[k]?).map fun ok=>ok.dst != some d || ok.after.any fun e=>Region.binds .any e && e.on == j).getD true
def untouched (ops : Array Oper) (d : Nat) : Bool := ops.all fun ok=>ok.dst != some d
def slotShape (ops : Array Oper) (size : Nat) : Bool :=
  (List.range ops.size).all fun k => ((ops[k]?).map fun ok =>
    (match ok.dst with | some d => decide (d < size) && (List.range ops.size).all (fun m => m == k || ((ops[m]?).map fun om => om.dst != some d).getD true) | none => false) &&
    ok.after.all fun e => !Region.binds .any e || decide (e.on < k)).getD true
theorem slotShape_spec {size : Nat} (h : slotShape ops size = true) {k : Nat} {ok : Oper} (hk : ops[k]? = some ok) :
  ∃ d,ok.dst = some d ∧ d < size ∧ (∀ m om,ops[m]? = some om → om.dst = some d → m = k) ∧ ∀ e ∈ ok.after,Region.binds .any e = true → e.on < k := by
 have hlt : k < ops.size := (Array.getElem?_eq_some_iff.1 hk).1
 unfold slotShape at h
 rw [List.all_eq_true] at h
 have h1 := h k (List.mem_range.2 hlt)
 rw [hk] at h1
 simp only [Option.map_some,Option.getD_some,Bool.and_eq_true] at h1
 obtain ⟨h2,h3⟩ := h1
 cases hd : ok.dst with
 |none=>rw [hd] at h2;cases h2
 |some d =>
  rw [hd] at h2
  simp only [Bool.and_eq_true,decide_eq_true_eq] at h2
  refine ⟨d,rfl,h2.1,fun m om hm hmd=>?_,fun e he hb=>?_⟩
  ·have hml : m < ops.size := (Array.getElem?_eq_some_iff.1 hm).1
   have h4 := List.all_eq_true.1 h2.2 m (List.mem_range.2 hml)
   rw [hm] at h4
   simp [hmd] at h4
   exact h4
  ·rw [Array.all_eq_true_iff_forall_mem] at h3
   have := h3 e he
   simpa [hb] using this
theorem Oper.wp_mono2 {o : Oper} {a : Act} {w : World} {K K' : Act → World → Prop} {Q Q' : Exit → Act → World → Prop} (h : ∀ a w,K a w → K' a w) (hQ : ∀ e a w,e ≠ .normal → Q e a w → Q' e a w)
  (hh : o.wp P a w K Q) : o.wp P a w K' Q' := by
 unfold Oper.wp at *
 generalize (execOp a.eval o).run P w = r at *
 cases r with
 |ok n w' =>
  cases n <;> simp only [Oper.upon] at hh ⊢ <;>
   first
    |exact h _ _ hh
    |exact Calls.mono hh (fun e w'' he=>by cases e <;> first|exact h _ _ he|exact hQ _ _ _ (by simp) he|exact he.imp fun _ ⟨_,g⟩=>⟨_,hQ _ _ _ (by simp) g⟩)
    |exact Rows.mono hh (fun _ _ he=>h _ _ he)
 |halt x w'=>cases x <;> simp only [Oper.upon] at hh ⊢ <;> first|exact hQ _ _ _ (by simp) hh|exact hh
def Does (P : Program) (ops : Array Oper) (o : Oper) (a : Act) (w : World) (Ψ : Value → World → Prop) : Prop :=
 wpList P ops (fun e a' w'=>e = .normal ∧ ∃ v,a' = a.put o.dst v ∧ Gr w w' ∧ Ψ v w') [o] a w
theorem wpOp_of_does {o : Oper} {j : Nat} (hj : ops[j]? = some o) {a : Act} {w : World} {Ψ : Value → World → Prop} {K : Act → World → Prop} {Q : Exit → Act → World → Prop}
  (h : Does P ops o a w Ψ) (hK : ∀ v w',Gr w w' → Ψ v w' → K (a.put o.dst v) w') : wpOp P ops Q j K a w := by
 unfold wpOp
 rw [hj]
 unfold Does wpList at h
 simp only
 split
 ·rename_i hw
  rw [if_pos hw] at h
  rcases h with h|⟨_,_,_,h,_⟩
  ·refine .inl (Oper.wp_mono2 (fun a' w' hh=>?_) (fun e a' w' hne hh=>absurd hh.1 hne) h)
   obtain ⟨_,v,rfl,hg,hv⟩ := hh
   exact hK v w' hg hv
  ·cases h
 ·rename_i hw
  rw [if_neg hw] at h
  obtain ⟨_,v,hv,hg,hΨ⟩ := h
  rw [hv]
  exact hK v w hg hΨ
structure SlotInv (ops : Array Oper) (Φ : Nat → Value → World → Prop) (a0 : Act) (w0 : World) (listed : Array Bool) (a : Act) (w : World) : Prop where
 len : listed.size = ops.size
 gr : Gr w0 w
 defers : a.defers = a0.defers
 size : a.tmps.size = a0.tmps.size
 done : ∀ k ok d,ops[k]? = some ok → ok.dst = some d → listed.getD k false = true → Φ k (a.tmps.getD d undef) w
 kept : ∀ d,(∀ k ok,ops[k]? = some ok → ok.dst = some d → listed.getD k false = false) → a.tmps.getD d undef = a0.tmps.getD d undef
 closed : ∀ k ok,ops[k]? = some ok → listed.getD k false = true → ∀ e ∈ ok.after,Region.binds .any e = true → listed.getD e.on false = true
theorem getD_put_same (a : Act) (d : Nat) (v : Value) (h : d < a.tmps.size) : (a.put (some d) v).tmps.getD d undef = v := by
 simp [Act.put,Array.getD,h]
theorem getD_put_other (a : Act) (d d' : Nat) (v : Value) (h : d' ≠ d) : (a.put (some d) v).tmps.getD d' undef = a.tmps.getD d' undef := by
 simp only [Act.put,Array.getD_eq_getD_getElem?,Array.getElem?_setIfInBounds]
 rw [if_neg (fun e=>h e.symm)]
theorem getD_false_of_true {listed : Array Bool} {i : Nat} (hi : i < listed.size) (h : listed.getD i true = false) : listed.getD i false = false := by
 simp only [Array.getD_eq_getD_getElem?,Array.getElem?_eq_getElem hi,Option.getD_some] at h ⊢;exact h
theorem getD_set_self {listed : Array Bool} {i : Nat} (hi : i < listed.size) : (listed.setIfInBounds i true).getD i false = true := by
 simp [Array.getD_eq_getD_getElem?,hi]
theorem filter_lt {p q : Nat → Bool} {j : Nat} : ∀ {l : List Nat},j ∈ l → p j = true → q j = false → (∀ x,q x = true → p x = true) → (l.filter q).length < (l.filter p).length
 |[],h,_,_,_=>by cases h
 |x :: r,hj,hp,hq,hle=>by
  have hmono : (r.filter q).length ≤ (r.filter p).length := by
   clear hj
   induction r with
   |nil=>simp
   |cons y r ih =>
    simp only [List.filter_cons]
    cases hqy : q y <;> cases hpy : p y <;> simp
    ·exact ih
    ·omega
    ·rw [hle y hqy] at hpy;cases hpy
    ·exact ih
  simp only [List.filter_cons]
  rcases List.mem_cons.1 hj with rfl|hj
  ·rw [hp,hq];simp;omega
  ·have ih := filter_lt hj hp hq hle
   cases hqx : q x <;> cases hpx : p x <;> simp
   ·exact ih
   ·omega
   ·rw [hle x hqx] at hpx;cases hpx
   ·exact ih
def OpSees (ops : Array Oper) (Φ : Nat → Value → World → Prop) (a0 : Act) (w0 : World) (j : Nat) (o : Oper) (a : Act) (w : World) : Prop :=
 Gr w0 w ∧ a.defers = a0.defers ∧ a.tmps.size = a0.tmps.size ∧ (∀ p ∈ predsOf ops o,Φ p.1 (a.tmps.getD p.2 undef) w) ∧ (∀ d,freeFor ops j d = true → a.tmps.getD d undef = a0.tmps.getD d undef)
def EachOp (F : Nat → Oper → Prop) : Nat → List Oper → Prop
 |_,[]=>True
 |k,o :: r=>F k o ∧ EachOp F (k + 1) r
theorem eachOp_get {F : Nat → Oper → Prop} : ∀ (l : List Oper) (k : Nat),EachOp F k l → ∀ j o,l[j]? = some o → F (k + j) o
 |[],_,_,j,o,h=>by simp at h
 |x :: r,k,h,0,o,ho=>by simp at ho;subst ho;exact h.1
 |x :: r,k,h,j + 1,o,ho=>by
  have := eachOp_get r (k + 1) h.2 j o (by simpa using ho)
  rwa [show k + 1 + j = k + (j + 1) from by omega] at this
variable {Φ : Nat → Value → World → Prop} {a0 a : Act} {w0 w : World} {j : Nat} {o : Oper} {Ψ : Value → World → Prop}
theorem OpSees.pred (h : OpSees ops Φ a0 w0 j o a w) (k d : Nat) (hk : (predsOf ops o).contains (k,d) = true) : Φ k (a.eval (.tmp d)) w :=
 h.2.2.2.1 (k,d) (by simpa using hk)
theorem OpSees.free (h : OpSees ops Φ a0 w0 j o a w) (d : Nat) (hd : freeFor ops j d = true) : a.eval (.tmp d) = a0.tmps.getD d undef := h.2.2.2.2 d hd
theorem OpSees.gr (h : OpSees ops Φ a0 w0 j o a w) : Gr w0 w := h.1
theorem yielded_of (k d : Nat) (b : Bool) (hk : (ops[k]?).bind (·.dst) = some d) (he : a.eval (.tmp d) = .bool b) : yielded ops a.tmps k = some b := by
 unfold yielded
 rw [hk]
 have he' : a.tmps.getD d undef = .bool b := he
 simp only [Option.bind_some]
 rw [Array.getD_eq_getD_getElem?] at he'
 cases h : a.tmps[d]? with
 |none=>rw [h] at he';simp [undef] at he'
 |some x=>rw [h] at he';simp only [Option.getD_some] at he';subst he';rfl
theorem wanted_none (h : o.guard = none) : Region.wanted o (yielded ops a.tmps) = true := by simp [Region.wanted,h]
theorem wanted_some (k d : Nat) (b : Bool) (h : o.guard = some (k,b)) (hk : (ops[k]?).bind (·.dst) = some d) (he : a.eval (.tmp d) = .bool b) : Region.wanted o (yielded ops a.tmps) = true := by
 simp [Region.wanted,h,yielded_of k d b hk he]
theorem unwanted_some (k d : Nat) (b b' : Bool) (h : o.guard = some (k,b)) (hk : (ops[k]?).bind (·.dst) = some d) (he : a.eval (.tmp d) = .bool b') (hne : b' ≠ b) : Region.wanted o (yielded ops a.tmps) = false := by
 simp [Region.wanted,h,yielded_of k d b' hk he,hne]
theorem does_val {v : Value} {w' : World} (hg : Region.wanted o (yielded ops a.tmps) = true) (hrun : (execOp a.eval o).run P w = .ok (.value v) w') (hgr : Gr w w') (hΨ : Ψ v w') : Does P ops o a w Ψ := by
 unfold Does wpList
 rw [if_pos hg]
 refine .inl ?_
 unfold Oper.wp
 rw [hrun]
 exact ⟨rfl,v,rfl,hgr,hΨ⟩
theorem does_skip (hg : Region.wanted o (yielded ops a.tmps) = false) (hΨ : Ψ undef w) : Does P ops o a w Ψ := by
 unfold Does wpList
 rw [if_neg (by rw [hg];simp)]
 exact ⟨rfl,undef,rfl,Gr.refl _,hΨ⟩
theorem does_call {f : FuncId} {args : Array Value} (hg : Region.wanted o (yielded ops a.tmps) = true) (hrun : (execOp a.eval o).run P w = .ok (.enter f args) w)
  (hc : Calls P f args w fun e w'=>∃ v,e = .returned v ∧ Gr w w' ∧ Ψ v w') : Does P ops o a w Ψ := by
 unfold Does wpList
 rw [if_pos hg]
 refine .inl ?_
 unfold Oper.wp
 rw [hrun]
 refine hc.mono fun e w' ⟨v,he,hgr,hΨ⟩=>?_
 subst he
 exact ⟨rfl,v,rfl,hgr,hΨ⟩
end
section
variable {P : Program}
end
structure Row where
 preds : List (Nat × Nat)
 frees : List Nat
 guard : Option (Nat × Nat × Bool)
def rowOK (ops : Array Oper) (j : Nat) (o : Oper) (r : Row) : Bool :=
  r.preds.all (fun p => (predsOf ops o).contains p) && r.frees.all (fun d => freeFor ops j d) &&
  (match o.guard, r.guard with
   | none, none => true
   | some (k, b), some (k', d, b') => k == k' && b == b' && ((ops[k]?).bind (·.dst) == some d) && (predsOf ops o).contains (k, d)
   | _, _ => false)
def rowsOK (ops : Array Oper) : Nat → List Oper → List Row → Bool
 |_,[],[]=>true
 |k,o :: l,r :: rs=>rowOK ops k o r && rowsOK ops (k + 1) l rs
 |_,_,_=>false
def FactsP (Φ : Nat → Value → World → Prop) (ρ : Operand → Value) (w : World) : List (Nat × Nat) → Prop
 |[]=>True
 |p :: r=>Φ p.1 (ρ (.tmp p.2)) w ∧ FactsP Φ ρ w r
def FactsF (t0 : Array Value) (ρ : Operand → Value) : List Nat → Prop
 |[]=>True
 |d :: r=>ρ (.tmp d) = t0.getD d undef ∧ FactsF t0 ρ r
def RunsTo (P : Program) (o : Oper) (ρ : Operand → Value) (w : World) (Ψ : Value → World → Prop) : Prop :=
 (∃ v w',(execOp ρ o).run P w = .ok (.value v) w' ∧ Gr w w' ∧ Ψ v w') ∨
 (∃ f args,(execOp ρ o).run P w = .ok (.enter f args) w ∧ Calls P f args w fun e w'=>∃ v,e = .returned v ∧ Gr w w' ∧ Ψ v w')
def GuardGoal (P : Program) (Φ : Nat → Value → World → Prop) (j : Nat) (o : Oper) (ρ : Operand → Value) (w : World) : Option (Nat × Nat × Bool) → Prop
 |none=>RunsTo P o ρ w (Φ j)
 |some (k,d,b)=>Φ k (ρ (.tmp d)) w → ∃ b',ρ (.tmp d) = .bool b' ∧ (b' = b → RunsTo P o ρ w (Φ j)) ∧ (b' ≠ b → Φ j undef w)
def OpGoal (P : Program) (Φ : Nat → Value → World → Prop) (t0 : Array Value) (w0 : World) (j : Nat) (o : Oper) (r : Row) : Prop :=
 ∀ (ρ : Operand → Value) (w : World),Gr w0 w → (∀ v,ρ (.const v) = v) → (∀ f,ρ (.func f) = .func (.func f) #[] #[]) → (∀ g,ρ (.global g) = .pointer (some ⟨g,0,none⟩)) → FactsP Φ ρ w r.preds → FactsF t0 ρ r.frees → GuardGoal P Φ j o ρ w r.guard
def EachRow (F : Nat → Oper → Row → Prop) : Nat → List Oper → List Row → Prop
 |k,o :: l,r :: rs=>F k o r ∧ EachRow F (k + 1) l rs
 |_,_,_=>True
section
variable {P : Program} {Φ : Nat → Value → World → Prop}
theorem factsP_of {ops : Array Oper} {a0 a : Act} {w0 w : World} {j : Nat} {o : Oper} (hs : OpSees ops Φ a0 w0 j o a w) : ∀ l : List (Nat × Nat),l.all (fun p=>(predsOf ops o).contains p) = true → FactsP Φ a.eval w l
 |[],_=>trivial
 |p :: r,h=>by
  simp only [List.all_cons,Bool.and_eq_true] at h
  exact ⟨hs.pred p.1 p.2 h.1,factsP_of hs r h.2⟩
theorem factsF_of {ops : Array Oper} {a0 a : Act} {w0 w : World} {j : Nat} {o : Oper} (hs : OpSees ops Φ a0 w0 j o a w) : ∀ l : List Nat,l.all (fun d=>freeFor ops j d) = true → FactsF a0.tmps a.eval l
 |[],_=>trivial
 |d :: r,h=>by
  simp only [List.all_cons,Bool.and_eq_true] at h
  exact ⟨hs.free d h.1,factsF_of hs r h.2⟩
theorem does_of_runs {ops : Array Oper} {o : Oper} {a : Act} {w : World} {Ψ : Value → World → Prop} (hg : Region.wanted o (yielded ops a.tmps) = true) (h : RunsTo P o a.eval w Ψ) : Does P ops o a w Ψ := by
 rcases h with ⟨v,w',h1,h2,h3⟩|⟨f,args,h1,h2⟩
 ·exact does_val hg h1 h2 h3
 ·exact does_call hg h1 h2
theorem does_of_goal {ops : Array Oper} {a0 a : Act} {w0 w : World} {j : Nat} {o : Oper} {r : Row} (hr : rowOK ops j o r = true) (hs : OpSees ops Φ a0 w0 j o a w) (h : OpGoal P Φ a0.tmps w0 j o r) : Does P ops o a w (Φ j) := by
 unfold rowOK at hr
 simp only [Bool.and_eq_true] at hr
 obtain ⟨⟨h1,h2⟩,h3⟩ := hr
 have hg := h a.eval w hs.gr (fun _=>rfl) (fun _=>rfl) (fun _=>rfl) (factsP_of hs _ h1) (factsF_of hs _ h2)
 cases ho : o.guard with
 |none =>
  rw [ho] at h3
  cases hrg : r.guard with
  |none=>rw [hrg] at hg;exact does_of_runs (wanted_none ho) hg
  |some x=>rw [hrg] at h3;cases h3
 |some x =>
  obtain ⟨k,b⟩ := x
  rw [ho] at h3
  cases hrg : r.guard with
  |none=>rw [hrg] at h3;cases h3
  |some y =>
   obtain ⟨k',d,b'⟩ := y
   rw [hrg] at h3 hg
   simp only [Bool.and_eq_true,beq_iff_eq] at h3
   obtain ⟨⟨⟨rfl,rfl⟩,hk⟩,hp⟩ := h3
   obtain ⟨c,hc,hy,hn⟩ := hg (hs.pred k d hp)
   by_cases hcb : c = b
   ·exact does_of_runs (wanted_some k d b ho hk (by rw [hc,hcb])) (hy hcb)
   ·exact does_skip (unwanted_some k d b c ho hk hc hcb) (hn hcb)
theorem eachOp_of_rows {ops : Array Oper} {a0 : Act} {w0 : World} : ∀ (k : Nat) (l : List Oper) (rs : List Row),rowsOK ops k l rs = true → EachRow (OpGoal P Φ a0.tmps w0) k l rs →
  EachOp (fun j o=>∀ a w,OpSees ops Φ a0 w0 j o a w → Does P ops o a w (Φ j)) k l
 |_,[],[],_,_=>trivial
 |k,o :: l,r :: rs,h,hr=>by
  simp only [rowsOK,Bool.and_eq_true] at h
  exact ⟨fun a w hs=>does_of_goal h.1 hs hr.1,eachOp_of_rows (k + 1) l rs h.2 hr.2⟩
 |_,[],_ :: _,h,_=>by cases h
 |_,_ :: _,[],h,_=>by cases h
theorem runs_val {o : Oper} {ρ : Operand → Value} {w w' : World} {v : Value} {Ψ : Value → World → Prop} (h : (execOp ρ o).run P w = .ok (.value v) w') (hg : Gr w w') (hΨ : Ψ v w') : RunsTo P o ρ w Ψ := .inl ⟨v,w',h,hg,hΨ⟩
theorem runs_call {o : Oper} {ρ : Operand → Value} {w : World} {f : FuncId} {args : Array Value} {Ψ : Value → World → Prop} (h : (execOp ρ o).run P w = .ok (.enter f args) w)
 (hc : Calls P f args w fun e w'=>∃ v,e = .returned v ∧ Gr w w' ∧ Ψ v w') : RunsTo P o ρ w Ψ := .inr ⟨f,args,h,hc⟩
end
def callOK (P : Program) (f : FuncId) : Bool := match P.funcs[f]? with
 | some fn => !(fn.name == "runtime.NumGoroutine") && fn.body.isSome
 |none=>false
theorem run_call_func {P : Program} {o : Oper} {ρ : Operand → Value} {w : World} {f : FuncId} {args : Array Operand} {ts : Array TypeId} (vs : Array Value) (hf : callOK P f = true)
  (ho : o.op = .call { callee := .value (.func f),args := args,argTypes := ts }) (hρ : ρ (.func f) = .func (.func f) #[] #[]) (hv : args.map ρ = vs) : (execOp ρ o).run P w = .ok (.enter f vs) w := by
 unfold callOK at hf
 cases h : P.funcs[f]? with
 |none=>rw [h] at hf;cases hf
 |some fn =>
  rw [h] at hf
  simp only [Bool.and_eq_true,Bool.not_eq_true',Option.isSome_iff_ne_none] at hf
  obtain ⟨h1,h2⟩ := hf
  have h3 : fn.body.isNone = false := by cases hb : fn.body with|none=>exact absurd hb h2|some _=>rfl
  unfold execOp
  rw [ho]
  simp only [resolve,hρ,hv,Deferred.ofValue,Sem.run_bind,Sem.run_pure,Result.andThen_ok,invoke,callFunc,run_program,h,h1,h3]
  simp [Sem.run_pure]
end Go.Proofs.YtoeajbhlkccekaaDoor

namespace Go.Proofs.YtoeajbhlkccekaaDoor
open Go.RowKit
section
variable {P : Program} {G : Gl} {N : FS} {n : Nat} {s s' : ASt} {H H' : List AObj} {T : Tm}
def callD (P : Program) (G : Gl) (f : FuncId) (args : List AV) (K : AV → Prop) : Prop := ∃ X,ACp P G f args X ∧ args.all (ltT 0) = true ∧ K X
def stepD (P : Program) (G : Gl) (o : Oper) (s : ASt) (K : AV → Prop) : Prop :=
 match o.op with
 |.call { callee := .value (.func f),args := args,argTypes := _ }=>callD P G f ((args.toList.map (ev G s.T)).map (ro s.H)) K
 |_=>loud o.op = false ∧ stepOp P G o s fun d H'=>H' = s.H ∧ K d
theorem nth_det {l : List AV} {i : Nat} {K : AV → Prop} (h : nth l i K) : ∃ d,nth l i (· = d) ∧ K d := by obtain ⟨d,h1,h2⟩ := h;exact ⟨d,⟨d,h1,rfl⟩,h2⟩
theorem ofCells_det {k : Nat} {l : List AV} {i : Nat} {K : AV → Prop} (h : ofCells k l i K) : ∃ d,ofCells k l i (· = d) ∧ K d := by
 unfold ofCells at h ⊢
 by_cases h1 : k = 1
 ·simp only [if_pos h1] at h ⊢;exact nth_det h
 ·simp only [if_neg h1] at h ⊢;exact ⟨_,⟨h.1,h.2.1,rfl⟩,h.2.2⟩
theorem ofCells_mono {k : Nat} {l : List AV} {i : Nat} {K K' : AV → Prop} (h : ofCells k l i K) (q : ∀ d,K d → K' d) : ofCells k l i K' := by
 unfold ofCells at h ⊢
 by_cases h1 : k = 1
 ·simp only [if_pos h1] at h ⊢;obtain ⟨d,h2,h3⟩ := h;exact ⟨d,h2,q d h3⟩
 ·simp only [if_neg h1] at h ⊢;exact ⟨h.1,h.2.1,q _ h.2.2⟩
theorem elemsOf_det {x : AV} {K : List AV → Prop} (h : elemsOf H x K) : ∃ es,elemsOf H x (· = es) ∧ K es := by
 unfold elemsOf at h ⊢
 split at h
 ·exact ⟨_,rfl,h⟩
 ·obtain ⟨o,h1,h2,h3,h4⟩ := h;exact ⟨_,⟨o,h1,h2,h3,rfl⟩,h4⟩
 ·exact ⟨_,rfl,h⟩
 ·exact ⟨_,rfl,h⟩
 ·exact h.elim
theorem elemsOf_mono {x : AV} {K K' : List AV → Prop} (h : elemsOf H x K) (q : ∀ d,K d → K' d) : elemsOf H x K' := by
 unfold elemsOf at h ⊢
 split at h
 ·exact q _ h
 ·obtain ⟨o,h1,h2,h3,h4⟩ := h;exact ⟨o,h1,h2,h3,q _ h4⟩
 ·exact q _ h
 ·exact q _ h
 ·exact h.elim
theorem asI_det {x : Option AV} {d : Int} {K : Int → Prop} (h : asI x d K) : ∃ i,asI x d (· = i) ∧ K i := by
 unfold asI at h ⊢
 split at h
 ·exact ⟨_,rfl,h⟩
 ·exact ⟨_,rfl,h⟩
 ·exact h.elim
theorem asI_mono {x : Option AV} {d : Int} {K K' : Int → Prop} (h : asI x d K) (q : ∀ d,K d → K' d) : asI x d K' := by
 unfold asI at h ⊢
 split at h
 ·exact q _ h
 ·exact q _ h
 ·exact h.elim
theorem aInt_det {op : BinOp} {k k' : IntKind} {a b : Int} {K : AV → Prop} (h : aInt op k a k' b K) : ∃ d,aInt op k a k' b (· = d) ∧ K d := by
 cases op <;> simp only [aInt] at h ⊢ <;> first|exact ⟨_,⟨h.1,h.2.1,rfl⟩,h.2.2⟩|exact ⟨_,⟨h.1,rfl⟩,h.2⟩
theorem aStr_det {op : BinOp} {a b : ByteArray} {K : AV → Prop} (h : aStr op a b K) : ∃ d,aStr op a b (· = d) ∧ K d := by
 cases op <;> simp only [aStr] at h ⊢ <;> first|exact h.elim|exact ⟨_,⟨h.1,rfl⟩,h.2⟩|exact ⟨_,rfl,h⟩
theorem aBin_det {t : TypeId} {op : BinOp} {x y : AV} {K : AV → Prop} (h : aBin P t op x y K) : ∃ d,aBin P t op x y (· = d) ∧ K d := by
 unfold aBin at h ⊢
 split at h
 ·obtain ⟨us,vs,b,h1,h2,h3,h4⟩ := h
  exact ⟨_,⟨us,vs,b,h1,h2,h3,rfl⟩,h4⟩
 ·exact aInt_det h
 ·exact aStr_det h
 ·obtain ⟨hu,h⟩ := h
  cases op <;> simp only at h ⊢ <;> first|exact h.elim|exact ⟨_,⟨hu,rfl⟩,h⟩
 ·obtain ⟨hu,h⟩ := h
  cases op <;> simp only at h ⊢ <;> first|exact h.elim|exact ⟨_,⟨hu,rfl⟩,h⟩
 ·exact h.elim
theorem aUn_det {op : UnOp} {x : AV} {K : AV → Prop} (h : aUn op x K) : ∃ d,aUn op x (· = d) ∧ K d := by
 unfold aUn at h ⊢
 split at h <;> first|exact h.elim|exact ⟨_,rfl,h⟩
theorem aPick_det {x y z : AV} {K : AV → Prop} (h : aPick x y z K) : ∃ d,aPick x y z (· = d) ∧ K d := by
 unfold aPick at h ⊢
 split at h <;> first|exact h.elim|exact ⟨_,rfl,h⟩
theorem aExtract_det {x : AV} {i : Nat} {K : AV → Prop} (h : aExtract x i K) : ∃ d,aExtract x i (· = d) ∧ K d := by
 unfold aExtract at h ⊢
 split at h
 ·exact nth_det h
 ·exact h.elim
theorem cellsP_det {ob : AObj} {K : List AV → Prop} (h : cellsP ob K) : ∃ l,(∀ K' : List AV → Prop,K' l → cellsP ob K') ∧ K l := by
 unfold cellsP at h
 split at h
 ·rename_i e;exact ⟨_,fun K' q=>(by unfold cellsP;rw [e];exact q),h⟩
 ·rename_i e;exact ⟨_,fun K' q=>(by unfold cellsP;rw [e];exact ⟨h.1,q⟩),h.2⟩
 ·exact h.elim
theorem aLoad_det {k : Nat} {x : AV} {K : AV → Prop} (h : aLoad k H x K) : ∃ d,aLoad k H x (· = d) ∧ K d := by
 unfold aLoad at h ⊢
 split at h
 ·exact ⟨_,⟨h.1,rfl⟩,h.2⟩
 ·exact ⟨_,⟨h.1,rfl⟩,h.2⟩
 ·obtain ⟨ob,h1,h2⟩ := h
  obtain ⟨l,h3,h4⟩ := cellsP_det h2
  obtain ⟨d,h5,h6⟩ := ofCells_det h4
  exact ⟨d,⟨ob,h1,h3 _ h5⟩,h6⟩
 ·exact h.elim
theorem aField_det {f : Option (Nat × Nat)} {x : AV} {K : AV → Prop} (h : aField f x K) : ∃ d,aField f x (· = d) ∧ K d := by
 unfold aField at h ⊢
 split at h
 ·split at h
  ·obtain ⟨d,h4,h5⟩ := ofCells_det h
   exact ⟨_,ofCells_mono h4 fun d e=>by rw [e],h5⟩
  ·exact ⟨_,rfl,h⟩
  ·exact h.elim
 ·exact h.elim
theorem aFieldV_det {f : Option (Nat × Nat)} {x : AV} {K : AV → Prop} (h : aFieldV f x K) : ∃ d,aFieldV f x (· = d) ∧ K d := by
 unfold aFieldV at h ⊢
 split at h
 ·split at h
  ·exact ofCells_det h
  ·exact h.elim
 ·exact h.elim
theorem aIndexS_det {ek : Nat} {x y : AV} {K : AV → Prop} (h : aIndexS ek H x y K) : ∃ d,aIndexS ek H x y (· = d) ∧ K d := by
 unfold aIndexS at h ⊢
 split at h
 ·obtain ⟨h0,h1⟩ := h
  split at h1
  ·obtain ⟨a1,ob,a2,a3,a4,a5,a6⟩ := h1
   exact ⟨_,⟨h0,a1,ob,a2,a3,a4,a5,rfl⟩,a6⟩
  ·rename_i hne
   obtain ⟨es,h2,d,h3,h4,h5⟩ := elemsOf_det h1
   exact ⟨_,⟨h0,elemsOf_mono h2 fun es' e=>by subst e;exact ⟨d,h3,h4,rfl⟩⟩,h5⟩
 ·exact h.elim
theorem aIndexA_det {t : TypeId} {x y : AV} {K : AV → Prop} (h : aIndexA P t H x y K) : ∃ d,aIndexA P t H x y (· = d) ∧ K d := by
 unfold aIndexA at h ⊢
 split at h
 ·exact aIndexS_det h
 ·split at h
  ·split at h
   ·obtain ⟨h0,h1,h2⟩ := h
    split at h2
    ·obtain ⟨d,h4,h5⟩ := ofCells_det h2
     exact ⟨_,⟨h0,h1,ofCells_mono h4 fun d e=>by rw [e]⟩,h5⟩
    ·exact ⟨_,⟨h0,h1,rfl⟩,h2⟩
    ·exact h2.elim
   ·exact h.elim
  ·exact h.elim
theorem aIndexV_det {t : TypeId} {x y : AV} {K : AV → Prop} (h : aIndexV P t x y K) : ∃ d,aIndexV P t x y (· = d) ∧ K d := by
 unfold aIndexV at h ⊢
 split at h
 ·split at h
  ·exact ⟨_,⟨h.1,h.2.1,h.2.2.1,rfl⟩,h.2.2.2⟩
  ·split at h
   ·obtain ⟨h0,h1,h2⟩ := h
    obtain ⟨d,h4,h5⟩ := ofCells_det h2
    exact ⟨_,⟨h0,h1,h4⟩,h5⟩
   ·exact h.elim
  ·exact h.elim
 ·exact h.elim
theorem aSlice_det {t : TypeId} {x : AV} {lo hi : Option AV} {K : AV → Prop} (h : aSlice P t H x lo hi K) : ∃ d,aSlice P t H x lo hi (· = d) ∧ K d := by
 unfold aSlice at h ⊢
 split at h
 ·obtain ⟨hu,h⟩ := h
  obtain ⟨l,h1,h⟩ := asI_det h
  obtain ⟨k,h2,c0,c1,c2,h⟩ := asI_det h
  exact ⟨_,⟨hu,asI_mono h1 fun l' e=>by subst e;exact asI_mono h2 fun k' e=>by subst e;exact ⟨c0,c1,c2,rfl⟩⟩,h⟩
 ·split at h
  ·obtain ⟨es,h0,hall,h⟩ := elemsOf_det h
   obtain ⟨l,h1,h⟩ := asI_det h
   obtain ⟨k,h2,c0,c1,c2,h⟩ := asI_det h
   exact ⟨_,elemsOf_mono h0 fun es' e=>by subst e;exact ⟨hall,asI_mono h1 fun l' e=>by subst e;exact asI_mono h2 fun k' e=>by subst e;exact ⟨c0,c1,c2,rfl⟩⟩,h⟩
  ·exact h.elim
theorem aLen_det {t : TypeId} {x : AV} {K : AV → Prop} (h : aLen P t H x K) : ∃ d,aLen P t H x (· = d) ∧ K d := by
 unfold aLen at h ⊢
 split at h
 ·exact ⟨_,⟨h.1,rfl⟩,h.2⟩
 ·exact ⟨_,⟨h.1,rfl⟩,h.2⟩
 ·obtain ⟨es,h1,h2⟩ := elemsOf_det h.2
  exact ⟨_,⟨h.1,elemsOf_mono h1 fun es' e=>by subst e;rfl⟩,h2⟩
theorem aNil_det {x : AV} {K : AV → Prop} (h : aNil x K) : ∃ d,aNil x (· = d) ∧ K d := by
 unfold aNil at h ⊢
 split at h <;> first|exact h.elim|exact ⟨_,rfl,h⟩
theorem aConv_det {t t' : TypeId} {x : AV} {K : AV → Prop} (h : aConv P t t' x K) : ∃ d,aConv P t t' x (· = d) ∧ K d := by
 unfold aConv at h ⊢
 split at h
 ·obtain ⟨h1,h⟩ := h
  split at h
  ·exact ⟨_,⟨h1,rfl⟩,h⟩
  ·exact h.elim
 ·rcases h with h|h
  ·exact ⟨_, .inl ⟨h.1,h.2.1,rfl⟩,h.2.2⟩
  ·exact ⟨_, .inr ⟨h.1,h.2.1,h.2.2.1,rfl⟩,h.2.2.2⟩
 ·obtain ⟨h1,h2,h⟩ := h
  split at h
  ·exact ⟨_,⟨h1,h2,rfl⟩,h⟩
  ·exact h.elim
 ·exact h.elim
theorem aBuild_det {t : TypeId} {ps : List (Nat × AV)} {K : AV → Prop} (h : aBuild P t ps K) : ∃ d,aBuild P t ps (· = d) ∧ K d := by
 unfold aBuild at h ⊢
 split at h
 ·split at h
  ·exact ⟨_,rfl,h⟩
  ·exact h.elim
 ·exact h.elim
theorem aBuildS_det {t : TypeId} {m : Nat} {ps : List (Nat × AV)} {K : AV → Prop} (h : aBuildS P t m ps K) : ∃ d,aBuildS P t m ps (· = d) ∧ K d := by
 unfold aBuildS at h ⊢
 split at h
 ·exact ⟨_,⟨h.1,h.2.1,h.2.2.1,h.2.2.2.1,rfl⟩,h.2.2.2.2⟩
 ·exact h.elim
theorem stepOp_det {o : Oper} (hq : loud o.op = false) {K : AV → Prop} (h : stepOp P G o s fun d H'=>H' = s.H ∧ K d) : ∃ d,stepOp P G o s (fun x H'=>H' = s.H ∧ x = d) ∧ K d := by
 unfold stepOp at h ⊢
 split at h
 ·exact ⟨_,⟨rfl,rfl⟩,h.2⟩
 ·exact ⟨_,⟨rfl,rfl⟩,h.2⟩
 ·obtain ⟨d,h1,_,h2⟩ := aPick_det h;exact ⟨d,by simpa using h1,h2⟩
 ·obtain ⟨d,h1,_,h2⟩ := aBin_det h;exact ⟨d,by simpa using h1,h2⟩
 ·obtain ⟨d,h1,_,h2⟩ := aUn_det h;exact ⟨d,by simpa using h1,h2⟩
 ·rename_i ho;rw [ho] at hq;cases hq
 ·rename_i ho;rw [ho] at hq;cases hq
 ·obtain ⟨d,h1,_,h2⟩ := aBuild_det h;exact ⟨d,by simpa using h1,h2⟩
 ·obtain ⟨d,h1,_,h2⟩ := aBuildS_det h;exact ⟨d,by simpa using h1,h2⟩
 ·obtain ⟨d,h1,_,h2⟩ := aLoad_det h;exact ⟨d,by simpa using h1,h2⟩
 ·rename_i ho;rw [ho] at hq;cases hq
 ·obtain ⟨d,h1,_,h2⟩ := aNil_det h;exact ⟨d,by simpa using h1,h2⟩
 ·obtain ⟨d,h1,_,h2⟩ := aConv_det h;exact ⟨d,by simpa using h1,h2⟩
 ·obtain ⟨d,h1,_,h2⟩ := aExtract_det h;exact ⟨d,by simpa using h1,h2⟩
 ·obtain ⟨d,h1,_,h2⟩ := aField_det h;exact ⟨d,by simpa using h1,h2⟩
 ·obtain ⟨d,h1,_,h2⟩ := aFieldV_det h;exact ⟨d,by simpa using h1,h2⟩
 ·obtain ⟨d,h1,_,h2⟩ := aIndexA_det h;exact ⟨d,by simpa using h1,h2⟩
 ·obtain ⟨d,h1,_,h2⟩ := aIndexV_det h;exact ⟨d,by simpa using h1,h2⟩
 ·obtain ⟨d,h1,_,h2⟩ := aSlice_det h;exact ⟨d,by simpa using h1,h2⟩
 ·rename_i ho;rw [ho] at hq;cases hq
 ·rename_i ho;rw [ho] at hq;cases hq
 ·rename_i ho;rw [ho] at hq;cases hq
 ·obtain ⟨d,h1,_,h2⟩ := aLen_det h;exact ⟨d,by simpa using h1,h2⟩
 ·rename_i ho;rw [ho] at hq;cases hq
 ·rename_i ho;rw [ho] at hq;cases hq
 ·rename_i ho;rw [ho] at hq;cases hq
 ·exact h.elim
theorem stepD_det {o : Oper} {K : AV → Prop} (h : stepD P G o s K) : ∃ d,stepD P G o s (· = d) ∧ K d := by
 unfold stepD at h ⊢
 split at h
 ·obtain ⟨X,h1,h2,h3⟩ := h;exact ⟨X,⟨X,h1,h2,rfl⟩,h3⟩
 ·obtain ⟨hq,h⟩ := h
  obtain ⟨d,h1,h2⟩ := stepOp_det hq h
  exact ⟨d,⟨hq,h1⟩,h2⟩
def tmpsOf (o : Oper) : List Nat := (o.op.operands.toList.filterMap fun x=>match x with|.tmp t=>some t|_=>none)
def AgreeOn (T T' : Tm) (o : Oper) : Prop := ∀ t ∈ tmpsOf o,get T t = get T' t
theorem ev_agree {T T' : Tm} {o : Oper} (h : AgreeOn T T' o) {x : Operand} (hx : x ∈ o.op.operands.toList) : ev G T x = ev G T' x := by
 cases x with
 |tmp t=>exact h t (List.mem_filterMap.2 ⟨.tmp t,hx,rfl⟩)
 |const v=>rfl
 |global g=>rfl
 |func f=>rfl
theorem stepD_agree {H : List AObj} {T T' : Tm} {o : Oper} (h : AgreeOn T T' o) {K : AV → Prop} (hs : stepD P G o ⟨H,T⟩ K) : stepD P G o ⟨H,T'⟩ K := by
 obtain ⟨dst,op,ty,pos,af,gd⟩ := o
 have e : ∀ x,x ∈ op.operands.toList → ev G T x = ev G T' x := fun x hx=>ev_agree h hx
 cases op with
 |move x=>simpa [stepD,stepOp,loud,e x (by simp [Op.operands])] using hs
 |assign x=>simpa [stepD,stepOp,loud,e x (by simp [Op.operands])] using hs
 |pick x y z=>simpa [stepD,stepOp,loud,e x (by simp [Op.operands]),e y (by simp [Op.operands]),e z (by simp [Op.operands])] using hs
 |binOp b t x y t'=>simpa [stepD,stepOp,loud,e x (by simp [Op.operands]),e y (by simp [Op.operands])] using hs
 |unOp b t x=>simpa [stepD,stepOp,loud,e x (by simp [Op.operands])] using hs
 |alloc t=>simp [stepD,loud] at hs
 |box t x=>simp [stepD,loud] at hs
 |store t x y=>simp [stepD,loud] at hs
 |build t ps =>
  have : (ps.toList.map fun p=>(p.1,ev G T p.2)) = ps.toList.map fun p=>(p.1,ev G T' p.2) := List.map_congr_left fun p hp=>by
   rw [e p.2 (by simp only [Op.operands,List.mem_map];exact ⟨p,hp,rfl⟩)]
  simpa [stepD,stepOp,loud,this] using hs
 |buildSlice t m ps =>
  have : (ps.toList.map fun p=>(p.1,ev G T p.2)) = ps.toList.map fun p=>(p.1,ev G T' p.2) := List.map_congr_left fun p hp=>by
   rw [e p.2 (by simp only [Op.operands,List.mem_map];exact ⟨p,hp,rfl⟩)]
  simpa [stepD,stepOp,loud,this] using hs
 |load t x=>simpa [stepD,stepOp,loud,e x (by simp [Op.operands])] using hs
 |nilCheck x=>simpa [stepD,stepOp,loud,e x (by simp [Op.operands])] using hs
 |convert a b x=>simpa [stepD,stepOp,loud,e x (by simp [Op.operands])] using hs
 |extract x i=>simpa [stepD,stepOp,loud,e x (by simp [Op.operands])] using hs
 |fieldAddr t x i=>simpa [stepD,stepOp,loud,e x (by simp [Op.operands])] using hs
 |field t x i=>simpa [stepD,stepOp,loud,e x (by simp [Op.operands])] using hs
 |indexAddr t x y=>simpa [stepD,stepOp,loud,e x (by simp [Op.operands]),e y (by simp [Op.operands])] using hs
 |index t x y=>simpa [stepD,stepOp,loud,e x (by simp [Op.operands]),e y (by simp [Op.operands])] using hs
 |slice t x lo hi mx =>
  have e1 : lo.map (ev G T) = lo.map (ev G T') := by cases lo with|none=>rfl|some y=>simp [e y (by simp [Op.operands])]
  have e2 : hi.map (ev G T) = hi.map (ev G T') := by cases hi with|none=>rfl|some y=>simp [e y (by simp [Op.operands])]
  cases mx with
  |none=>simpa [stepD,stepOp,loud,e x (by simp [Op.operands]),e1,e2] using hs
  |some y=>simp [stepD,stepOp,loud] at hs
 |call c =>
  obtain ⟨callee,args,ts⟩ := c
  cases callee with
  |value x =>
   cases x with
   |func f =>
    have : args.toList.map (ev G T) = args.toList.map (ev G T') := List.map_congr_left fun x hx=>e x (by simp [Op.operands,Call.operands];exact .inr (by simpa using hx))
    simpa [stepD,this] using hs
   |tmp t=>simp [stepD,loud] at hs
   |const v=>simp [stepD,loud] at hs
   |global g=>simp [stepD,loud] at hs
  |invoke r m=>simp [stepD,loud] at hs
  |builtin b =>
   by_cases hb : b = .len
   ·subst hb
    obtain ⟨al⟩ := args
    obtain ⟨tl⟩ := ts
    rcases al with _|⟨x,_|⟨y,r⟩⟩
    ·simp [stepD,stepOp,loud] at hs
    ·rcases tl with _|⟨t,_|⟨t',r'⟩⟩
     ·simp [stepD,stepOp,loud] at hs
     ·simpa [stepD,stepOp,loud,e x (by simp [Op.operands,Call.operands])] using hs
     ·simp [stepD,stepOp,loud] at hs
    ·simp [stepD,stepOp,loud] at hs
   ·exfalso
    obtain ⟨hq,_⟩ := (show loud (.call ⟨.builtin b,args,ts⟩) = false ∧ _ from by simpa [stepD] using hs)
    cases b <;> first|exact hb rfl|cases hq
 |_=>simp [stepD,stepOp,loud] at hs
end
end Go.Proofs.YtoeajbhlkccekaaDoor

namespace Go.Proofs.YtoeajbhlkccekaaDoor
open Go.RowKit
section
variable {P : Program} {G : Gl} {N : FS} {n : Nat} {s : ASt} {H : List AObj} {T : Tm} {w w0 w' : World} {S S0 S1 S2 : SS} {μ : List Value}
structure Good (w0 : World) (S0 : SS) (μ : List Value) (H : List AObj) (w : World) (S : SS) : Prop where
 rel : Rel w S μ H
 step : Step H.length w0 S0 μ H w S μ H
theorem Good.gr (h : Good w0 S0 μ H w S) (hg : Gr w w') : Good w0 S0 μ H w' S := by
 obtain ⟨r,st⟩ := h.rel.grow hg (fun _ _ _ q=>q) (fun _ _ _ q=>.inl q) (fun b j d q hb=>by have := h.rel.still_lt q;omega)
 exact ⟨r,h.step.trans st⟩
theorem Good.ext (h : Good w0 S0 μ H w S) : Ext S0 μ S μ := ⟨h.step.still,fun i x hx=>⟨x,hx, .inl rfl⟩⟩
def Reads (w0 : World) (S0 : SS) (μ : List Value) (H : List AObj) (d : AV) (v : Value) (w : World) : Prop := ∃ S,Good w0 S0 μ H w S ∧ rep S μ d v
theorem Reads.gr {d : AV} {v : Value} (h : Reads w0 S0 μ H d v w) (hg : Gr w w') : Reads w0 S0 μ H d v w' := by obtain ⟨S,h1,h2⟩ := h;exact ⟨S,h1.gr hg,h2⟩
def envs : Tm → List Oper → List AV → Tm
 |T,o :: l,v :: vs=>envs (ASt.set ⟨[],T⟩ [] o.dst v).T l vs
 |T,_,_=>T
def opFact (P : Program) (G : Gl) (ops : List Oper) (H : List AObj) (T : Tm) (o : Oper) (v : AV) : Prop :=
 match o.guard with
 |none=>stepD P G o ⟨H,T⟩ (· = v)
 |some (j,want)=>∃ t,dstAt ops j = some t ∧ ((∃ b,get T t = V (.bool b) ∧ (b = want → stepD P G o ⟨H,T⟩ (· = v)) ∧ (b ≠ want → v = UD)) ∨ ((∃ q,get T t = .iface q (.agg [])) ∧ v = UD))
theorem get_set_same (T : Tm) (i : Nat) (v : AV) : get (ASt.set ⟨[],T⟩ [] (some i) v).T i = v := get_tput_same T i v
theorem get_set_other (T : Tm) (d : Option Tmp) (k : Nat) (v : AV) (h : d ≠ some k) : get (ASt.set ⟨[],T⟩ [] d v).T k = get T k := by
 cases d with
 |none=>rfl
 |some i=>exact get_tput_other T i k v (fun e=>h (by rw [e]))
theorem get_envs_no : ∀ (l : List Oper) (vs : List AV) (T : Tm) (t : Nat),(∀ o ∈ l,o.dst ≠ some t) → get (envs T l vs) t = get T t
 |[],vs,T,t,_=>by cases vs <;> rfl
 |o :: l,[],T,t,_=>rfl
 |o :: l,v :: vs,T,t,h=>by
  simp only [envs]
  rw [get_envs_no l vs _ t fun o' ho'=>h o' (List.mem_cons_of_mem _ ho')]
  exact get_set_other T o.dst t v (h o (List.mem_cons_self ..))
theorem get_envs_at : ∀ (l : List Oper) (vs : List AV) (T : Tm) (t k : Nat) (o : Oper) (v : AV),l[k]? = some o → vs[k]? = some v → o.dst = some t → (∀ m o',l[m]? = some o' → o'.dst = some t → m = k) → get (envs T l vs) t = v
 |[],vs,T,t,k,o,v,ho,_,_,_=>by simp at ho
 |_ :: _,[],T,t,k,o,v,_,hv,_,_=>by simp at hv
 |o1 :: l,v1 :: vs,T,t,k,o,v,ho,hv,hd,hu=>by
  simp only [envs]
  rcases k with _|k
  ·simp at ho hv;subst ho hv
   rw [get_envs_no l vs _ t fun o' ho' e=>?_,hd]
   ·exact get_set_same T t v1
   ·obtain ⟨m,hm⟩ := List.getElem?_of_mem ho'
    have := hu (m + 1) o' (by simpa using hm) e
    omega
  ·simp only [List.getElem?_cons_succ] at ho hv
   exact get_envs_at l vs _ t k o v ho hv hd fun m o' hm e=>by have := hu (m + 1) o' (by simpa using hm) e;omega
end
end Go.Proofs.YtoeajbhlkccekaaDoor

namespace Go.Proofs.YtoeajbhlkccekaaDoor
open Go.RowKit
section
variable {P : Program} {ops : Array Oper}
def backShape (ops : Array Oper) : Bool := (List.range ops.size).all fun k=>((ops[k]?).map fun ok=>ok.after.all fun e=>!Region.binds .any e || decide (e.on < k)).getD true
theorem backShape_spec (h : backShape ops = true) {k : Nat} {ok : Oper} (hk : ops[k]? = some ok) : ∀ e ∈ ok.after,Region.binds .any e = true → e.on < k := by
 intro e he hb
 have h1 := List.all_eq_true.1 h k (List.mem_range.2 (Array.getElem?_eq_some_iff.1 hk).1)
 rw [hk] at h1
 simp only [Option.map_some,Option.getD_some] at h1
 rw [Array.all_eq_true_iff_forall_mem] at h1
 have := h1 e he
 simpa [hb] using this
def Closed (ops : Array Oper) (listed : Array Bool) : Prop := ∀ (k : Nat) (ok : Oper),ops[k]? = some ok → listed.getD k false = true → ∀ e ∈ ok.after,Region.binds .any e = true → listed.getD e.on false = true
def Leads (P : Program) (ops : Array Oper) (o : Oper) (a : Act) (w : World) (J : Act → World → Prop) : Prop := wpList P ops (fun e a' w'=>e = .normal ∧ J a' w') [o] a w
theorem wpOp_of_leads {o : Oper} {j : Nat} (hj : ops[j]? = some o) {a : Act} {w : World} {J : Act → World → Prop} {K : Act → World → Prop} {Q : Exit → Act → World → Prop}
  (h : Leads P ops o a w J) (hK : ∀ a' w',J a' w' → K a' w') : wpOp P ops Q j K a w := by
 unfold wpOp
 rw [hj]
 unfold Leads wpList at h
 simp only
 split
 ·rename_i hw
  rw [if_pos hw] at h
  rcases h with h|⟨_,_,_,h,_⟩
  ·exact .inl (Oper.wp_mono2 (fun a' w' hh=>hK _ _ hh.2) (fun e a' w' hne hh=>absurd hh.1 hne) h)
  ·cases h
 ·rename_i hw
  rw [if_neg hw] at h
  exact hK _ _ h.2
theorem wpAny_of_inv {J : Array Bool → Act → World → Prop} {Q : Exit → Act → World → Prop} (hsh : backShape ops = true)
    (hop : ∀ listed a w j o, ops[j]? = some o → listed.size = ops.size → listed.getD j false = false → (∀ e ∈ o.after, Region.binds .any e = true → listed.getD e.on false = true) → Closed ops listed → J listed a w →
      Leads P ops o a w (J (listed.setIfInBounds j true)))
    (hend : ∀ listed a w, (∀ k, k < ops.size → listed.getD k false = true) → J listed a w → Q .normal a w) :
    ∀ (fuel : Nat) (listed : Array Bool) (a : Act) (w : World), listed.size = ops.size → Closed ops listed → J listed a w → ((List.range ops.size).filter fun i => !listed.getD i false).length ≤ fuel → wpAny P .any ops Q fuel listed a w := by
  have hfin : ∀ (listed : Array Bool) (a : Act) (w : World), listed.size = ops.size → J listed a w → Region.ready .any ops listed = [] → Q .normal a w := by
    intro listed a w hs hI hr
    refine hend listed a w ?_ hI
    have hall : ∀ n k, k < n → k < ops.size → listed.getD k false = true := by
      intro n
      induction n with
      | zero => intro k hk; omega
      | succ n ih =>
        intro k hk hks
        cases hl : listed.getD k false with
        | true => rfl
        | false =>
          exfalso
          have hk' : ops[k]? = some ops[k] := Array.getElem?_eq_getElem hks
          have : k ∈ Region.ready .any ops listed := by
            rw [mem_ready]
            refine ⟨?_, _, hk', fun e he hb => ?_⟩
            · have hkl : k < listed.size := by rw [hs]; exact hks
              simp only [Array.getD_eq_getD_getElem?, Array.getElem?_eq_getElem hkl, Option.getD_some] at hl ⊢; exact hl
            · have he2 := backShape_spec hsh hk' e he hb
              exact ih e.on (by omega) (by omega)
          rw [hr] at this; cases this
    exact fun k hk => hall (k + 1) k (by omega) hk
  intro fuel
  induction fuel with
  | zero =>
    intro listed a w hs _ hI hlen
    have hr : Region.ready .any ops listed = [] := by
      apply List.eq_nil_iff_forall_not_mem.2
      intro j hj
      obtain ⟨h1, o, ho, _⟩ := mem_ready.1 hj
      have hjl : j < ops.size := (Array.getElem?_eq_some_iff.1 ho).1
      have h0 : (List.range ops.size).filter (fun i => !listed.getD i false) = [] := List.eq_nil_of_length_eq_zero (by omega)
      have : j ∈ (List.range ops.size).filter (fun i => !listed.getD i false) := by
        rw [List.mem_filter]; refine ⟨List.mem_range.2 hjl, ?_⟩
        rw [getD_false_of_true (by rw [hs]; exact hjl) h1]; rfl
      rw [h0] at this; cases this
    exact ⟨hr, hfin _ _ _ hs hI hr⟩
  | succ fuel ih =>
    intro listed a w hs hcl hI hlen
    refine ⟨hfin _ _ _ hs hI, fun j hj => ?_⟩
    obtain ⟨h1, o, ho, hedges⟩ := mem_ready.1 hj
    have hjl : j < ops.size := (Array.getElem?_eq_some_iff.1 ho).1
    have hjs : j < listed.size := by rw [hs]; exact hjl
    have hjf := getD_false_of_true hjs h1
    have hset : ∀ k, k ≠ j → (listed.setIfInBounds j true).getD k false = listed.getD k false := fun k hk => getD_set_ne false (fun e => hk e.symm)
    refine wpOp_of_leads ho (hop listed a w j o ho hs hjf (fun e he hb => hedges e he hb) hcl hI) fun a' w' hJ => ih _ _ _ (by simp [hs]) ?_ hJ ?_
    · intro k ok hk hl e he hb
      have mono : ∀ m, listed.getD m false = true → (listed.setIfInBounds j true).getD m false = true := fun m hm => getD_set_true hm
      by_cases hkj : k = j
      · subst hkj
        rw [ho] at hk; injection hk with hk; subst hk
        exact mono _ (hedges e he hb)
      · rw [hset k hkj] at hl
        exact mono _ (hcl k ok hk hl e he hb)
    · refine Nat.le_of_lt_succ (Nat.lt_of_lt_of_le (filter_lt (List.mem_range.2 hjl) (by rw [hjf]; rfl) (by rw [getD_set_self hjs]; rfl) fun x hx => ?_) hlen)
      by_cases hxj : x = j
      · subst hxj; rw [getD_set_self hjs] at hx; cases hx
      · rwa [getD_set_ne false (fun e => hxj e.symm)] at hx
theorem wp_region_inv {id : Nat} {a0 : Act} {w0 : World} {Q : Exit → Act → World → Prop} (J : Array Bool → Act → World → Prop) (hm : P.follows .mixedOrders = true) (hsh : backShape ops = true)
    (hop : ∀ listed a w j o, ops[j]? = some o → listed.size = ops.size → listed.getD j false = false → (∀ e ∈ o.after, Region.binds .any e = true → listed.getD e.on false = true) → Closed ops listed → J listed a w →
      Leads P ops o a w (J (listed.setIfInBounds j true)))
    (hend : ∀ listed a w, (∀ k, k < ops.size → listed.getD k false = true) → J listed a w → Q .normal a w)
    (h0 : ∀ listed : Array Bool, (∀ k, listed.getD k false = false) → J listed a0 w0.drew) : (Code.region id ops true).wp P Q a0 w0 := by
  refine wp_region_any hm (wpAny_of_inv hsh hop hend _ _ _ _ (by simp) ?_ (h0 _ fun k => ?_) ?_)
  · intro k ok hk hl
    have : k < ops.size := (Array.getElem?_eq_some_iff.1 hk).1
    simp [Array.getD_eq_getD_getElem?, this] at hl
  · rw [Array.getD_eq_getD_getElem?]
    cases h : (Array.replicate ops.size false)[k]? with
    | none => rfl
    | some b => rw [Array.getElem?_replicate] at h; split at h <;> simp_all
  · exact Nat.le_trans (List.length_filter_le _ _) (by simp)
end
def regOnly : Op → Bool
 |.move _|.assign _|.pick ..|.binOp ..|.unOp ..|.extract ..|.field ..|.build ..|.fieldAddr ..|.nilCheck _=>true
 |_=>false
def isStore : Op → Bool|.store ..=>true|_=>false
def isAlloc : Op → Bool|.alloc _=>true|_=>false
section
variable {P : Program} {G : Gl} {N : FS} {n : Nat} {s : ASt} {H H' X : List AObj} {T : Tm}
theorem stepD_reg {o : Oper} (hr : regOnly o.op = true) {K : AV → Prop} (h : stepD P G o ⟨H,T⟩ K) : stepD P G o ⟨H',T⟩ K := by
 obtain ⟨dst,op,ty,pos,af,gd⟩ := o
 cases op <;> first|(simp [regOnly] at hr;done)|simpa [stepD,stepOp,loud] using h
theorem nthO_app {i : Nat} {K : AObj → Prop} (h : nthO H i K) : nthO (H ++ X) i K := by
 obtain ⟨o,h1,h2⟩ := h
 exact ⟨o,by rw [List.getElem?_append_left (List.getElem?_eq_some_iff.1 h1).1];exact h1,h2⟩
theorem elemsOf_app {x : AV} {K : List AV → Prop} (h : elemsOf H x K) : elemsOf (H ++ X) x K := by
 unfold elemsOf at h ⊢
 split at h
 ·exact h
 ·exact nthO_app h
 ·exact h
 ·exact h
 ·exact h.elim
theorem ro1_app {d : AV} (h : lt1 0 (ro1 H d) = true) : ro1 (H ++ X) d = ro1 H d := by
 unfold ro1 at h ⊢
 split at h
 ·rename_i i m
  cases hi : H[i]? with
  |none=>rw [hi] at h;simp [lt1] at h
  |some o=>rw [List.getElem?_append_left (List.getElem?_eq_some_iff.1 hi).1,hi]
 ·rfl
 ·rfl
theorem roA_app {d : AV} (h : ltA 0 (roA H d) = true) : roA (H ++ X) d = roA H d := by
 unfold roA at h ⊢
 split at h
 ·rename_i cs
  simp only [ltA,List.all_eq_true,List.mem_map] at h
  simp only [DataW.agg.injEq]
  exact List.map_congr_left fun x hx=>ro1_app (h _ ⟨x,hx,rfl⟩)
 ·rename_i hne
  refine ro1_app ?_
  unfold ltA at h
  split at h
  ·rename_i cs hcs;exact absurd hcs (ro1_noagg hne cs)
  ·exact h
theorem ro_app {d : AV} (h : ltT 0 (ro H d) = true) : ro (H ++ X) d = ro H d := by
 unfold ro at h ⊢
 split at h
 ·rename_i ss ds
  simp only [ltT,List.all_eq_true,List.mem_map] at h
  simp only [DataW.iface.injEq,DataW.agg.injEq,true_and]
  exact List.map_congr_left fun x hx=>roA_app (h _ ⟨x,hx,rfl⟩)
 ·rename_i hne
  refine roA_app ?_
  unfold ltT at h
  split at h
  ·rename_i ss ds hcs
   exfalso
   unfold roA at hcs
   split at hcs
   ·cases hcs
   ·exact hne _ _ (ro1_notup hcs)
  ·exact h
theorem stepD_app {o : Oper} {K : AV → Prop} (h : stepD P G o ⟨H,T⟩ K) : stepD P G o ⟨H ++ X,T⟩ K := by
 obtain ⟨dst,op,ty,pos,af,gd⟩ := o
 by_cases hr : regOnly op = true
 ·exact stepD_reg hr h
 cases op with
 |load t x =>
  simp only [stepD,stepOp,loud,true_and] at h ⊢
  unfold aLoad at h ⊢
  split at h
  ·exact h
  ·exact h
  ·exact nthO_app h
  ·exact h
 |indexAddr t x y =>
  simp only [stepD,stepOp,loud,true_and] at h ⊢
  unfold aIndexA at h ⊢
  split at h
  ·unfold aIndexS at h ⊢
   split at h
   ·refine ⟨h.1,?_⟩
    have h2 := h.2
    split at h2
    ·exact ⟨h2.1,nthO_app h2.2⟩
    ·exact elemsOf_app h2
   ·exact h
  ·exact h
 |slice t x lo hi mx =>
  cases mx with
  |none =>
   simp only [stepD,stepOp,loud,true_and] at h ⊢
   unfold aSlice at h ⊢
   split at h
   ·exact h
   ·split at h
    ·exact elemsOf_app h
    ·exact h
  |some y=>simp [stepD,stepOp,loud] at h
 |call c =>
  obtain ⟨callee,args,ts⟩ := c
  cases callee with
  |value x =>
   cases x with
   |func f =>
    obtain ⟨X',h1,h2,h3⟩ := h
    have e : (args.toList.map (ev G T)).map (ro (H ++ X)) = (args.toList.map (ev G T)).map (ro H) := List.map_congr_left fun d hd=>ro_app ((List.all_eq_true.1 h2) _ (List.mem_map.2 ⟨d,hd,rfl⟩))
    exact ⟨X',by show ACp P G f ((args.toList.map (ev G T)).map (ro (H ++ X))) X';rw [e];exact h1,by show ((args.toList.map (ev G T)).map (ro (H ++ X))).all (ltT 0) = true;rw [e];exact h2,h3⟩
   |tmp t=>simp [stepD,loud] at h
   |const v=>simp [stepD,loud] at h
   |global g=>simp [stepD,loud] at h
  |invoke r m=>simp [stepD,loud] at h
  |builtin b =>
   by_cases hb : b = .len
   ·subst hb
    obtain ⟨al⟩ := args
    obtain ⟨tl⟩ := ts
    rcases al with _|⟨x,_|⟨y,r⟩⟩
    ·simp [stepD,stepOp,loud] at h
    ·rcases tl with _|⟨t,_|⟨t',r'⟩⟩
     ·simp [stepD,stepOp,loud] at h
     ·simp only [stepD,stepOp,loud,true_and] at h ⊢
      unfold aLen at h ⊢
      split at h
      ·exact h
      ·exact h
      ·exact ⟨h.1,elemsOf_app h.2⟩
     ·simp [stepD,stepOp,loud] at h
    ·simp [stepD,stepOp,loud] at h
   ·exfalso
    obtain ⟨hq,_⟩ := (show loud (.call ⟨.builtin b,args,ts⟩) = false ∧ _ from by simpa [stepD] using h)
    cases b <;> first|exact hb rfl|cases hq
 |index t x y=>simpa [stepD,stepOp,loud] using h
 |convert a b x =>
  simp only [stepD,stepOp,loud,true_and] at h ⊢
  have e : ro (H ++ X) (ev G T x) = ro H (ev G T x) := by
   refine ro_app ?_
   unfold aConv at h
   split at h
   ·rename_i hx;rw [hx];rfl
   ·rename_i hx;rw [hx];rfl
   ·rename_i hx;rw [hx];rfl
   ·exact h.elim
  show aConv P a b (ro (H ++ X) (ev G T x)) _
  rw [e];exact h
 |buildSlice t m ps=>simpa [stepD,stepOp,loud] using h
 |_=>first|(exfalso;exact hr rfl)|(simp [stepD,stepOp,loud] at h;done)
end
end Go.Proofs.YtoeajbhlkccekaaDoor

namespace Go.Proofs.YtoeajbhlkccekaaDoor
open Go.RowKit
section
variable {P : Program} {G : Gl} {N : FS} {n : Nat} {s : ASt} {H H' X : List AObj} {T : Tm}
def posFact (P : Program) (G : Gl) (ops : List Oper) (base : List AObj) (Hj : List AObj) (T : Tm) (o : Oper) (v : AV) (Hk : List AObj) : Prop :=
 match o.op with
 |.alloc t=>o.guard = none ∧ ∃ c,zeroC P t = some c ∧ v = OP Hj.length 0 ∧ Hk = Hj ++ [⟨1,t,0,c⟩]
 |.store t x y=>o.guard = none ∧ o.dst = none ∧ aStore (kindT P t) Hj (ev G T x) (ev G T y) (· = Hk)
 |_=>Hk = Hj ∧ ((opFact P G ops Hj T o v ∧ Hj = base) ∨ (o.guard = none ∧ regOnly o.op = true ∧ stepD P G o ⟨Hj,T⟩ (· = v)))
theorem putP_det {ob : AObj} {k o : Nat} {x : AV} {K : AObj → Prop} (h : putP ob k o x K) : ∃ ob',putP ob k o x (· = ob') ∧ K ob' := by
 obtain ⟨h1,h2,h3,h⟩ := h
 unfold putP
 split at h
 ·rename_i e
  exact ⟨_,⟨h1,h2,h3,by rw [e];exact ⟨h.1,rfl⟩⟩,h.2⟩
 ·rename_i e
  exact ⟨_,⟨h1,h2,h3,by rw [e];exact ⟨h.1,h.2.1,h.2.2.1,h.2.2.2.1,rfl⟩⟩,h.2.2.2.2⟩
 ·exact h.elim
theorem aStore_det {k : Nat} {x y : AV} {K : List AObj → Prop} (h : aStore k H x y K) : ∃ H',aStore k H x y (· = H') ∧ K H' := by
 unfold aStore at h ⊢
 split at h
 ·obtain ⟨ob,h1,h2⟩ := h
  obtain ⟨ob',h3,h4⟩ := putP_det h2
  exact ⟨_,⟨ob,h1,putP_mono h3 fun l e=>by rw [e]⟩,h4⟩
 ·exact h.elim
def drawX (P : Program) (G : Gl) (ops : List Oper) : Bool → List Oper → ASt → (ASt → Prop) → Prop
 |_,[],s,K=>K s
 |b,o :: r,s,K=>match o.op with
  |.alloc t=>o.guard = none ∧ ∃ c,zeroC P t = some c ∧ drawX P G ops true r (s.set (s.H ++ [⟨1,t,0,c⟩]) o.dst (OP s.H.length 0)) K
  |.store t x y=>o.guard = none ∧ o.dst = none ∧ aStore (kindT P t) s.H (ev G s.T x) (ev G s.T y) fun H'=>drawX P G ops true r ⟨H',s.T⟩ K
  |op=>(b = true → o.guard = none ∧ regOnly op = true) ∧ (match o.guard with
   |none=>stepD P G o s fun d=>drawX P G ops b r (s.set s.H o.dst d) K
   |some (j,want)=>match dstAt ops j with
    |some t=>guardA (get s.T t) want (stepD P G o s fun d=>drawX P G ops b r (s.set s.H o.dst d) K) (drawX P G ops b r (s.set s.H o.dst UD) K)
    |none=>False)
theorem drawX_out {ops : List Oper} {base : List AObj} {K : ASt → Prop} : ∀ {l : List Oper} {b : Bool} {H : List AObj} {T : Tm},(b = false → H = base) → drawX P G ops b l ⟨H,T⟩ K → ∃ (vs : List AV) (hs : Nat → List AObj),vs.length = l.length ∧ hs 0 = H ∧ K ⟨hs l.length,envs T l vs⟩ ∧
  ∀ i o v,l[i]? = some o → vs[i]? = some v → posFact P G ops base (hs i) (envs T (l.take i) (vs.take i)) o v (hs (i + 1))
 |[],b,H,T,_,h=>⟨[],fun _=>H,rfl,rfl,h,fun i o v ho=>by simp at ho⟩
 |o :: l,b,H,T,hb,h=>by
  have key : ∀ v H1 b',(b' = false → H1 = base) → drawX P G ops b' l (ASt.set ⟨H,T⟩ H1 o.dst v) K → posFact P G ops base H T o v H1 → ∃ (vs : List AV) (hs : Nat → List AObj),vs.length = (o :: l).length ∧ hs 0 = H ∧ K ⟨hs (o :: l).length,envs T (o :: l) vs⟩ ∧
    ∀ i o' v,(o :: l)[i]? = some o' → vs[i]? = some v → posFact P G ops base (hs i) (envs T ((o :: l).take i) (vs.take i)) o' v (hs (i + 1)) := by
   intro v H1 b' hb' hd hf
   obtain ⟨vs,hs,h1,h2,h3,h4⟩ := drawX_out (ops := ops) (base := base) (l := l) (H := H1) (T := (ASt.set ⟨[],T⟩ [] o.dst v).T) hb' hd
   refine ⟨v :: vs,fun i=>match i with|0=>H|i + 1=>hs i,by simp [h1],rfl,h3,fun i o' v' ho' hv'=>?_⟩
   rcases i with _|i
   ·simp at ho' hv';subst ho' hv'
    show posFact P G ops base H T o v (hs 0)
    rw [h2];exact hf
   ·simp only [List.getElem?_cons_succ] at ho' hv'
    exact h4 i o' v' ho' hv'
  unfold drawX at h
  split at h
  ·rename_i t ho
   obtain ⟨hg,c,hc,h⟩ := h
   exact key _ _ true (fun e=>by cases e) h (by unfold posFact;rw [ho];exact ⟨hg,c,hc,rfl,rfl⟩)
  ·rename_i t x y ho
   obtain ⟨hg,hd,h⟩ := h
   obtain ⟨H1,h1,h2⟩ := aStore_det h
   exact key .nil H1 true (fun e=>by cases e) (by rw [hd];exact h2) (by unfold posFact;rw [ho];exact ⟨hg,hd,h1⟩)
  ·rename_i hna hns
   have fin : ∀ v,((opFact P G ops H T o v ∧ H = base) ∨ (o.guard = none ∧ regOnly o.op = true ∧ stepD P G o ⟨H,T⟩ (· = v))) → posFact P G ops base H T o v H := by
    intro v hv
    unfold posFact
    split
    ·rename_i t ho;exact absurd ho (hna t)
    ·rename_i t x y ho;exact absurd ho (hns t x y)
    ·exact ⟨rfl,hv⟩
   obtain ⟨hreg,h⟩ := h
   cases b with
   |true =>
    obtain ⟨hg,hr⟩ := hreg rfl
    rw [hg] at h
    obtain ⟨v,h1,h2⟩ := stepD_det h
    exact key v H true (fun e=>by cases e) h2 (fin v (.inr ⟨hg,hr,h1⟩))
   |false =>
    have hB := hb rfl
    split at h
    ·rename_i hg
     obtain ⟨v,h1,h2⟩ := stepD_det h
     refine key v H false (fun _=>hB) h2 (fin v (.inl ⟨?_,hB⟩))
     unfold opFact;rw [hg];exact h1
    ·rename_i j want hg
     split at h
     ·rename_i t ht
      unfold guardA at h
      split at h
      ·rename_i bb hbb
       by_cases e : bb = want
       ·obtain ⟨v,h1,h2⟩ := stepD_det (h.1 e)
        refine key v H false (fun _=>hB) h2 (fin v (.inl ⟨?_,hB⟩))
        unfold opFact;rw [hg];exact ⟨t,ht, .inl ⟨bb,hbb,fun _=>h1,fun q=>absurd e q⟩⟩
       ·refine key UD H false (fun _=>hB) (h.2 (by cases bb <;> cases want <;> simp_all)) (fin UD (.inl ⟨?_,hB⟩))
        unfold opFact;rw [hg];exact ⟨t,ht, .inl ⟨bb,hbb,fun q=>absurd q e,fun _=>rfl⟩⟩
      ·rename_i q hbb
       refine key UD H false (fun _=>hB) h (fin UD (.inl ⟨?_,hB⟩))
       unfold opFact;rw [hg];exact ⟨t,ht, .inr ⟨⟨q,hbb⟩,rfl⟩⟩
      ·exact h.elim
     ·exact h.elim
def inAfter (o : Oper) (i : Nat) : Bool := o.after.any fun e=>Region.binds .any e && e.on == i
def tailOK (ops : List Oper) (m N : Nat) : Bool :=
  decide (m ≤ ops.length) && (ops.take m).all (fun o => !isAlloc o.op && !isStore o.op) &&
  ((List.range ops.length).all fun k => match ops[k]? with
    | some o => (match o.dst with
      | some d => decide (d < N) && (List.range ops.length).all (fun q => q == k || (match ops[q]? with | some oq => oq.dst != some d | none => true))
      | none => isStore o.op) &&
      (!isStore o.op || (List.range ops.length).all fun i => match ops[i]? with
        | some oi => i == k || regOnly oi.op || (isStore oi.op && decide (k < i)) || inAfter o i
        | none => true) &&
      (!isAlloc o.op || (List.range ops.length).all fun i => match ops[i]? with
        | some oi => i == k || !isAlloc oi.op
        | none => true)
    | none => true)
structure TailOK (ops : List Oper) (m N : Nat) : Prop where
 le : m ≤ ops.length
 quiet : (ops.take m).all (fun o=>!isAlloc o.op && !isStore o.op) = true
 dst : ∀ (k d : Nat) (o : Oper),ops[k]? = some o → o.dst = some d → d < N ∧ ∀ (q : Nat) (oq : Oper),ops[q]? = some oq → oq.dst = some d → q = k
 nodst : ∀ (k : Nat) (o : Oper),ops[k]? = some o → o.dst = none → isStore o.op = true
 store : ∀ (k : Nat) (o : Oper),ops[k]? = some o → isStore o.op = true → ∀ (i : Nat) (oi : Oper),ops[i]? = some oi → i ≠ k → regOnly oi.op = false → (isStore oi.op = false ∨ i < k) → inAfter o i = true
 alloc : ∀ (k i : Nat) (o oi : Oper),ops[k]? = some o → isAlloc o.op = true → ops[i]? = some oi → isAlloc oi.op = true → i = k
theorem tailOK_spec {ops : List Oper} {m : Nat} (h : tailOK ops m N = true) : TailOK ops m N := by
 unfold tailOK at h
 simp only [Bool.and_eq_true,decide_eq_true_eq] at h
 obtain ⟨⟨h1,h2⟩,h3⟩ := h
 have g : ∀ (k : Nat) (o : Oper),ops[k]? = some o → _ := fun k o ho=>by
  have := List.all_eq_true.1 h3 k (List.mem_range.2 (List.getElem?_eq_some_iff.1 ho).1)
  rw [ho] at this
  simp only [Bool.and_eq_true] at this
  exact this
 refine ⟨h1,h2,fun k d o ho hd=>?_,fun k o ho hd=>?_,fun k o ho hs i oi hoi hne hr hq=>?_,fun k i o oi ho ha hoi hai=>?_⟩
 ·have := (g k o ho).1.1
  rw [hd] at this
  simp only [Bool.and_eq_true,decide_eq_true_eq] at this
  refine ⟨this.1,fun q oq hoq hqd=>?_⟩
  have h5 := List.all_eq_true.1 this.2 q (List.mem_range.2 (List.getElem?_eq_some_iff.1 hoq).1)
  rw [hoq] at h5
  simpa [hqd] using h5
 ·have := (g k o ho).1.1
  rw [hd] at this
  exact this
 ·have := (g k o ho).1.2
  rw [hs] at this
  simp only [Bool.not_true,Bool.false_or] at this
  have h5 := List.all_eq_true.1 this i (List.mem_range.2 (List.getElem?_eq_some_iff.1 hoi).1)
  rw [hoi] at h5
  simp only [hr,Bool.or_false,Bool.or_eq_true,beq_iff_eq,Bool.and_eq_true,decide_eq_true_eq] at h5
  rcases h5 with (h5|⟨h5,h6⟩)|h5
  ·exact absurd h5 hne
  ·rcases hq with q|q
   ·rw [q] at h5;cases h5
   ·omega
  ·exact h5
 ·have := (g k o ho).2
  rw [ha] at this
  simp only [Bool.not_true,Bool.false_or] at this
  have h5 := List.all_eq_true.1 this i (List.mem_range.2 (List.getElem?_eq_some_iff.1 hoi).1)
  rw [hoi] at h5
  simpa [hai] using h5
end
end Go.Proofs.YtoeajbhlkccekaaDoor

namespace Go.Proofs.YtoeajbhlkccekaaDoor
open Go.RowKit
section
variable {P : Program} {G : Gl} {N : FS} {n : Nat}
def HD (ops : List Oper) (B : List AObj) (hs : Nat → List AObj) (listed : Array Bool) (Hc : List AObj) : Prop :=
  (∃ (k : Nat) (o : Oper), ops[k]? = some o ∧ isStore o.op = true ∧ listed.getD k false = true ∧ (∀ (k' : Nat) (o' : Oper), ops[k']? = some o' → isStore o'.op = true → listed.getD k' false = true → k' ≤ k) ∧ Hc = hs (k + 1)) ∨
  ((∀ (k : Nat) (o : Oper), ops[k]? = some o → isStore o.op = true → listed.getD k false = false) ∧
    ((∃ (k : Nat) (o : Oper), ops[k]? = some o ∧ isAlloc o.op = true ∧ listed.getD k false = true ∧ Hc = hs (k + 1)) ∨
     ((∀ (k : Nat) (o : Oper), ops[k]? = some o → isAlloc o.op = true → listed.getD k false = false) ∧ Hc = B)))
def settled (ops : List Oper) (listed : Array Bool) (t : Nat) : Prop := (∀ o ∈ ops,o.dst ≠ some t) ∨ ∃ (k : Nat) (o : Oper),ops[k]? = some o ∧ o.dst = some t ∧ listed.getD k false = true
def looksT (ops : List Oper) : Bool :=
  (List.range ops.length).all fun j => match ops[j]? with
    | some o => (tmpsOf o ++ (match o.guard with | some (k, _) => (dstAt ops k).toList | none => [])).all fun t =>
      ((predsOf ops.toArray o).any fun p => p.2 == t && decide (p.1 < j)) || ((List.range ops.length).all fun k => match ops[k]? with | some ok => ok.dst != some t || inAfter ok j | none => true)
    | none => true
structure JT (n : Nat) (N : FS) (ops : List Oper) (B : List AObj) (hs : Nat → List AObj) (T0 E : Tm) (w0 : World) (S0 : SS) (μ0 : List Value) (listed : Array Bool) (a : Act) (w : World) (S : SS) (μ : List Value) (Hc : List AObj) : Prop where
 hd : HD ops B hs listed Hc
 rel : Rel w S μ Hc
 step : Step n w0 S0 μ0 B w S μ Hc
 len : n ≤ Hc.length
 size : a.tmps.size = N
 nodef : a.defers = N.d
 slot : ∀ t,settled ops listed t → rep S μ (get E t) (a.tmps.getD t undef)
 start : ∀ t,(∀ (k : Nat) (o : Oper),ops[k]? = some o → o.dst = some t → listed.getD k false = false) → rep S μ (get T0 t) (a.tmps.getD t undef)
theorem awp_drawT {Q : Exit → ASt → Prop} {id : Nat} {ops : List Oper} {s : ASt} (hmx : P.follows .mixedOrders = true) (hsh : backShape ops.toArray = true) (hok : tailOK ops 0 N = true) (hlk : looksT ops = true) (hn : n ≤ s.H.length)
  (h : drawX P G ops false ops s fun s=>Q .normal s) : AWp P G N n (.region id ops.toArray true) Q s := by
 obtain ⟨B,T⟩ := s
 intro w0 S0 μ0 a0 hrel hfr hG
 have ok := tailOK_spec hok
 obtain ⟨vs,hs,hvl,hs0,hend,hfacts⟩ := drawX_out (base := B) (fun _=>rfl) h
 have hget : ∀ (k : Nat) (o : Oper),(ops.toArray)[k]? = some o → ops[k]? = some o := fun k o h=>by simpa using h
 have hvs : ∀ (k : Nat) (o : Oper),ops[k]? = some o → vs[k]? = some (vs.getD k .nil) := fun k o ho=>by
  have : k < vs.length := by rw [hvl];exact (List.getElem?_eq_some_iff.1 ho).1
  simp [List.getD,this]
 have hback : ∀ (k i : Nat) (o : Oper),ops[k]? = some o → inAfter o i = true → i < k := by
  intro k i o ho hi
  unfold inAfter at hi
  rw [Array.any_eq_true'] at hi
  obtain ⟨e,he,h2⟩ := hi
  simp only [Bool.and_eq_true,beq_iff_eq] at h2
  have := backShape_spec hsh (k := k) (ok := o) (by simpa using ho) e he h2.1
  omega
 have hsc : ∀ (q i : Nat),i + q ≤ ops.length → (∀ (k : Nat) (o : Oper),i ≤ k → k < i + q → ops[k]? = some o → isAlloc o.op = false ∧ isStore o.op = false) → hs (i + q) = hs i := by
  intro q
  induction q with
  |zero=>intro i _ _;rfl
  |succ q ih =>
   intro i hle hno
   have hk : i + q < ops.length := by omega
   have ho : ops[i + q]? = some ops[i + q] := List.getElem?_eq_getElem hk
   have hf := hfacts (i + q) ops[i + q] _ ho (hvs _ _ ho)
   have hq := hno (i + q) ops[i + q] (by omega) (by omega) ho
   have := ih i (by omega) fun k o h1 h2=>hno k o h1 (by omega)
   unfold posFact at hf
   split at hf
   ·rename_i t hop;rw [hop] at hq;cases hq.1
   ·rename_i t x y hop;rw [hop] at hq;cases hq.2
   ·rw [← this,show i + (q + 1) = i + q + 1 by omega];exact hf.1
 have hsc' : ∀ (i j : Nat),i ≤ j → j ≤ ops.length → (∀ (k : Nat) (o : Oper),i ≤ k → k < j → ops[k]? = some o → isAlloc o.op = false ∧ isStore o.op = false) → hs j = hs i := by
  intro i j hij hj hno
  have := hsc (j - i) i (by omega) fun k o h1 h2=>hno k o h1 (by omega)
  rwa [show i + (j - i) = j by omega] at this
 have hareg : ∀ {op : Op},isAlloc op = true → regOnly op = false ∧ isStore op = false := by intro op h;cases op <;> first|exact ⟨rfl,rfl⟩|cases h
 have hsreg : ∀ {op : Op},isStore op = true → regOnly op = false ∧ isAlloc op = false := by intro op h;cases op <;> first|exact ⟨rfl,rfl⟩|cases h
 have hallocB : ∀ (k : Nat) (o : Oper),ops[k]? = some o → isAlloc o.op = true → hs k = B := by
  intro k o ho ha
  rw [hsc' 0 k (Nat.zero_le _) (Nat.le_of_lt (List.getElem?_eq_some_iff.1 ho).1) fun i oi _ hik hoi=>?_,hs0]
  refine ⟨?_,?_⟩
  ·cases hai : isAlloc oi.op with
   |false=>rfl
   |true=>have := ok.alloc k i o oi ho ha hoi hai;omega
  ·cases hsi : isStore oi.op with
   |false=>rfl
   |true =>
    have := hback i k oi hoi (ok.store i oi hoi hsi k o ho (by omega) (hareg ha).1 (.inl (hareg ha).2))
    omega
 have hE : ∀ (j t : Nat),(∀ o ∈ ops,o.dst ≠ some t) ∨ (∃ (k : Nat) (o : Oper),k < j ∧ ops[k]? = some o ∧ o.dst = some t) → get (envs T (ops.take j) (vs.take j)) t = get (envs T ops vs) t := by
  intro j t ht
  rcases ht with hu|⟨k,o,hkj,ho,hd⟩
  ·rw [get_envs_no _ _ _ _ fun o' ho2=>hu o' (List.mem_of_mem_take ho2),get_envs_no _ _ _ _ hu]
  ·have huniq := (ok.dst k t o ho hd).2
   rw [get_envs_at (ops.take j) (vs.take j) T t k o (vs.getD k .nil) (by rw [List.getElem?_take,if_pos hkj];exact ho) (by rw [List.getElem?_take,if_pos hkj];exact hvs k o ho) hd fun q oq hoq e=>?_,
    get_envs_at ops vs T t k o (vs.getD k .nil) ho (hvs k o ho) hd fun q oq hoq e=>huniq q oq hoq e]
   rw [List.getElem?_take] at hoq
   split at hoq
   ·exact huniq q oq hoq e
   ·cases hoq
 refine wp_region_inv (fun listed a w=>∃ S μ Hc,JT n N ops B hs T (envs T ops vs) w0 S0 μ0 listed a w S μ Hc) hmx hsh ?_ ?_ ?_
 ·
  rintro listed a w j o ho hlsz hjf hedges hcl ⟨S,μ,Hc,hJ⟩
  have ho' := hget j o ho
  have hjl : j < ops.length := (List.getElem?_eq_some_iff.1 ho').1
  have hjs : j < listed.size := by rw [hlsz];simpa using hjl
  have hset : ∀ k,k ≠ j → (listed.setIfInBounds j true).getD k false = listed.getD k false := fun k hk=>getD_set_ne false (fun e=>hk e.symm)
  have hself := getD_set_self hjs
  have hafter : ∀ i,inAfter o i = true → listed.getD i false = true := by
   intro i hi
   unfold inAfter at hi
   rw [Array.any_eq_true'] at hi
   obtain ⟨e,he,h2⟩ := hi
   simp only [Bool.and_eq_true,beq_iff_eq] at h2
   rw [← h2.2];exact hedges e he h2.1
  have hafter2 : ∀ (k i : Nat) (ok : Oper),ops[k]? = some ok → listed.getD k false = true → inAfter ok i = true → listed.getD i false = true := by
   intro k i ok hk hl hi
   unfold inAfter at hi
   rw [Array.any_eq_true'] at hi
   obtain ⟨e,he,h2⟩ := hi
   simp only [Bool.and_eq_true,beq_iff_eq] at h2
   rw [← h2.2];exact hcl k ok (by simpa using hk) hl e he h2.1
  have upd : ∀ {S' : SS} {μ' : List Value} {Hc' : List AObj} {u : Value} {w' : World},HD ops B hs (listed.setIfInBounds j true) Hc' → Rel w' S' μ' Hc' → Step Hc.length w S μ Hc w' S' μ' Hc' → Hc.length ≤ Hc'.length → (∀ d,o.dst = some d → rep S' μ' (vs.getD j .nil) u) →
    JT n N ops B hs T (envs T ops vs) w0 S0 μ0 (listed.setIfInBounds j true) (a.put o.dst u) w' S' μ' Hc' := by
   intro S' μ' Hc' u w' hHD hr' hst' hle hrep
   have hext := hst'.toExt hJ.rel
   refine ⟨hHD,hr',hJ.step.trans (hst'.less hJ.len),Nat.le_trans hJ.len hle,?_,?_,fun t ht=>?_,fun t ht=>?_⟩
   ·cases hd : o.dst <;> simp [Act.put,hJ.size]
   ·cases hd : o.dst <;> simp [Act.put,hJ.nodef]
   ·by_cases hdt : o.dst = some t
    ·have hu := ok.dst j t o ho' hdt
     rw [get_envs_at ops vs T t j o (vs.getD j .nil) ho' (hvs j o ho') hdt fun q oq hoq e=>hu.2 q oq hoq e,hdt]
     rw [getD_put_same a t u (by rw [hJ.size];exact hu.1)]
     exact hrep t hdt
    ·have e1 : (a.put o.dst u).tmps.getD t undef = a.tmps.getD t undef := by
      cases hd : o.dst with
      |none=>rfl
      |some d=>exact getD_put_other a d t u (fun e=>hdt (by rw [hd,e]))
     rw [e1]
     refine (hJ.slot t ?_).ext hext
     rcases ht with hu|⟨k,ok',hk,hkd,hl⟩
     ·exact .inl hu
     ·have hkj : k ≠ j := by rintro rfl;rw [ho'] at hk;injection hk with hk;subst hk;exact hdt hkd
      rw [hset k hkj] at hl
      exact .inr ⟨k,ok',hk,hkd,hl⟩
   ·have hdt : o.dst ≠ some t := by
     intro e
     have := ht j o ho' e
     rw [hself] at this;cases this
    have e1 : (a.put o.dst u).tmps.getD t undef = a.tmps.getD t undef := by
     cases hd : o.dst with
     |none=>rfl
     |some d=>exact getD_put_other a d t u (fun e=>hdt (by rw [hd,e]))
    rw [e1]
    refine (hJ.start t fun k ok' hk hkd=>?_).ext hext
    have hkj : k ≠ j := by rintro rfl;rw [ho'] at hk;injection hk with hk;subst hk;exact hdt hkd
    have := ht k ok' hk hkd
    rwa [hset k hkj] at this
  let L := tmpsOf o ++ (match o.guard with|some (k,_)=>(dstAt ops k).toList|none=>[])
  have hlook : ∀ t ∈ L,rep S μ (get (envs T (ops.take j) (vs.take j)) t) (a.tmps.getD t undef) := by
   intro t ht
   have h1 := List.all_eq_true.1 hlk j (List.mem_range.2 hjl)
   rw [ho'] at h1
   have h2 := List.all_eq_true.1 h1 t ht
   rw [Bool.or_eq_true] at h2
   rcases h2 with hp|hu
   rotate_left
   ·have hun : ∀ (k : Nat) (ok' : Oper),ops[k]? = some ok' → ok'.dst = some t → inAfter ok' j = true := by
     intro k ok' hk hd
     have := List.all_eq_true.1 hu k (List.mem_range.2 (List.getElem?_eq_some_iff.1 hk).1)
     rw [hk] at this
     simpa [hd] using this
    have e : get (envs T (ops.take j) (vs.take j)) t = get T t := by
     refine get_envs_no _ _ _ _ fun o' ho2 e=>?_
     obtain ⟨k,hk⟩ := List.getElem?_of_mem ho2
     rw [List.getElem?_take] at hk
     split at hk
     ·have := hback k j o' hk (hun k o' hk e)
      omega
     ·cases hk
    rw [e]
    refine hJ.start t fun k ok' hk hd=>?_
    cases hl : listed.getD k false with
    |false=>rfl
    |true =>
     have := hafter2 k j ok' hk hl (hun k ok' hk hd)
     rw [hjf] at this;cases this
   ·rw [List.any_eq_true] at hp
    obtain ⟨⟨k,d⟩,hmem,hpd⟩ := hp
    simp only [Bool.and_eq_true,beq_iff_eq,decide_eq_true_eq] at hpd
    obtain ⟨rfl,hkj⟩ := hpd
    unfold predsOf at hmem
    rw [List.mem_filterMap] at hmem
    obtain ⟨e,hem,he⟩ := hmem
    split at he
    ·rename_i hb
     cases hk2 : (ops.toArray)[e.on]? with
     |none=>rw [hk2] at he;simp at he
     |some ok' =>
      rw [hk2] at he
      simp only [Option.bind_some] at he
      cases hd : ok'.dst with
      |none=>rw [hd] at he;simp at he
      |some d' =>
       rw [hd] at he
       simp only [Option.map_some,Option.some.injEq,Prod.mk.injEq] at he
       obtain ⟨rfl,rfl⟩ := he
       rw [hE j d' (.inr ⟨e.on,ok',hkj,hget _ _ hk2,hd⟩)]
       exact hJ.slot d' (.inr ⟨e.on,ok',hget _ _ hk2,hd,hedges e (by simpa using hem) hb⟩)
    ·cases he
  let Tj : Tm := L.map fun t=>(t,get (envs T (ops.take j) (vs.take j)) t)
  have hTj : ∀ (L : List Nat) (E : Tm) (i : Nat),(i ∈ L → get (L.map fun t=>(t,get E t)) i = get E i) ∧ (i ∉ L → get (L.map fun t=>(t,get E t)) i = .nil) := by
   intro L E i
   induction L with
   |nil=>exact ⟨fun h=>(by cases h),fun _=>rfl⟩
   |cons t L ih =>
    simp only [List.map_cons,get]
    refine ⟨fun h=>?_,fun h=>?_⟩
    ·split
     ·rename_i e;rw [e]
     ·rename_i e;exact ih.1 ((List.mem_cons.1 h).resolve_left fun q=>e q.symm)
    ·rw [if_neg fun e=>h (List.mem_cons.2 (.inl e.symm))]
     exact ih.2 fun q=>h (List.mem_cons_of_mem _ q)
  have hfrj : Fr S μ N Tj a := by
   refine ⟨hJ.size,hJ.nodef,fun i=>?_⟩
   by_cases hi : i ∈ L
   ·show rep S μ (get (L.map fun t=>(t,get _ t)) i) _
    rw [(hTj L _ i).1 hi]
    exact hlook i hi
   ·show rep S μ (get (L.map fun t=>(t,get _ t)) i) _
    rw [(hTj L _ i).2 hi];trivial
  have hGj := hG.ext hJ.step.still
  have hagree : AgreeOn (envs T (ops.take j) (vs.take j)) Tj o := fun t ht=>((hTj L _ t).1 (List.mem_append_left _ ht)).symm
  have hfact := hfacts j o (vs.getD j .nil) ho' (hvs j o ho')
  unfold posFact at hfact
  split at hfact
  ·
   rename_i t hop
   obtain ⟨hg,c,hz,hv,hk⟩ := hfact
   have ha : isAlloc o.op = true := by rw [hop];rfl
   have hB := hallocB j o ho' ha
   have hnos : ∀ (k : Nat) (ok' : Oper),ops[k]? = some ok' → isStore ok'.op = true → listed.getD k false = false := by
    intro k ok' hk' hs'
    cases hl : listed.getD k false with
    |false=>rfl
    |true =>
     have hne : j ≠ k := by rintro rfl;rw [hl] at hjf;cases hjf
     have := hafter2 k j ok' hk' hl (ok.store k ok' hk' hs' j o ho' hne (hareg ha).1 (.inl (hareg ha).2))
     rw [hjf] at this;cases this
   have hHc : Hc = B := by
    rcases hJ.hd with ⟨k,ok',hk',hs',hl,_⟩|⟨_,⟨k,ok',hk',ha',hl,_⟩|⟨_,e⟩⟩
    ·rw [hnos k ok' hk' hs'] at hl;cases hl
    ·have := ok.alloc k j ok' o hk' ha' ho' ha
     subst this;rw [hjf] at hl;cases hl
    ·exact e
   have hwp := op_alloc (P := P) (o := o) (a := a) (K := fun d H'=>d = vs.getD j .nil ∧ H' = hs (j + 1)) (Q := fun e a' w'=>e = .normal ∧ ∃ S μ Hc,JT n N ops B hs T (envs T ops vs) w0 S0 μ0 (listed.setIfInBounds j true) a' w' S μ Hc) hJ.rel hop hz ⟨by rw [hv,hHc,hB],by rw [hk,hHc,hB]⟩
   unfold Leads wpList
   rw [if_pos (by simp [Region.wanted,hg])]
   refine .inl (_root_.Go.Proofs.YtoeajbhlkccekaaDoor.Oper.wp_next hwp ?_)
   rintro a' w' ⟨d,u,H',S',μ',⟨rfl,rfl⟩,rfl,hrep,hr',hst',_⟩
   refine ⟨rfl,S',μ',_,upd (.inr ⟨fun k ok' hk' hs'=>?_, .inl ⟨j,o,ho',ha,hself,rfl⟩⟩) hr' hst' (by rw [hk,hB,hHc];simp) fun _ _=>hrep⟩
   have hkj : k ≠ j := by
    rintro rfl
    rw [ho'] at hk';injection hk' with hk';subst hk'
    rw [(hareg ha).2] at hs';cases hs'
   rw [hset k hkj];exact hnos k ok' hk' hs'
  ·
   rename_i t x y hop
   obtain ⟨hg,hd,hst⟩ := hfact
   have hS : isStore o.op = true := by rw [hop];rfl
   have hlow : ∀ (i : Nat) (oi : Oper),ops[i]? = some oi → i ≠ j → regOnly oi.op = false → (isStore oi.op = false ∨ i < j) → listed.getD i false = true ∧ i < j := fun i oi hoi hne hr hq=>by
    have := ok.store j o ho' hS i oi hoi hne hr hq
    exact ⟨hafter i this,hback j i o ho' this⟩
   have hHc : Hc = hs j := by
    rcases hJ.hd with ⟨k,ok',hk',hs',hl,hmax,e⟩|⟨hnos,⟨k,ok',hk',ha',hl,e⟩|⟨hnoa,e⟩⟩
    ·have hkj : k ≠ j := by rintro rfl;rw [hl] at hjf;cases hjf
     have hlt : k < j := by
      rcases Nat.lt_or_ge k j with q|q
      ·exact q
      ·have := hafter2 k j ok' hk' hl (ok.store k ok' hk' hs' j o ho' (fun e=>hkj e.symm) (hsreg hS).1 (.inr (by omega)))
       rw [hjf] at this;cases this
     rw [e]
     refine (hsc' (k + 1) j (by omega) (by omega) fun i oi h1 h2 hoi=>⟨?_,?_⟩).symm
     ·cases hai : isAlloc oi.op with
      |false=>rfl
      |true =>
       have := hback k i ok' hk' (ok.store k ok' hk' hs' i oi hoi (by omega) (hareg hai).1 (.inl (hareg hai).2))
       omega
     ·cases hsi : isStore oi.op with
      |false=>rfl
      |true =>
       have := hmax i oi hoi hsi (hlow i oi hoi (by omega) (hsreg hsi).1 (.inr h2)).1
       omega
    ·have hkj : k ≠ j := by rintro rfl;rw [ho'] at hk';injection hk' with hk';subst hk';rw [(hareg ha').2] at hS;cases hS
     have hlt := (hlow k ok' hk' hkj (hareg ha').1 (.inl (hareg ha').2)).2
     rw [e]
     refine (hsc' (k + 1) j (by omega) (by omega) fun i oi h1 h2 hoi=>⟨?_,?_⟩).symm
     ·cases hai : isAlloc oi.op with
      |false=>rfl
      |true=>have := ok.alloc k i ok' oi hk' ha' hoi hai;omega
     ·cases hsi : isStore oi.op with
      |false=>rfl
      |true =>
       have := (hlow i oi hoi (by omega) (hsreg hsi).1 (.inr h2)).1
       rw [hnos i oi hoi hsi] at this;cases this
    ·rw [e,← hs0]
     refine (hsc' 0 j (Nat.zero_le _) (by omega) fun i oi h1 h2 hoi=>⟨?_,?_⟩).symm
     ·cases hai : isAlloc oi.op with
      |false=>rfl
      |true =>
       have := (hlow i oi hoi (by omega) (hareg hai).1 (.inl (hareg hai).2)).1
       rw [hnoa i oi hoi hai] at this;cases this
     ·cases hsi : isStore oi.op with
      |false=>rfl
      |true =>
       have := (hlow i oi hoi (by omega) (hsreg hsi).1 (.inr h2)).1
       rw [hnos i oi hoi hsi] at this;cases this
   have hx : rep S μ (ev G (envs T (ops.take j) (vs.take j)) x) (a.eval x) := by
    rw [ev_agree hagree (by rw [hop];simp [Op.operands])];exact hfrj.ev hGj x
   have hy : rep S μ (ev G (envs T (ops.take j) (vs.take j)) y) (a.eval y) := by
    rw [ev_agree hagree (by rw [hop];simp [Op.operands])];exact hfrj.ev hGj y
   rw [← hHc] at hst
   have hwp := op_store (P := P) (o := o) (a := a) (K := fun d H'=>H' = hs (j + 1)) (Q := fun e a' w'=>e = .normal ∧ ∃ S μ Hc,JT n N ops B hs T (envs T ops vs) w0 S0 μ0 (listed.setIfInBounds j true) a' w' S μ Hc) hJ.rel hop hx hy hst
   have hlen : Hc.length ≤ (hs (j + 1)).length := by
    unfold aStore at hst
    split at hst
    ·obtain ⟨ob,_,h9⟩ := hst
     obtain ⟨ob',_,e⟩ := putP_det h9
     rw [← e];simp
    ·exact hst.elim
   unfold Leads wpList
   rw [if_pos (by simp [Region.wanted,hg])]
   refine .inl (_root_.Go.Proofs.YtoeajbhlkccekaaDoor.Oper.wp_next hwp ?_)
   rintro a' w' ⟨d,u,H',S',μ',rfl,rfl,hrep,hr',hst',_⟩
   refine ⟨rfl,S',μ',_,upd (.inl ⟨j,o,ho',hS,hself,fun k' ok' hk' hs' hl'=>?_,rfl⟩) hr' hst' hlen fun d' hd'=>by rw [hd] at hd';cases hd'⟩
   rcases Nat.lt_or_ge j k' with q|q
   ·exfalso
    have hkj : k' ≠ j := by omega
    rw [hset k' hkj] at hl'
    have := hafter2 k' j ok' hk' hl' (ok.store k' ok' hk' hs' j o ho' (fun e=>hkj e.symm) (hsreg hS).1 (.inr q))
    rw [hjf] at this;cases this
   ·exact q
  ·
   rename_i hna hns
   have hqa : isAlloc o.op = false := by cases h : o.op <;> first|rfl|exact absurd h (hna _)
   have hqs : isStore o.op = false := by cases h : o.op <;> first|rfl|exact absurd h (hns _ _ _)
   have hHDq : HD ops B hs (listed.setIfInBounds j true) Hc := by
    have f : ∀ (k : Nat) (ok' : Oper),ops[k]? = some ok' → (isStore ok'.op = true ∨ isAlloc ok'.op = true) → (listed.setIfInBounds j true).getD k false = listed.getD k false := by
     intro k ok' hk' hq
     refine hset k ?_
     rintro rfl
     rw [ho'] at hk';injection hk' with hk';subst hk'
     rcases hq with q|q
     ·rw [hqs] at q;cases q
     ·rw [hqa] at q;cases q
    rcases hJ.hd with ⟨k,ok',hk',hs',hl,hmax,e⟩|⟨hnos,⟨k,ok',hk',ha',hl,e⟩|⟨hnoa,e⟩⟩
    ·exact .inl ⟨k,ok',hk',hs',by rw [f k ok' hk' (.inl hs')];exact hl,fun k2 o2 h1 h2 h3=>hmax k2 o2 h1 h2 (by rw [← f k2 o2 h1 (.inl h2)];exact h3),e⟩
    ·exact .inr ⟨fun k2 o2 h1 h2=>by rw [f k2 o2 h1 (.inl h2)];exact hnos k2 o2 h1 h2, .inl ⟨k,ok',hk',ha',by rw [f k ok' hk' (.inr ha')];exact hl,e⟩⟩
    ·exact .inr ⟨fun k2 o2 h1 h2=>by rw [f k2 o2 h1 (.inl h2)];exact hnos k2 o2 h1 h2, .inr ⟨fun k2 o2 h1 h2=>by rw [f k2 o2 h1 (.inr h2)];exact hnoa k2 o2 h1 h2,e⟩⟩
   have hdo : ∀ (hw : Region.wanted o (yielded ops.toArray a.tmps) = true),stepD P G o ⟨Hc,envs T (ops.take j) (vs.take j)⟩ (· = vs.getD j .nil) → Leads P ops.toArray o a w (fun a' w'=>∃ S μ Hc,JT n N ops B hs T (envs T ops vs) w0 S0 μ0 (listed.setIfInBounds j true) a' w' S μ Hc) := by
    intro hw hst
    have hst' := stepD_agree hagree hst
    unfold Leads wpList
    rw [if_pos hw]
    refine .inl ?_
    unfold stepD at hst'
    split at hst'
    ·rename_i f args ts hop
     obtain ⟨X,hX,hargs,hXv⟩ := hst'
     subst hXv
     unfold Oper.wp
     rw [run_callIs hX.1 hop rfl]
     have hc := acp_calls hX hargs hJ.rel hGj (vs := args.toList.map a.eval) (by rw [List.length_map,List.length_map,List.length_map]) (fun i d v hd hv=>by
      rw [List.getElem?_map,List.getElem?_map] at hd
      rw [List.getElem?_map] at hv
      cases hx : args.toList[i]? with
      |none=>rw [hx] at hd;cases hd
      |some x =>
       rw [hx] at hd hv
       simp only [Option.map_some,Option.some.injEq] at hd hv
       subst hd hv
       exact (hfrj.ev hGj x).toRo hJ.rel)
     have e : (args.toList.map a.eval).toArray = args.map a.eval := by rw [← Array.toList_map,Array.toArray_toList]
     rw [e] at hc
     refine hc.mono fun e w' ⟨v,S',he,hr',hrep,hst2,hbel⟩=>?_
     subst he
     exact ⟨rfl,S',μ,Hc,upd hHDq hr' hst2 (Nat.le_refl _) fun _ _=>hrep⟩
    ·obtain ⟨hq,hst'⟩ := hst'
     have hpost := stepOp_wp hst' hJ.rel hfrj hGj (fun e a' w'=>e = .normal ∧ ∃ S μ Hc,JT n N ops B hs T (envs T ops vs) w0 S0 μ0 (listed.setIfInBounds j true) a' w' S μ Hc)
     refine _root_.Go.Proofs.YtoeajbhlkccekaaDoor.Oper.wp_next hpost ?_
     rintro a' w' ⟨d,u,H',S',μ',⟨rfl,rfl⟩,rfl,hrep,hr',hst2,_⟩
     exact ⟨rfl,S',μ',_,upd hHDq hr' hst2 (Nat.le_refl _) fun _ _=>hrep⟩
   obtain ⟨hk,hfact⟩ := hfact
   rcases hfact with ⟨hfact,hjB⟩|⟨hg,hr,hst⟩
   ·
    have hlift : stepD P G o ⟨hs j,envs T (ops.take j) (vs.take j)⟩ (· = vs.getD j .nil) → stepD P G o ⟨Hc,envs T (ops.take j) (vs.take j)⟩ (· = vs.getD j .nil) := by
     intro hst
     by_cases hr : regOnly o.op = true
     ·exact stepD_reg hr hst
     have hr' : regOnly o.op = false := by simpa using hr
     have hnos : ∀ (k : Nat) (ok' : Oper),ops[k]? = some ok' → isStore ok'.op = true → listed.getD k false = false := by
      intro k ok' hk' hs'
      cases hl : listed.getD k false with
      |false=>rfl
      |true =>
       have hne : j ≠ k := by rintro rfl;rw [hl] at hjf;cases hjf
       have := hafter2 k j ok' hk' hl (ok.store k ok' hk' hs' j o ho' hne hr' (.inl hqs))
       rw [hjf] at this;cases this
     rcases hJ.hd with ⟨k,ok',hk',hs',hl,_⟩|⟨_,⟨k,ok',hk',ha',hl,e⟩|⟨_,e⟩⟩
     ·rw [hnos k ok' hk' hs'] at hl;cases hl
     ·have hf := hfacts k ok' (vs.getD k .nil) hk' (hvs k ok' hk')
      unfold posFact at hf
      split at hf
      ·rename_i t hop
       obtain ⟨_,c,_,_,e2⟩ := hf
       rw [e,e2,hallocB k ok' hk' ha',← hjB]
       exact stepD_app hst
      ·rename_i t x y hop;rw [hop] at ha';cases ha'
      ·rename_i hx1 hx2
       exfalso
       cases hop : ok'.op <;> first|(rw [hop] at ha';cases ha';done)|exact hx1 _ hop
     ·rw [e,← hjB];exact hst
    unfold opFact at hfact
    split at hfact
    ·rename_i hgd
     exact hdo (by simp [Region.wanted,hgd]) (hlift hfact)
    ·rename_i k want hgd
     obtain ⟨t,ht,⟨b,hb,hyes,hno⟩|⟨⟨q,hb⟩,hno⟩⟩ := hfact
     ·have htL : t ∈ L := List.mem_append_right _ (by simp only [hgd,ht];simp)
      have hy : yielded ops.toArray a.tmps k = some b := yielded_get hfrj ht (by
       show get (L.map fun t=>(t,get _ t)) t = _
       rw [(hTj L _ t).1 htL];exact hb)
      by_cases e : b = want
      ·exact hdo (by simp [Region.wanted,hgd,hy,e]) (hlift (hyes e))
      ·unfold Leads wpList
       rw [if_neg (by simp [Region.wanted,hgd,hy,e])]
       exact ⟨rfl,S,μ,Hc,upd hHDq hJ.rel (Step.refl _ _ _ _ _) (Nat.le_refl _) fun _ _=>by rw [hno e];exact rep_ud _ _⟩
     ·have htL : t ∈ L := List.mem_append_right _ (by simp only [hgd,ht];simp)
      have hy : yielded ops.toArray a.tmps k = none := yielded_ud hfrj ht (q := q) (by
       show get (L.map fun t=>(t,get _ t)) t = _
       rw [(hTj L _ t).1 htL];exact hb)
      unfold Leads wpList
      rw [if_neg (by simp [Region.wanted,hgd,hy])]
      exact ⟨rfl,S,μ,Hc,upd hHDq hJ.rel (Step.refl _ _ _ _ _) (Nat.le_refl _) fun _ _=>by rw [hno];exact rep_ud _ _⟩
   ·exact hdo (by simp [Region.wanted,hg]) (stepD_reg hr hst)
 ·
  rintro listed a w hall ⟨S,μ,Hc,hJ⟩
  have hall' : ∀ (k : Nat) (o : Oper),ops[k]? = some o → listed.getD k false = true := fun k o ho=>hall k (by simpa using (List.getElem?_eq_some_iff.1 ho).1)
  have hHc : Hc = hs ops.length := by
   rcases hJ.hd with ⟨k,ok',hk',hs',hl,hmax,e⟩|⟨hnos,⟨k,ok',hk',ha',hl,e⟩|⟨hnoa,e⟩⟩
   ·rw [e]
    refine (hsc' (k + 1) ops.length (by have := (List.getElem?_eq_some_iff.1 hk').1;omega) (Nat.le_refl _) fun i oi h1 h2 hoi=>⟨?_,?_⟩).symm
    ·cases hai : isAlloc oi.op with
     |false=>rfl
     |true =>
      have := hback k i ok' hk' (ok.store k ok' hk' hs' i oi hoi (by omega) (hareg hai).1 (.inl (hareg hai).2))
      omega
    ·cases hsi : isStore oi.op with
     |false=>rfl
     |true=>have := hmax i oi hoi hsi (hall' i oi hoi);omega
   ·rw [e]
    refine (hsc' (k + 1) ops.length (by have := (List.getElem?_eq_some_iff.1 hk').1;omega) (Nat.le_refl _) fun i oi h1 h2 hoi=>⟨?_,?_⟩).symm
    ·cases hai : isAlloc oi.op with
     |false=>rfl
     |true=>have := ok.alloc k i ok' oi hk' ha' hoi hai;omega
    ·cases hsi : isStore oi.op with
     |false=>rfl
     |true=>have := hnos i oi hoi hsi;rw [hall' i oi hoi] at this;cases this
   ·rw [e,← hs0]
    refine (hsc' 0 ops.length (Nat.zero_le _) (Nat.le_refl _) fun i oi h1 h2 hoi=>⟨?_,?_⟩).symm
    ·cases hai : isAlloc oi.op with
     |false=>rfl
     |true=>have := hnoa i oi hoi hai;rw [hall' i oi hoi] at this;cases this
    ·cases hsi : isStore oi.op with
     |false=>rfl
     |true=>have := hnos i oi hoi hsi;rw [hall' i oi hoi] at this;cases this
  subst hHc
  refine ⟨⟨hs ops.length,envs T ops vs⟩,S,μ,hend,hJ.rel,⟨hJ.size,hJ.nodef,fun i=>hJ.slot i ?_⟩,hJ.step⟩
  by_cases hi : ∃ (k : Nat) (o : Oper),ops[k]? = some o ∧ o.dst = some i
  ·obtain ⟨k,o,ho,hd⟩ := hi
   exact .inr ⟨k,o,ho,hd,hall' k o ho⟩
  ·refine .inl fun o ho e=>?_
   obtain ⟨k,hk⟩ := List.getElem?_of_mem ho
   exact hi ⟨k,o,hk,e⟩
 ·
  intro listed hl
  obtain ⟨r,st⟩ := hrel.grow (w' := w0.drew) ((Below.refl _ _).drew) (fun _ _ _ q=>q) (fun _ _ _ q=>.inl q) (fun b j d q hb=>by have := hrel.still_lt q;omega)
  refine ⟨S0,μ0,B, .inr ⟨fun k o _ _=>hl k, .inr ⟨fun k o _ _=>hl k,rfl⟩⟩,r,st.less hn,hn,hfr.size,hfr.nodef,fun t ht=>?_,fun t _=>hfr.slot t⟩
  rcases ht with hu|⟨k,o,_,_,h⟩
  ·rw [get_envs_no _ _ _ _ hu];exact hfr.slot t
  ·rw [hl k] at h;cases h
end
end Go.Proofs.YtoeajbhlkccekaaDoor

namespace Go.Proofs.YtoeajbhlkccekaaDoor
open Go.RowKit
section
variable {P : Program} {G : Gl} {N : FS} {n : Nat} {s s' : ASt} {H H' : List AObj} {T : Tm} {K : ASt → Prop} {K1 : AV → Prop} {K2 : AV → List AObj → Prop} {ops l r : List Oper} {dst : Option Tmp} {op : Op} {ty : TypeId} {pos : String} {af : Array Edge} {gd : Option (Nat × Bool)} {x y z : AV} {t t' : TypeId} {b : Bool}
variable {Q : Exit → ASt → Prop} {id : Nat} {c d e : Code}
theorem wx (hm : P.follows .mixedOrders = true) (hsh : backShape ops.toArray = true) (hok : tailOK ops 0 N = true) (hlk : looksT ops = true) (hn : n ≤ s.H.length) (h : drawX P G ops false ops s fun s=>AWp P G N n d Q s) :
 AWp P G N n (.seq (.region id ops.toArray true) d) Q s := awp_seq (awp_drawT hm hsh hok hlk hn h)
theorem wx1 (hm : P.follows .mixedOrders = true) (hsh : backShape ops.toArray = true) (hok : tailOK ops 0 N = true) (hlk : looksT ops = true) (hn : n ≤ s.H.length) (h : drawX P G ops false ops s fun s=>Q .normal s) :
 AWp P G N n (.region id ops.toArray true) Q s := awp_drawT hm hsh hok hlk hn h
def okX (b : Bool) (op : Op) : Prop := b = true → regOnly op = true
theorem okX_f : okX false op = True := by simp [okX]
theorem okX_t : okX true op = (regOnly op = true) := by simp [okX]
def tells : Op → Bool|.alloc _=>false|.store ..=>false|_=>true
def drawO (P : Program) (G : Gl) (ops : List Oper) (b : Bool) (o : Oper) (r : List Oper) (s : ASt) (K : ASt → Prop) : Prop := stepD P G o s fun d=>drawX P G ops b r (s.set s.H o.dst d) K
theorem dx_cons (hq : tells op = true) : drawX P G ops b (⟨dst,op,ty,pos,af,none⟩ :: r) s K = (okX b op ∧ drawO P G ops b ⟨dst,op,ty,pos,af,none⟩ r s K) := by
 cases op <;> first|(simp only [drawX,okX,true_and];rfl)|cases hq
theorem dx_guard {j : Nat} {w : Bool} (hq : tells op = true) (hb : b = false) : drawX P G ops b (⟨dst,op,ty,pos,af,some (j,w)⟩ :: r) s K = guardO (dstAt ops j) s.T w (drawO P G ops b ⟨dst,op,ty,pos,af,some (j,w)⟩ r s K) (drawX P G ops b r (s.set s.H dst UD) K) := by
 subst hb
 cases op <;> first|cases hq|skip
 all_goals
  simp only [drawX,Bool.false_eq_true,false_implies,true_and,guardO,drawO]
  try (cases dstAt ops j <;> rfl)
theorem dx_alloc : drawX P G ops b (⟨dst, .alloc t,ty,pos,af,none⟩ :: r) s K = allocA (zeroC P t) t s.H fun d H'=>drawX P G ops true r (s.set H' dst d) K := by
 rw [show drawX P G ops b (⟨dst, .alloc t,ty,pos,af,none⟩ :: r) s K = ((none : Option (Nat × Bool)) = none ∧ ∃ c,zeroC P t = some c ∧ drawX P G ops true r (s.set (s.H ++ [⟨1,t,0,c⟩]) dst (OP s.H.length 0)) K) from rfl]
 rw [eq_iff_iff]
 refine ⟨fun ⟨_,c,h1,h2⟩=>by rw [h1];exact h2,fun h=>⟨rfl,?_⟩⟩
 unfold allocA at h
 split at h
 ·rename_i c hc;exact ⟨c,hc,h⟩
 ·exact h.elim
theorem dx_store {a c : Operand} : drawX P G ops b (⟨none, .store t a c,ty,pos,af,none⟩ :: r) s K = aStore (kindT P t) s.H (ev G s.T a) (ev G s.T c) fun H'=>drawX P G ops true r ⟨H',s.T⟩ K := by
 rw [show drawX P G ops b (⟨none, .store t a c,ty,pos,af,none⟩ :: r) s K = ((none : Option (Nat × Bool)) = none ∧ (none : Option Tmp) = none ∧ aStore (kindT P t) s.H (ev G s.T a) (ev G s.T c) fun H'=>drawX P G ops true r ⟨H',s.T⟩ K) from rfl]
 rw [eq_iff_iff]
 exact ⟨fun h=>h.2.2,fun h=>⟨rfl,rfl,h⟩⟩
theorem xo_move {a : Operand} : drawO P G ops b ⟨dst, .move a,ty,pos,af,gd⟩ r s K = drawX P G ops b r (s.set s.H dst (ev G s.T a)) K := by simp [drawO,stepD,loud,stepOp]
theorem xo_assign {a : Operand} : drawO P G ops b ⟨dst, .assign a,ty,pos,af,gd⟩ r s K = drawX P G ops b r (s.set s.H dst (ev G s.T a)) K := by simp [drawO,stepD,loud,stepOp]
theorem xo_pick {a c d : Operand} : drawO P G ops b ⟨dst, .pick a c d,ty,pos,af,gd⟩ r s K = aPick (ev G s.T a) (ev G s.T c) (ev G s.T d) fun v=>drawX P G ops b r (s.set s.H dst v) K := by simp [drawO,stepD,loud,stepOp]
theorem xo_bin {o : BinOp} {a c : Operand} : drawO P G ops b ⟨dst, .binOp o t a c t',ty,pos,af,gd⟩ r s K = aBin P t o (ev G s.T a) (ev G s.T c) fun v=>drawX P G ops b r (s.set s.H dst v) K := by simp [drawO,stepD,loud,stepOp]
theorem xo_un {o : UnOp} {a : Operand} : drawO P G ops b ⟨dst, .unOp o t a,ty,pos,af,gd⟩ r s K = aUn o (ev G s.T a) fun v=>drawX P G ops b r (s.set s.H dst v) K := by simp [drawO,stepD,loud,stepOp]
theorem xo_build {ps : Array (Nat × Operand)} : drawO P G ops b ⟨dst, .build t ps,ty,pos,af,gd⟩ r s K = aBuild P t (ps.toList.map fun p=>(p.1,ev G s.T p.2)) fun v=>drawX P G ops b r (s.set s.H dst v) K := by simp [drawO,stepD,loud,stepOp]
theorem xo_buildSlice {m : Nat} {ps : Array (Nat × Operand)} : drawO P G ops b ⟨dst, .buildSlice t m ps,ty,pos,af,gd⟩ r s K = aBuildS P t m (ps.toList.map fun p=>(p.1,ev G s.T p.2)) fun v=>drawX P G ops b r (s.set s.H dst v) K := by simp [drawO,stepD,loud,stepOp]
theorem xo_load {a : Operand} : drawO P G ops b ⟨dst, .load t a,ty,pos,af,gd⟩ r s K = aLoad (kindT P t) s.H (ev G s.T a) fun v=>drawX P G ops b r (s.set s.H dst v) K := by simp [drawO,stepD,loud,stepOp]
theorem xo_nilCheck {a : Operand} : drawO P G ops b ⟨dst, .nilCheck a,ty,pos,af,gd⟩ r s K = aNil (ev G s.T a) fun v=>drawX P G ops b r (s.set s.H dst v) K := by simp [drawO,stepD,loud,stepOp]
theorem xo_conv {a : Operand} : drawO P G ops b ⟨dst, .convert t t' a,ty,pos,af,gd⟩ r s K = aConv P t t' (ro s.H (ev G s.T a)) fun v=>drawX P G ops b r (s.set s.H dst v) K := by simp [drawO,stepD,loud,stepOp]
theorem xo_extract {a : Operand} {i : Nat} : drawO P G ops b ⟨dst, .extract a i,ty,pos,af,gd⟩ r s K = aExtract (ev G s.T a) i fun v=>drawX P G ops b r (s.set s.H dst v) K := by simp [drawO,stepD,loud,stepOp]
theorem xo_fieldAddr {a : Operand} {i : Nat} : drawO P G ops b ⟨dst, .fieldAddr t a i,ty,pos,af,gd⟩ r s K = aField (fieldT P t i) (ev G s.T a) fun v=>drawX P G ops b r (s.set s.H dst v) K := by simp [drawO,stepD,loud,stepOp]
theorem xo_field {a : Operand} {i : Nat} : drawO P G ops b ⟨dst, .field t a i,ty,pos,af,gd⟩ r s K = aFieldV (fieldT P t i) (ev G s.T a) fun v=>drawX P G ops b r (s.set s.H dst v) K := by simp [drawO,stepD,loud,stepOp]
theorem xo_indexAddr {a c : Operand} : drawO P G ops b ⟨dst, .indexAddr t a c,ty,pos,af,gd⟩ r s K = aIndexA P t s.H (ev G s.T a) (ev G s.T c) fun v=>drawX P G ops b r (s.set s.H dst v) K := by simp [drawO,stepD,loud,stepOp]
theorem xo_index {a c : Operand} : drawO P G ops b ⟨dst, .index t a c,ty,pos,af,gd⟩ r s K = aIndexV P t (ev G s.T a) (ev G s.T c) fun v=>drawX P G ops b r (s.set s.H dst v) K := by simp [drawO,stepD,loud,stepOp]
theorem xo_slice {a : Operand} {lo hi : Option Operand} : drawO P G ops b ⟨dst, .slice t a lo hi none,ty,pos,af,gd⟩ r s K = aSlice P t s.H (ev G s.T a) (lo.map (ev G s.T)) (hi.map (ev G s.T)) fun v=>drawX P G ops b r (s.set s.H dst v) K := by simp [drawO,stepD,loud,stepOp]
theorem xo_call {f : FuncId} {ags : Array Operand} {ts : Array TypeId} : drawO P G ops b ⟨dst, .call { callee := .value (.func f),args := ags,argTypes := ts },ty,pos,af,gd⟩ r s K = callD P G f ((ags.toList.map (ev G s.T)).map (ro s.H)) fun v=>drawX P G ops b r (s.set s.H dst v) K := _root_.id rfl
theorem xo_len {a : Operand} : drawO P G ops b ⟨dst, .call { callee := .builtin .len,args := #[a],argTypes := #[t] },ty,pos,af,gd⟩ r s K = aLen P t s.H (ev G s.T a) fun v=>drawX P G ops b r (s.set s.H dst v) K := by simp [drawO,stepD,loud,stepOp]
theorem call_d {f : FuncId} {args : List AV} {X : AV} (h : ACp P G f args X) (ha : args.all (ltT 0) = true) (k : K1 X) : callD P G f args K1 := ⟨X,h,ha,k⟩
theorem cv_cl {f : FuncId} {k : Nat} {caps ags : List AV} : aCallV P G (CL (.func f) k caps) ags H K2 = AC P G f ((caps.take k ++ ags ++ caps.drop k).map (ro H)) H K2 := _root_.id rfl
theorem cap0_V {v : Value} : cap0 (V v) = true := _root_.id rfl
theorem cap0_OP {i o : Nat} : cap0 (OP i o) = true := _root_.id rfl
theorem cap0_ptr : cap0 (.ptr x) = true := _root_.id rfl
def ixA (st : Option (TypeId × Nat)) (at_ : Option (Nat × Nat)) (H : List AObj) (x ix : AV) (K : AV → Prop) : Prop :=
 match st with
 |some (_,ek)=>aIndexS ek H x ix K
 |none=>match at_ with
  |some (n,ek)=>match ix with
   |.held (.inl (.int _ i))=>0 ≤ i ∧ i < n ∧ (match x with
    |.ptr (.agg cs)=>ofCells ek cs (i.toNat * szOf ek) fun d=>K (.ptr d)
    |.held (.inr (.inl (j,q)))=>K (OP j (q + i.toNat * szOf ek))
    |_=>False)
   |_=>False
  |none=>False
theorem ixA_eq : aIndexA P t H x y K1 = ixA (sliceT P t) (arrayT P t) H x y K1 := _root_.id rfl
theorem ixA_s {e : TypeId} {k : Nat} {f : Option (Nat × Nat)} : ixA (some (e,k)) f H x y K1 = aIndexS k H x y K1 := _root_.id rfl
theorem ixA_p {m k : Nat} {k' : IntKind} {i : Int} {cs : List AV} : ixA none (some (m,k)) H (.ptr (.agg cs)) (V (.int k' i)) K1 = (0 ≤ i ∧ i < m ∧ ofCells k cs (i.toNat * szOf k) fun d=>K1 (.ptr d)) := _root_.id rfl
theorem ixA_o {m k j q : Nat} {k' : IntKind} {i : Int} : ixA none (some (m,k)) H (OP j q) (V (.int k' i)) K1 = (0 ≤ i ∧ i < m ∧ K1 (OP j (q + i.toNat * szOf k))) := _root_.id rfl
theorem szOf_one : szOf 1 = 1 := _root_.id rfl
theorem szOf_two {k : Nat} : szOf (k + 2) = k := by simp [szOf]
theorem ixV_str {k : IntKind} {i : Int} {q : ByteArray} : aIndexV P t (V (.string q)) (V (.int k i)) K1 = (P.underlying t = some .string ∧ 0 ≤ i ∧ i < q.size ∧ K1 (V (.int .u8 ((q.data.toList.getD i.toNat 0).toNat : Int)))) := _root_.id rfl
def ixW (at_ : Option (Nat × Nat)) (i : Int) (cs : List AV) (K : AV → Prop) : Prop := match at_ with
 |some (n,ek)=>0 ≤ i ∧ i < n ∧ ofCells ek cs (i.toNat * szOf ek) K
 |none=>False
theorem ixV_agg {k : IntKind} {i : Int} {cs : List AV} : aIndexV P t (.agg cs) (V (.int k i)) K1 = ixW (arrayT P t) i cs K1 := _root_.id rfl
theorem ixW_some {m k : Nat} {i : Int} {cs : List AV} : ixW (some (m,k)) i cs K1 = (0 ≤ i ∧ i < m ∧ ofCells k cs (i.toNat * szOf k) K1) := _root_.id rfl
def slE (st : Option (TypeId × Nat)) (H : List AObj) (x : AV) (lo hi : Option AV) (K : AV → Prop) : Prop := match st with
 |some (_,ek)=>elemsOf H x fun es=>allC (szOf ek) es ∧ asI lo 0 fun l=>asI hi es.length fun h=>0 ≤ l ∧ l ≤ h ∧ h ≤ es.length ∧ K (SL (cutE es l h))
 |none=>False
theorem sl_es {es : List AV} {lo hi : Option AV} : aSlice P t H (.slice es []) lo hi K1 = slE (sliceT P t) H (.slice es []) lo hi K1 := _root_.id rfl
theorem sl_row {i m : Nat} {lo hi : Option AV} : aSlice P t H (OW i m) lo hi K1 = slE (sliceT P t) H (OW i m) lo hi K1 := _root_.id rfl
theorem sl_nil {lo hi : Option AV} : aSlice P t H (V (.slice none 0 0)) lo hi K1 = slE (sliceT P t) H (V (.slice none 0 0)) lo hi K1 := _root_.id rfl
theorem sl_str {q : ByteArray} {lo hi : Option AV} : aSlice P t H (V (.string q)) lo hi K1 = (P.underlying t = some .string ∧ asI lo 0 fun l=>asI hi q.size fun h=>0 ≤ l ∧ l ≤ h ∧ h ≤ q.size ∧ K1 (V (.string (q.extract l.toNat h.toNat)))) := _root_.id rfl
theorem slE_some {e : TypeId} {k : Nat} {lo hi : Option AV} : slE (some (e,k)) H x lo hi K1 = elemsOf H x fun es=>allC (szOf k) es ∧ asI lo 0 fun l=>asI hi es.length fun h=>0 ≤ l ∧ l ≤ h ∧ h ≤ es.length ∧ K1 (SL (cutE es l h)) := _root_.id rfl
def apE (at_ : Option (TypeId × Nat)) (H : List AObj) (x y : AV) (K : AV → List AObj → Prop) : Prop := match at_ with
 |some (e,z)=>elemsOf H y fun es=>allC z es ∧ (match x with
  |.held (.inl (.slice none 0 0))=>es.length ≤ 34359738368 ∧ K (OW H.length es.length) (H ++ [⟨2,e,z,es⟩])
  |.slice _ [.held (.inl (.bool _))]=>es.length ≤ 34359738368 ∧ K (OW H.length es.length) (H ++ [⟨2,e,z,es⟩])
  |.held (.inr (.inr (i,n)))=>nthO H i fun ob=>ob.k = 2 ∧ ob.e = e ∧ ob.z = z ∧ n = ob.c.length ∧ n + es.length ≤ 34359738368 ∧ K (OW i (n + es.length)) (H.set i { ob with c := ob.c ++ es })
  |_=>False)
 |none=>False
theorem ap_eq : aApp P t H x y K2 = apE (appT P t) H x y K2 := _root_.id rfl
theorem apE_nil {e : TypeId} {m : Nat} : apE (some (e,m)) H (V (.slice none 0 0)) y K2 = elemsOf H y fun es=>allC m es ∧ es.length ≤ 34359738368 ∧ K2 (OW H.length es.length) (H ++ [⟨2,e,m,es⟩]) := _root_.id rfl
theorem apE_row {e : TypeId} {m i q : Nat} : apE (some (e,m)) H (OW i q) y K2 = elemsOf H y fun es=>allC m es ∧ nthO H i fun ob=>ob.k = 2 ∧ ob.e = e ∧ ob.z = m ∧ q = ob.c.length ∧ q + es.length ≤ 34359738368 ∧ K2 (OW i (q + es.length)) (H.set i { ob with c := ob.c ++ es }) := _root_.id rfl
def bsE (at_ : Option (TypeId × Nat)) (n : Nat) (ps : List (Nat × AV)) (K : AV → Prop) : Prop := match at_ with
 |some (_,z)=>ps.map (·.1) = List.range n ∧ allC z (ps.map (·.2)) ∧ (ps.map (·.2)).all pure1 = true ∧ n * z ≤ 16777216 ∧ K (bsV (ps.map (·.2)))
 |none=>False
theorem bs_eq {m : Nat} {ps : List (Nat × AV)} : aBuildS P t m ps K1 = bsE (appT P t) m ps K1 := _root_.id rfl
theorem bsE_one {e : TypeId} {m : Nat} : bsE (some (e,m)) 1 [(0,x)] K1 = ((cellsOf x).length = m ∧ (cellsOf x).all (fun y=>sure y && lt1 0 y) = true ∧ m ≤ 16777216 ∧ K1 (SL [x])) := by
 simp [bsE,allC,pure1,bsV]
def blE (pl : Option (List (Nat × Nat))) (z : Option (List AV)) (ps : List (Nat × AV)) (K : AV → Prop) : Prop := match pl,z with
 |some pl,some z=>(match aFill (pl[·]?) ps z with|some cs=>K (.agg cs)|none=>False)
 |_,_=>False
theorem bl_eq {ps : List (Nat × AV)} : aBuild P t ps K1 = blE (placesT P t) (zeroC P t) ps K1 := _root_.id rfl
def flE (o : Option (List AV)) (K : AV → Prop) : Prop := match o with|some cs=>K (.agg cs)|none=>False
theorem flE_some {cs : List AV} : flE (some cs) K1 = K1 (.agg cs) := _root_.id rfl
def pget (l : List (Nat × Nat)) (i : Nat) : Option (Nat × Nat) := l[i]?
theorem pget_zero {p : Nat × Nat} {l : List (Nat × Nat)} : pget (p :: l) 0 = some p := _root_.id rfl
theorem pget_succ {p : Nat × Nat} {l : List (Nat × Nat)} {i : Nat} : pget (p :: l) (i + 1) = pget l i := by simp [pget]
theorem blE_some {pl : List (Nat × Nat)} {zz : List AV} {ps : List (Nat × AV)} : blE (some pl) (some zz) ps K1 = flE (aFill (pget pl) ps zz) K1 := _root_.id rfl
theorem fil_nil {f : Nat → Option (Nat × Nat)} {cs : List AV} : aFill f [] cs = some cs := _root_.id rfl
def filB (q : Option (Nat × Nat)) (f : Nat → Option (Nat × Nat)) (d : AV) (r : List (Nat × AV)) (cs : List AV) : Option (List AV) := match q with
 |none=>none
 |some (off,size)=>if (cellsOf d).length = size ∧ off + (cellsOf d).length ≤ cs.length ∧ (cellsOf d).all sure = true then aFill f r (setCells cs off (cellsOf d)) else none
theorem fil_cons {f : Nat → Option (Nat × Nat)} {i : Nat} {ps : List (Nat × AV)} {cs : List AV} : aFill f ((i,x) :: ps) cs = filB (f i) f x ps cs := by
 unfold filB;simp only [aFill];cases f i <;> rfl
theorem filB_some {off size : Nat} {f : Nat → Option (Nat × Nat)} {ps : List (Nat × AV)} {cs : List AV} : filB (some (off,size)) f x ps cs = if (cellsOf x).length = size ∧ off + (cellsOf x).length ≤ cs.length ∧ (cellsOf x).all sure = true then aFill f ps (setCells cs off (cellsOf x)) else none := _root_.id rfl
def cvE (it : Option IntKind) (src : Prop) (i : Int) (K : AV → Prop) : Prop := src ∧ (match it with|some k=>K (V (.int k (k.wrap i)))|none=>False)
theorem cv_eq {k : IntKind} {i : Int} : aConv P t t' (V (.int k i)) K1 = cvE (intT P t') ((P.underlying t).isSome = true) i K1 := _root_.id rfl
theorem cvE_some {k : IntKind} {p : Prop} {i : Int} : cvE (some k) p i K1 = (p ∧ K1 (V (.int k (k.wrap i)))) := _root_.id rfl
theorem cv_str' {q : ByteArray} : aConv P t t' (V (.string q)) K1 = ((P.underlying t = some .string ∧ P.underlying t' = some .string ∧ K1 (V (.string q))) ∨ (P.underlying t = some .string ∧ bytT P t' = true ∧ q.size ≤ 34359738368 ∧ K1 (SL (strA q)))) := _root_.id rfl
theorem str_size {l : List UInt8} : (ByteArray.mk l.toArray).size = l.length := by simp [ByteArray.size]
theorem str_list {l : List UInt8} : (ByteArray.mk l.toArray).toList = l := by
 exact ByteArray.toList_mk l
theorem str_cut {l : List UInt8} {a c : Nat} : (ByteArray.mk l.toArray).extract a c = ⟨((l.drop a).take (c - a)).toArray⟩ := ByteArray.extract_mk l a c
theorem str_data {l : List UInt8} : (ByteArray.mk l.toArray).data.toList = l := _root_.id rfl
theorem cut_all {es : List AV} {h : Int} : cutE es 0 h = es.take h.toNat := by simp [cutE]
theorem cut_to {es : List AV} {l : Int} : cutE es l (es.length : Int) = es.drop l.toNat := by simp [cutE]
theorem s_eql {a c : ByteArray} : aStr .eql a c K1 = K1 (V (.bool (decide (a.toList = c.toList)))) := by
 have : (a.toList == c.toList) = decide (a.toList = c.toList) := by by_cases h : a.toList = c.toList <;> simp [h]
 simp [aStr,this]
theorem s_neq {a c : ByteArray} : aStr .neq a c K1 = K1 (V (.bool (decide (¬ a.toList = c.toList)))) := by
 have : (!(a.toList == c.toList)) = decide (¬ a.toList = c.toList) := by by_cases h : a.toList = c.toList <;> simp [h]
 simp only [aStr,this]
theorem s_add {a c : ByteArray} : aStr .add a c K1 = (((a.size + c.size : Nat) : Int) ≤ 9223372036854775807 ∧ K1 (V (.string (a ++ c)))) := _root_.id rfl
theorem s_lss {a c : ByteArray} : aStr .lss a c K1 = K1 (V (.bool (Op.bytesLess a.toList c.toList))) := _root_.id rfl
theorem s_geq {a c : ByteArray} : aStr .geq a c K1 = K1 (V (.bool (!Op.bytesLess a.toList c.toList))) := _root_.id rfl
theorem s_leq {a c : ByteArray} : aStr .leq a c K1 = K1 (V (.bool (Op.bytesLess a.toList c.toList || a.toList == c.toList))) := _root_.id rfl
theorem s_gtr {a c : ByteArray} : aStr .gtr a c K1 = K1 (V (.bool (!(Op.bytesLess a.toList c.toList || a.toList == c.toList)))) := _root_.id rfl
end
end Go.Proofs.YtoeajbhlkccekaaDoor

namespace Go.Proofs.YtoeajbhlkccekaaDoor
open Go.ChangeShapes Go.WideShapes Go.ChangeAt Go.RowKit
def SWn (w : World) : Nat → SS
 |0,_,_,_=>False
 |n + 1,b,j,d=>∃ u,w.cell? ⟨b,j,none⟩ = some u ∧ u.oneCell' = true ∧ rep1 (SWn w n) [] d u
def SW (w : World) : SS := fun b j d=>∃ n,SWn w n b j d
theorem extS {S S' : SS} (h : ∀ b j d,S b j d → S' b j d) : Ext S [] S' [] := ⟨h,fun i x hx=>by simp at hx⟩
theorem SWn.succ {w : World} {n : Nat} : ∀ b j d,SWn w n b j d → SWn w (n + 1) b j d := by
 induction n with
 |zero=>intro b j d h;exact h.elim
 |succ n ih =>
  rintro b j d ⟨u,h1,h2,h3⟩
  exact ⟨u,h1,h2,h3.ext (extS ih)⟩
theorem rel_SW (w : World) : Rel w (SW w) [] [] := by
 refine ⟨rfl,?_,fun i x o hx=>by simp at hx,fun i x o hx=>by simp at hx,fun i i' x x' o o' b hx=>by simp at hx,fun i x o b hx=>by simp at hx⟩
 rintro b j d ⟨n,hn⟩
 cases n with
 |zero=>exact hn.elim
 |succ n =>
  obtain ⟨u,h1,h2,h3⟩ := hn
  exact ⟨u,h1,h2,h3.ext (extS fun _ _ _ q=>⟨n,q⟩)⟩
def isA : AV → Bool|.agg _=>true|_=>false
def aggT (P : Program) (t : TypeId) : Bool := match P.underlying t with|some (.struct _)|some (.array _ _)=>true|_=>false
def ofFs (F : TypeId → List AV → Prop) : List Field → List AV → Prop
 |[],ds=>ds = []
 |f :: fs,ds=>∃ a b,ds = a ++ b ∧ F f.type a ∧ ofFs F fs b
def ofT (P : Program) : Nat → TypeId → List AV → Prop
 |0,_,_=>False
 |n + 1,t,ds=>match P.underlying t with
  |some .bool=>∃ b,ds = [V (.bool b)]
  |some (.int k)=>∃ i,ds = [V (.int k i)] ∧ k.min ≤ i ∧ i ≤ k.max
  |some .string=>∃ s : List UInt8,ds = [V (.string ⟨s.toArray⟩)] ∧ s.length ≤ maxLen
  |some (.slice e)=>∃ es,ds = [SL es] ∧ es.length ≤ maxLen ∧ ∀ x ∈ es,ofT P n e (cellsOf x) ∧ isA x = aggT P e
  |some (.struct fs)=>ofFs (ofT P n) fs.toList ds
  |some (.array k e)=>∃ ps : List (List AV),ps.length = k ∧ ds = ps.flatten ∧ ∀ p ∈ ps,ofT P n e p
  |_=>False
def tiles (P : Program) : Nat → List Field → Nat → Bool
 |o,[],tot=>o == tot
 |o,f :: fs,tot=>f.offset == o && tiles P (o + P.cellsOf f.type) fs tot
def plainT (P : Program) : Nat → TypeId → Bool
 |0,_=>false
 |n + 1,t=>match P.underlying t with
  |some .bool|some (.int _)|some .string=>true
  |some (.slice e)=>plainT P n e && decide (0 < P.cellsOf e)
  |some (.struct fs)=>tiles P 0 fs.toList (P.cellsOf t) && fs.toList.all fun f=>plainT P n f.type
  |some (.array k e)=>plainT P n e && k * P.cellsOf e == P.cellsOf t
  |_=>false
theorem reps_app {S : SS} {μ : List Value} {a b : List AV} {u v : List Value} (h : reps S μ a u) (k : reps S μ b v) : reps S μ (a ++ b) (u ++ v) := by
 refine ⟨by rw [List.length_append,List.length_append,h.1,k.1],fun j d x hd hx=>?_⟩
 by_cases hj : j < a.length
 ·rw [List.getElem?_append_left hj] at hd
  rw [List.getElem?_append_left (by rw [h.1];exact hj)] at hx
  exact h.2 j d x hd hx
 ·rw [List.getElem?_append_right (by omega)] at hd
  rw [List.getElem?_append_right (by rw [h.1];omega),h.1] at hx
  exact k.2 _ d x hd hx
theorem reps_one {S : SS} {μ : List Value} {d : AV} {u : Value} (h : u.oneCell' = true) (k : rep1 S μ d u) : reps S μ [d] [u] := by
 refine ⟨rfl,fun j x y hx hy=>?_⟩
 cases j with
 |zero=>simp at hx hy;subst hx hy;exact ⟨h,k⟩
 |succ j=>simp at hx
theorem reps_nil {S : SS} {μ : List Value} : reps S μ [] [] := ⟨rfl,fun j x y hx=>by simp at hx⟩
theorem ofT_one {P : Program} {n : Nat} {t : TypeId} {ds : List AV} (h : ofT P n t ds) (ha : aggT P t = false) : ∃ d,ds = [d] ∧ isA d = false := by
 cases n with
 |zero=>exact h.elim
 |succ n =>
  unfold ofT at h
  unfold aggT at ha
  split at h
  ·obtain ⟨b,rfl⟩ := h;exact ⟨_,rfl,rfl⟩
  ·obtain ⟨b,rfl,_⟩ := h;exact ⟨_,rfl,rfl⟩
  ·obtain ⟨b,rfl,_⟩ := h;exact ⟨_,rfl,rfl⟩
  ·obtain ⟨b,rfl,_⟩ := h;exact ⟨_,rfl,rfl⟩
  ·rename_i h2;rw [h2] at ha;simp at ha
  ·rename_i h2;rw [h2] at ha;simp at ha
  ·exact h.elim
def mkA (P : Program) (t : TypeId) (ds : List AV) : AV := if aggT P t then .agg ds else ds.headD .nil
theorem mkA_cells {P : Program} {n : Nat} {t : TypeId} {ds : List AV} (h : ofT P n t ds) : cellsOf (mkA P t ds) = ds ∧ isA (mkA P t ds) = aggT P t := by
 unfold mkA
 cases ha : aggT P t with
 |true=>exact ⟨rfl,rfl⟩
 |false =>
  obtain ⟨d,rfl,hd⟩ := ofT_one h ha
  refine ⟨?_,by simpa using hd⟩
  simp only [Bool.false_eq_true,if_false,List.headD]
  cases d <;> first|rfl|(simp [isA] at hd)
theorem ofT_str {P : Program} {n : Nat} {t : TypeId} {ds : List AV} (hu : P.underlying t = some .string) (h : ofT P n t ds) : ∃ s : List UInt8,ds = [V (.string ⟨s.toArray⟩)] ∧ s.length ≤ maxLen := by
 cases n with
 |zero=>exact h.elim
 |succ n=>unfold ofT at h;rw [hu] at h;exact h
theorem ofT_int {P : Program} {n : Nat} {t : TypeId} {ds : List AV} {k : IntKind} (hu : P.underlying t = some (.int k)) (h : ofT P n t ds) : ∃ i,ds = [V (.int k i)] ∧ k.min ≤ i ∧ i ≤ k.max := by
 cases n with
 |zero=>exact h.elim
 |succ n=>unfold ofT at h;rw [hu] at h;exact h
theorem ofT_i64 {P : Program} {n : Nat} {t : TypeId} {ds : List AV} (hu : P.underlying t = some (.int .i64)) (h : ofT P n t ds) : ∃ i,ds = [V (.int .i64 i)] ∧ -9223372036854775808 ≤ i ∧ i < 9223372036854775808 := by
 obtain ⟨i,rfl,h1,h2⟩ := ofT_int hu h
 simp [IntKind.min,IntKind.max,IntKind.signed,IntKind.bits] at h1 h2
 exact ⟨i,rfl,h1,by omega⟩
theorem ofT_slice {P : Program} {n : Nat} {t e : TypeId} {ds : List AV} (hu : P.underlying t = some (.slice e)) (h : ofT P n t ds) : ∃ (m : Nat) (es : List AV),ds = [SL es] ∧ es.length ≤ maxLen ∧ ∀ x ∈ es,ofT P m e (cellsOf x) ∧ isA x = aggT P e := by
 cases n with
 |zero=>exact h.elim
 |succ n=>unfold ofT at h;rw [hu] at h;exact ⟨n,h⟩
theorem ofT_struct {P : Program} {n : Nat} {t : TypeId} {fs : Array Field} {ds : List AV} (hu : P.underlying t = some (.struct fs)) (h : ofT P n t ds) : ∃ m,ofFs (ofT P m) fs.toList ds := by
 cases n with
 |zero=>exact h.elim
 |succ n=>unfold ofT at h;rw [hu] at h;exact ⟨n,h⟩
theorem ofT_array {P : Program} {n k : Nat} {t e : TypeId} {ds : List AV} (hu : P.underlying t = some (.array k e)) (h : ofT P n t ds) : ∃ (m : Nat) (ps : List (List AV)),ps.length = k ∧ ds = ps.flatten ∧ ∀ p ∈ ps,ofT P m e p := by
 cases n with
 |zero=>exact h.elim
 |succ n=>unfold ofT at h;rw [hu] at h;exact ⟨n,h⟩
theorem list_of {α β : Type} {f : β → α} {Q : β → Prop} : ∀ {l : List α},(∀ x ∈ l,∃ y,x = f y ∧ Q y) → ∃ k : List β,l = k.map f ∧ ∀ y ∈ k,Q y
 |[],_=>⟨[],rfl,fun y hy=>by simp at hy⟩
 |x :: r,h=>by
  obtain ⟨y,rfl,hy⟩ := h _ (List.mem_cons_self ..)
  obtain ⟨k,rfl,hk⟩ := list_of fun z hz=>h z (List.mem_cons_of_mem _ hz)
  exact ⟨y :: k,rfl,fun z hz=>by
   rcases List.mem_cons.1 hz with rfl|hz
   ·exact hy
   ·exact hk z hz⟩
theorem cells_agg {x : AV} (ha : isA x = true) : x = .agg (cellsOf x) := by
 cases x <;> simp_all [cellsOf,isA]
def Arg (P : Program) (w : World) (t : TypeId) (v : Value) : Prop := ∃ n ds,ofT P n t ds ∧ rep (SW w) [] (mkA P t ds) v
section
variable {H : Type} {enc : TypeId × Value → H} {P : Program} {w : World} {sp : Nat → Bool} {held : Bool}
theorem open_fields {m n : Nat} {cs : List Value} (ih : ∀ (t : TypeId) (us : List Value) (x : DataW H × List MemPlace),plainT P n t = true → DataW.trod enc P w 0 sp held m t us = some x → ∃ ds,ofT P n t ds ∧ reps (SWn w m) [] ds us) :
  ∀ (fs : List Field) (o : Nat),tiles P o fs cs.length = true → (∀ f ∈ fs,plainT P n f.type = true ∧ ∃ y,DataW.trod enc P w 0 sp held m f.type ((cs.drop f.offset).take (P.cellsOf f.type)) = some y) →
   ∃ ds,ofFs (ofT P n) fs ds ∧ reps (SWn w m) [] ds (cs.drop o)
 |[],o,ht,_=>by
  simp only [tiles,beq_iff_eq] at ht
  exact ⟨[],rfl,by rw [ht,List.drop_length];exact reps_nil⟩
 |f :: fs,o,ht,hf=>by
  simp only [tiles,Bool.and_eq_true,beq_iff_eq] at ht
  obtain ⟨h1,y,hy⟩ := hf f (List.mem_cons_self ..)
  rw [ht.1] at hy
  obtain ⟨a,ha,hra⟩ := ih _ _ _ h1 hy
  obtain ⟨b,hb,hrb⟩ := open_fields ih fs _ ht.2 fun g hg=>hf g (List.mem_cons_of_mem _ hg)
  refine ⟨a ++ b,⟨a,b,rfl,ha,hb⟩,?_⟩
  have := reps_app hra hrb
  rwa [← List.drop_drop,List.take_append_drop] at this
theorem open_elems {m n k z : Nat} {e : TypeId} {cs : List Value} (hz : k * z = cs.length) (ih : ∀ (us : List Value) (x : DataW H × List MemPlace),DataW.trod enc P w 0 sp held m e us = some x → ∃ ds,ofT P n e ds ∧ reps (SWn w m) [] ds us)
  (he : ∀ i,i < k → ∃ y,DataW.trod enc P w 0 sp held m e ((cs.drop (i * z)).take z) = some y) :
  ∀ (r i : Nat),i + r = k → ∃ ps : List (List AV),ps.length = r ∧ (∀ p ∈ ps,ofT P n e p) ∧ reps (SWn w m) [] ps.flatten (cs.drop (i * z))
 |0,i,hi=>by
  have : i = k := by omega
  subst this
  exact ⟨[],rfl,fun p hp=>by simp at hp,by rw [hz,List.drop_length];exact reps_nil⟩
 |r + 1,i,hi=>by
  obtain ⟨y,hy⟩ := he i (by omega)
  obtain ⟨a,ha,hra⟩ := ih _ _ hy
  obtain ⟨ps,hl,hp,hr⟩ := open_elems hz ih he r (i + 1) (by omega)
  refine ⟨a :: ps,by simp [hl],fun p hq=>?_,?_⟩
  ·rcases List.mem_cons.1 hq with rfl|hq
   ·exact ha
   ·exact hp p hq
  ·have := reps_app hra hr
   rw [show (i + 1) * z = i * z + z by rw [Nat.add_mul,Nat.one_mul],← List.drop_drop,List.take_append_drop] at this
   exact this
theorem open_cells : ∀ (m n : Nat) (t : TypeId) (cs : List Value) (x : DataW H × List MemPlace),plainT P n t = true → DataW.trod enc P w 0 sp held m t cs = some x → ∃ ds,ofT P n t ds ∧ reps (SWn w m) [] ds cs := by
 intro m
 induction m with
 |zero=>intro n t cs x _ h;simp [DataW.trod] at h
 |succ m ih =>
  intro n t cs x hp h
  cases n with
  |zero=>simp [plainT] at hp
  |succ n =>
   have lift : ∀ {ds us},reps (SWn w m) [] ds us → reps (SWn w (m + 1)) [] ds us := fun q=>q.ext (extS SWn.succ)
   unfold plainT at hp
   unfold ofT
   split at hp
   ·rename_i hu
    obtain ⟨b,rfl,_⟩ := DataW.trod_bool hu h
    exact ⟨_,⟨b,rfl⟩,reps_one rfl ⟨rfl,rfl⟩⟩
   ·rename_i k hu
    obtain ⟨b,rfl,_,hw⟩ := DataW.trod_int hu h
    simp only [Lit.wf,Bool.and_eq_true,decide_eq_true_eq] at hw
    exact ⟨_,⟨b,rfl,hw.1,hw.2⟩,reps_one rfl ⟨rfl,rfl⟩⟩
   ·rename_i hu
    obtain ⟨s,rfl,_,hs⟩ := DataW.trod_string hu h
    refine ⟨_,⟨s.data.toList,rfl,?_⟩,reps_one rfl ⟨rfl,rfl⟩⟩
    have e : s.data.toList.length = s.size := by rw [Array.length_toList];rfl
    rw [e];exact hs
   ·rename_i e hu
    simp only [Bool.and_eq_true,decide_eq_true_eq] at hp
    rcases DataW.trod_slice hu h with ⟨rfl,_⟩|⟨a,len,cap,elems,rest,m',hm,rfl,_,hb,hl,hc,hel,hen,_⟩
    ·exact ⟨[SL []],⟨[],rfl,Nat.zero_le _,fun x hx=>by simp at hx⟩,reps_one rfl ⟨none,0,rfl,Nat.le_refl _,Nat.zero_le _,fun q=>absurd rfl q⟩⟩
    ·obtain rfl : m = m' := by omega
     have hch : ∀ i,i < len → ∃ z : List AV × List Value,ofT P n e z.1 ∧ reps (SWn w m) [] z.1 z.2 ∧ w.cells? 0 (a.add (i * P.cellsOf e)) (P.cellsOf e) = some z.2 := by
      intro i hi
      have h1 := hen i hi
      rw [List.getElem?_eq_getElem (by omega)] at h1
      obtain ⟨us,h2,h3⟩ := Option.bind_eq_some_iff.1 h1
      obtain ⟨ds,h4,h5⟩ := ih n e us _ hp.1 h3
      exact ⟨(ds,us),h4,h5,h2⟩
     obtain ⟨g,hg⟩ := Deep.choose_lt hch
     let es : List AV := (List.range len).map fun i=>mkA P e (g i).1
     have hlen : es.length = len := by simp [es]
     have hget : ∀ (i : Nat) (d : AV),es[i]? = some d → i < len ∧ d = mkA P e (g i).1 := by
      intro i d hd
      have hi : i < len := by have := (List.getElem?_eq_some_iff.1 hd).1;omega
      simp only [es,List.getElem?_map,List.getElem?_range hi,Option.map_some,Option.some.injEq] at hd
      exact ⟨hi,hd.symm⟩
     refine ⟨[SL es],⟨es,rfl,by omega,fun x hx=>?_⟩,reps_one rfl ⟨some a,cap,by rw [hlen],by omega,hc,fun hn=>?_⟩⟩
     ·obtain ⟨i,hi⟩ := List.getElem?_of_mem hx
      obtain ⟨hi',rfl⟩ := hget i x hi
      replace hi := hi'
      obtain ⟨q1,q2⟩ := mkA_cells (hg i hi).1
      rw [q1,q2]
      exact ⟨(hg i hi).1,rfl⟩
     ·have h0 : 0 < len := by
       rcases Nat.eq_zero_or_pos len with q|q
       ·exact absurd (List.eq_nil_of_length_eq_zero (by omega)) hn
       ·exact q
      have hcell : ∀ i,i < len → ∀ j,j < P.cellsOf e → w.cell? ((a.add (i * P.cellsOf e)).add j) = (g i).2[j]? := fun i hi=>(World.cells?_some (hg i hi).2.2).2.2
      have hlen2 : ∀ i,i < len → (g i).2.length = P.cellsOf e := fun i hi=>(World.cells?_some (hg i hi).2.2).2.1
      obtain ⟨b,off,spot⟩ := a
      have hspot : spot = none := by
       have := hcell 0 h0 0 hp.2
       rw [List.getElem?_eq_getElem (by rw [hlen2 0 h0];exact hp.2)] at this
       simpa [Addr.add] using World.cell?_spot this
      subst hspot
      have hadd : ∀ o j,(⟨b,o,none⟩ : Addr).add j = ⟨b,o + j,none⟩ := fun o j=>by unfold Addr.add;split <;> simp_all
      refine ⟨b,off,P.cellsOf e,rfl,fun i d hd=>?_⟩
      obtain ⟨hi,rfl⟩ := hget i d hd
      obtain ⟨h1,h2,h3⟩ := hg i hi
      rw [(mkA_cells h1).1]
      refine ⟨by rw [← h2.1];exact hlen2 i hi,fun j y hy=>?_⟩
      have hj : j < P.cellsOf e := by
       have := (List.getElem?_eq_some_iff.1 hy).1
       rw [← h2.1,hlen2 i hi] at this
       exact this
      have h4 := hcell i hi j hj
      rw [hadd,hadd,List.getElem?_eq_getElem (by rw [hlen2 i hi];exact hj)] at h4
      obtain ⟨h5,h6⟩ := h2.2 j y _ hy (List.getElem?_eq_getElem (by rw [hlen2 i hi];exact hj))
      exact ⟨_,h4,h5,h6⟩
   ·rename_i fs hu
    simp only [Bool.and_eq_true,List.all_eq_true] at hp
    obtain ⟨xs,m',hm,_,hcl,hxl,hx⟩ := DataW.trod_struct hu h
    obtain rfl : m = m' := by omega
    obtain ⟨ds,h1,h2⟩ := open_fields (w := w) (sp := sp) (held := held) (enc := enc) (m := m) (n := n) (cs := cs) (fun t us x=>ih n t us x) fs.toList 0 (by rw [hcl];exact hp.1) fun f hf=>⟨hp.2 f hf,by
     obtain ⟨i,hi⟩ := List.getElem?_of_mem hf
     rw [Array.getElem?_toList] at hi
     have := hx i f hi
     have hi' : i < xs.length := by rw [hxl];exact (Array.getElem?_eq_some_iff.1 hi).1
     rw [List.getElem?_eq_getElem hi'] at this
     exact ⟨_,this⟩⟩
    exact ⟨ds,h1,lift h2⟩
   ·rename_i k e hu
    simp only [Bool.and_eq_true,beq_iff_eq] at hp
    obtain ⟨xs,m',hm,_,hcl,hxl,hx⟩ := DataW.trod_array hu h
    obtain rfl : m = m' := by omega
    obtain ⟨ps,h1,h2,h3⟩ := open_elems (w := w) (sp := sp) (held := held) (enc := enc) (m := m) (n := n) (cs := cs) (z := P.cellsOf e) (k := k) (by rw [hcl];exact hp.2) (fun us x=>ih n e us x hp.1) (fun i hi=>by
     have := hx i hi
     rw [List.getElem?_eq_getElem (by omega)] at this
     exact ⟨_,this⟩) k 0 (by omega)
    rw [Nat.zero_mul] at h3
    exact ⟨_,⟨ps,h1,rfl,h2⟩,lift h3⟩
   ·cases hp
theorem open_any {r : Reach} {b0 : Nat} {t : TypeId} {v : Value} {d : DataW H} {p : List MemPlace} (n : Nat) (hp : plainT P n t = true)
  (hval : Value.okWide P w r b0 t v) (h : DataW.Trod enc P w 0 sp held t v d p) : Arg P w t v := by
 obtain ⟨m,hm⟩ := h
 obtain ⟨ds,h1,h2⟩ := open_cells m n t _ _ hp hm
 have h2 : reps (SW w) [] ds v.cells.toList := h2.ext (extS fun _ _ _ q=>⟨m,q⟩)
 refine ⟨n,ds,h1,?_⟩
 unfold mkA
 cases ha : aggT P t with
 |true =>
  have : ∃ cs,v = .agg cs := by
   unfold aggT at ha
   unfold Value.okWide at hval
   split at ha
   ·rename_i hu;rw [hu] at hval;obtain ⟨cs,rfl,_⟩ := hval;exact ⟨cs,rfl⟩
   ·rename_i hu;rw [hu] at hval;obtain ⟨cs,rfl,_⟩ := hval;exact ⟨cs,rfl⟩
   ·cases ha
  obtain ⟨cs,rfl⟩ := this
  exact ⟨cs.toList,rfl,h2⟩
 |false =>
  obtain ⟨d,rfl,hd⟩ := ofT_one h1 ha
  have hv : v.cells = #[v] := by
   cases n with
   |zero=>simp [plainT] at hp
   |succ n =>
    unfold plainT at hp
    unfold aggT at ha
    split at hp
    ·rename_i hu;obtain ⟨_,rfl⟩ := okWide_bool hu hval;rfl
    ·rename_i hu;obtain ⟨_,rfl⟩ := okWide_int hu hval;rfl
    ·rename_i hu;obtain ⟨_,rfl⟩ := okWide_string hu hval;rfl
    ·rename_i hu;obtain ⟨_,_,_,rfl⟩ := okWide_slice hu hval;rfl
    ·rename_i hu;rw [hu] at ha;cases ha
    ·rename_i hu;rw [hu] at ha;cases ha
    ·cases hp
  rw [hv] at h2
  have h3 := (h2.2 0 d v rfl rfl).2
  simp only [Bool.false_eq_true,if_false,List.headD]
  unfold rep
  split
  ·simp [rep1] at h3
  ·unfold repA
   split
   ·simp [isA] at hd
   ·exact h3
end
theorem run_tells {P : Program} {G : Gl} {f : FuncId} {ds : List AV} {b : Bool} (h : ACp P G f ds (V (.bool b))) {w : World} (hG : GOk G (SW w)) {vs : List Value} (hl : vs.length = ds.length)
  (hv : ∀ (j : Nat) (d : AV) (v : Value),ds[j]? = some d → vs[j]? = some v → rep (SW w) [] d v) : Calls P f vs.toArray w fun e w'=>e = .returned (.bool b) ∧ Below w.heap.size w w' := by
 refine (h.2 w (SW w) [] vs (rel_SW w) hG hl hv).mono ?_
 rintro e w' ⟨v,r,H',S',μ',rfl,⟨rfl,rfl⟩,_,hr,hs⟩
 refine ⟨?_,hs.os,hs.tape,hs.output,hs.size,fun k hk=>hs.block k hk fun ⟨i,x,o,hx,_⟩=>by simp at hx⟩
 have : v = .bool b := hr.1
 rw [this]
end Go.Proofs.YtoeajbhlkccekaaDoor

namespace Go.Proofs.YtoeajbhlkccekaaDoor
open Go.RowKit
theorem flat_length {α : Type} {f : α → List Value} {s : Nat} (hf : ∀ x,(f x).length = s) : ∀ l : List α,(l.flatMap f).length = l.length * s
 |[]=>by simp
 |x :: l=>by rw [List.flatMap_cons,List.length_append,hf,flat_length hf l,List.length_cons,Nat.succ_mul];omega
theorem flat_get {α : Type} {f : α → List Value} {s : Nat} (hf : ∀ x,(f x).length = s) : ∀ (l : List α) (i : Nat) (h : i < l.length) (j : Nat),j < s → (l.flatMap f)[i * s + j]? = (f l[i])[j]?
 |[],i,h,_,_=>by simp at h
 |x :: l,0,_,j,hj=>by rw [List.flatMap_cons,Nat.zero_mul,Nat.zero_add,List.getElem?_append_left (by rw [hf];exact hj)];rfl
 |x :: l,i + 1,h,j,hj=>by
  have hx := hf x
  rw [List.flatMap_cons,List.getElem?_append_right (by rw [hx,Nat.succ_mul];omega),hx]
  rw [show (i + 1) * s + j - s = i * s + j from by rw [Nat.succ_mul];omega]
  rw [flat_get hf l i (by simpa using h) j hj]
  rfl
theorem flat_take {α : Type} {f : α → List Value} {s : Nat} (hf : ∀ x,(f x).length = s) (l : List α) (k : Nat) : (l.take k).flatMap f = (l.flatMap f).take (k * s) := by
 induction l generalizing k with
 |nil=>simp
 |cons x l ih =>
  cases k with
  |zero=>simp
  |succ k=>rw [List.take_succ_cons,List.flatMap_cons,List.flatMap_cons,ih,List.take_append,hf,Nat.succ_mul,List.take_of_length_le (l := f x) (by rw [hf];omega),Nat.add_sub_cancel]
theorem flat_drop {α : Type} {f : α → List Value} {s : Nat} (hf : ∀ x,(f x).length = s) (l : List α) (k : Nat) : (l.drop k).flatMap f = (l.flatMap f).drop (k * s) := by
 induction l generalizing k with
 |nil=>simp
 |cons x l ih =>
  cases k with
  |zero=>simp
  |succ k=>rw [List.drop_succ_cons,List.flatMap_cons,ih,List.drop_append,hf,Nat.succ_mul,List.drop_of_length_le (l := f x) (by rw [hf];omega),Nat.add_sub_cancel,List.nil_append]
theorem run_elemAddr {P : Program} {t e : TypeId} {size : Nat} (ht : P.underlying t = some (.slice e)) (hs : (P.info? e).map (·.size) = some size) (b off n c k : Nat) (hk : k < n) (i : Int) (hi : i = k) (w : World) :
  (Instr.indexAt t (.slice (some ⟨b,off,none⟩) n c) (.int .i64 i)).run P w = .ok (.pointer (some ⟨b,off + k * size,none⟩)) w := by
 subst hi
 have he : P.elem t = e := by simp [Program.elem,ht]
 have hz : (sizeOf e).run P w = .ok size w := by
  cases hi : P.info? e with
  |none=>rw [hi] at hs;cases hs
  |some i=>rw [hi] at hs;injection hs with hs;subst hs;simp [sizeOf,typeInfo,hi]
 rw [run_indexAt_slice w t _ n c .i64 k (by rw [he];exact ht),if_pos ⟨by omega,by omega⟩,he,hz]
 simp only [Result.andThen_ok,Int.toNat_natCast]
 unfold Addr.add
 split
 ·rename_i h;rw [h];rfl
 ·rfl
theorem run_cutH {P : Program} {t e : TypeId} {size : Nat} (ht : P.underlying t = some (.slice e)) (hs : (P.info? e).map (·.size) = some size) (A : Option Addr) (n c hi : Nat) (h2 : hi ≤ c) (i : Int) (hi' : i = hi) (w : World) :
  (Instr.slice t (.slice A n c) none (some (.int .i64 i)) none).run P w = .ok (.slice A hi c) w := by
 subst hi'
 have he : P.elem t = e := by simp [Program.elem,ht]
 have hz : (sizeOf e).run P w = .ok size w := by
  cases hi : P.info? e with
  |none=>rw [hi] at hs;cases hs
  |some i=>rw [hi] at hs;injection hs with hs;subst hs;simp [sizeOf,typeInfo,hi]
 rw [run_slice_h w t A n c (by rw [he];exact ht) .i64 hi (by omega) (by omega),he,hz]
 simp [sliced]
 cases A with
 |none=>simp
 |some a=>simp [Addr.add]
def Fs {α : Type} (f : α → List Value) (s : Nat) (w : World) (A : Option Addr) (l : List α) : Prop := Rd w A s l.length (l.flatMap f)
section
variable {α : Type} {f : α → List Value} {s : Nat} {w w' : World} {A : Option Addr} {l : List α}
theorem Fs.below (h : Fs f s w A l) (hb : Below w.heap.size w w') : Fs f s w' A l := Rd.below h hb
theorem Fs.drewN (h : Fs f s w A l) (k : Nat) : Fs f s (w.drewN k) A l := h
theorem Fs.alloc (h : Fs f s w A l) (o : Obj) : Fs f s (w.alloc o) A l := Rd.alloc h o
theorem Fs.empty (w : World) (A : Option Addr) : Fs f s w A [] := Rd.empty _ _ _
theorem Fs.cell (h : Fs f s w A l) (hf : ∀ x,(f x).length = s) (hn : 0 < l.length) : ∃ b off,A = some ⟨b,off,none⟩ ∧ b < w.heap.size ∧ ∀ i (hi : i < l.length) j u,j < s → (f l[i])[j]? = some u → w.cell? ⟨b,off + i * s + j,none⟩ = some u := by
 obtain ⟨b,off,e,hb,hc⟩ := h.2 hn
 refine ⟨b,off,e,hb,fun i hi j u hj hu=>?_⟩
 rw [Nat.add_assoc]
 exact hc (i * s + j) u (by rw [flat_get hf l i hi j hj];exact hu)
theorem Fs.cutA (h : Fs f s w A l) (hf : ∀ x,(f x).length = s) {lo n c : Nat} (h2 : lo + n ≤ l.length) (hc : l.length ≤ c) : Fs f s w (cutA A c lo s) ((l.drop lo).take n) := by
 have := Rd.cutA h (lo := lo) (hi := lo + n) (by omega) h2 hc
 unfold Fs
 rw [show lo + n - lo = n from by omega] at this
 rw [flat_take hf,flat_drop hf,show ((l.drop lo).take n).length = n from by simp;omega]
 exact this
theorem Fs.cutL (h : Fs f s w A l) (hf : ∀ x,(f x).length = s) {lo c : Nat} (h2 : lo ≤ l.length) (hc : l.length ≤ c) : Fs f s w (_root_.Go.Proofs.YtoeajbhlkccekaaDoor.cutA A c lo s) (l.drop lo) := by
 have := h.cutA hf (lo := lo) (n := l.length - lo) (c := c) (by omega) hc
 rwa [List.take_of_length_le (by simp)] at this
theorem Fs.take (h : Fs f s w A l) (hf : ∀ x,(f x).length = s) (k : Nat) : Fs f s w A (l.take k) := by
 unfold Fs
 rw [flat_take hf]
 by_cases hk : k ≤ l.length
 ·rw [List.length_take,Nat.min_eq_left hk];exact Rd.less h hk
 ·rw [List.length_take,Nat.min_eq_right (by omega),List.take_of_length_le (by rw [flat_length hf];exact Nat.mul_le_mul_right _ (by omega))];exact h
theorem Fs.of_own {base : Nat} {e : TypeId} {n c : Nat} (hn : n = l.length) (h : w.ownsRow base e s (.slice A n c) n (l.flatMap f)) : Fs f s w A l := by subst hn;exact Rd.of_own h
end
def FsOut {α : Type} (f : α → List Value) (s : Nat) (t : TypeId) (w : World) (l : List α) (e : Ending) (w' : World) : Prop :=
 ∃ A cap,e = .returned (.slice A l.length cap) ∧ w'.ownsRow w.heap.size t s (.slice A l.length cap) l.length (l.flatMap f) ∧ Below w.heap.size w w'
end Go.Proofs.YtoeajbhlkccekaaDoor

namespace Go.Proofs.YtoeajbhlkccekaaDoor
open Go.RowKit
section
variable {P : Program} {G : Gl}
theorem acp_of {f : FuncId} {args : List AV} {X : AV} (hc : callIs P f = true)
    (h : ∀ w S (vs : List Value), Rel w S [] [] → GOk G S → vs.length = args.length → (∀ (j : Nat) (d : AV) (v : Value), args[j]? = some d → vs[j]? = some v → rep S [] d v) →
      Calls P f vs.toArray w fun e w' => ∃ v, e = .returned v ∧ Below w.heap.size w w' ∧ ∃ N : SS, (∀ b j d, N b j d → w.heap.size ≤ b ∧ ∃ u, w'.cell? ⟨b, j, none⟩ = some u ∧ d = V u ∧ u.oneCell' = true) ∧ rep (fun b j d => S b j d ∨ N b j d) [] X v) : ACp P G f args X := by
  refine ⟨hc, fun w S μ vs hr hg hl hv => ?_⟩
  have hμ : μ = [] := List.eq_nil_of_length_eq_zero hr.len
  subst hμ
  refine (h w S vs hr hg hl hv).mono ?_
  rintro e w' ⟨v, rfl, hb, N, hN, hrep⟩
  obtain ⟨h1, h2⟩ := hr.grow (S' := fun b j d => S b j d ∨ N b j d) hb (fun _ _ _ q => .inl q) (fun b j d q => q.imp id fun k => (hN b j d k).1) (fun b j d q hb' => by
    rcases q with q | q
    · have := hr.still_lt q; omega
    · obtain ⟨_, u, h3, rfl, h4⟩ := hN b j d q
      exact ⟨u, h3, h4, rfl, h4⟩)
  exact ⟨v, X, [], _, [], rfl, ⟨rfl, rfl⟩, h1, hrep, h2⟩
theorem acp_of_tells {f : FuncId} {args : List AV} {X : AV} (hc : callIs P f = true)
    (h : ∀ w S (vs : List Value), Rel w S [] [] → GOk G S → vs.length = args.length → (∀ (j : Nat) (d : AV) (v : Value), args[j]? = some d → vs[j]? = some v → rep S [] d v) →
      Calls P f vs.toArray w fun e w' => ∃ v, e = .returned v ∧ Below w.heap.size w w' ∧ rep S [] X v) : ACp P G f args X :=
  acp_of hc fun w S vs hr hg hl hv => (h w S vs hr hg hl hv).mono fun e w' ⟨v, he, hb, k⟩ => ⟨v, he, hb, fun _ _ _ => False, fun _ _ _ q => q.elim, k.ext ⟨fun _ _ _ q => .inl q, fun i x hx => ⟨x, hx, .inl rfl⟩⟩⟩
end
section
variable {α : Type} {f : α → List Value} {s : Nat} {w w' : World} {S : SS} {A : Option Addr} {l : List α}
def flA (f : α → List Value) (x : α) : AV := .agg ((f x).map fun u=>V u)
theorem fs_of (hf : ∀ x,(f x).length = s) (hs : 0 < s) (hr : Rel w S [] []) {v : Value} (h : rep S [] (SL (l.map (flA f))) v) : ∃ A c,v = .slice A l.length c ∧ l.length ≤ c ∧ c ≤ maxLen ∧ Fs f s w A l := by
 obtain ⟨A,c,rfl,h1,h2,h3⟩ := h
 rw [List.length_map] at h1 ⊢
 refine ⟨A,c,rfl,h1,h2,flat_length hf l,fun hn=>?_⟩
 obtain ⟨b,o,z,rfl,hin⟩ := h3 (by intro e;have := congrArg List.length e;simp at this;simp [this] at hn)
 have hz : z = s := by
  have hh : (l.map (flA f))[0]? = some (flA f l[0]) := by simp [List.getElem?_eq_getElem hn]
  have := (hin 0 _ hh).1
  simp [flA,cellsOf,hf] at this
  exact this.symm
 subst hz
 have hcell : ∀ j u,(l.flatMap f)[j]? = some u → S b (o + j) (V u) := by
  intro j u hj
  have hz0 : 0 < z := by
   rcases Nat.eq_zero_or_pos z with h0|h0
   ·have := flat_length hf l
    rw [h0,Nat.mul_zero] at this
    rw [List.eq_nil_of_length_eq_zero this] at hj;simp at hj
   ·exact h0
  have hlt : j < l.length * z := by
   have := (List.getElem?_eq_some_iff.1 hj).1
   rwa [flat_length hf l] at this
  have hd : j / z < l.length := Nat.div_lt_of_lt_mul (by rw [Nat.mul_comm];exact hlt)
  have hj2 : j = (j / z) * z + j % z := by rw [Nat.mul_comm];exact (Nat.div_add_mod j z).symm
  have hm := Nat.mod_lt j hz0
  rw [hj2,flat_get hf l _ hd _ hm] at hj
  have := (hin (j / z) (flA f l[j / z]) (by simp [List.getElem?_eq_getElem hd])).2 (j % z) (V u) (by simp [flA,cellsOf,List.getElem?_map,hj])
  rw [Nat.add_assoc,← hj2] at this
  exact this
 have h0 : b < w.heap.size := by
  have hp : 0 < (l.flatMap f).length := by rw [flat_length hf l];exact Nat.mul_pos hn hs
  exact hr.still_lt (hcell 0 _ (List.getElem?_eq_getElem hp))
 refine ⟨b,o,rfl,h0,fun j u hj=>?_⟩
 obtain ⟨u',h4,_,h5⟩ := hr.still _ _ _ (hcell j u hj)
 rw [h4,h5.1]
theorem rep_row (hf : ∀ x,(f x).length = s) (h1 : ∀ x,∀ u ∈ f x,u.oneCell' = true) {base : Nat} {t : TypeId} {cap : Nat} (h : w'.ownsRow base t s (.slice A l.length cap) l.length (l.flatMap f)) (S : SS) :
  ∃ N : SS,(∀ b j d,N b j d → base ≤ b ∧ ∃ u,w'.cell? ⟨b,j,none⟩ = some u ∧ d = V u ∧ u.oneCell' = true) ∧ rep1 (fun b j d=>S b j d ∨ N b j d) [] (SL (l.map (flA f))) (.slice A l.length cap) := by
 obtain ⟨A',c',e,hc1,hc2⟩ := own_le h
 injection e with e1 e2 e3
 subst e1 e3
 have hF : Fs f s w' A l := Fs.of_own rfl h
 by_cases hn : l = []
 ·subst hn
  exact ⟨fun _ _ _=>False,fun _ _ _ q=>q.elim,A,cap,by simp,by simp,hc2,fun q=>by simp at q⟩
 ·obtain ⟨b,off,rfl,hb,hcell⟩ := hF.2 (List.length_pos_iff.2 hn)
  have hbase : base ≤ b := by
   rcases h.2 with ⟨q,_⟩|⟨g,cap',cur,q,q2,_⟩
   ·cases q
   ·injection q with q3;injection q3 with q3;injection q3 with q3;omega
  refine ⟨fun b' j d=>b' = b ∧ ∃ u,w'.cell? ⟨b,j,none⟩ = some u ∧ d = V u ∧ u.oneCell' = true,fun b' j d q=>by obtain ⟨rfl,u,q1,q2,q3⟩ := q;exact ⟨hbase,u,q1,q2,q3⟩,
   some ⟨b,off,none⟩,cap,by simp,by simpa using hc1,hc2,fun _=>⟨b,off,s,rfl,fun i d hd=>?_⟩⟩
  rw [List.getElem?_map] at hd
  obtain ⟨x,hx,rfl⟩ := Option.map_eq_some_iff.1 hd
  obtain ⟨hi,rfl⟩ := List.getElem?_eq_some_iff.1 hx
  refine ⟨by simp [flA,cellsOf,hf],fun j y hy=>?_⟩
  simp only [flA,cellsOf,List.getElem?_map] at hy
  obtain ⟨u,hu,rfl⟩ := Option.map_eq_some_iff.1 hy
  have hj : j < s := by rw [← hf l[i]];exact (List.getElem?_eq_some_iff.1 hu).1
  refine .inr ⟨rfl,u,?_,rfl,h1 _ u (List.mem_of_getElem? hu)⟩
  rw [Nat.add_assoc]
  exact hcell (i * s + j) u (by rw [flat_get hf l i hi j hj];exact hu)
theorem arg_V {S : SS} {u v : Value} (h : rep S [] (V u) v) : v = u := h.1
theorem arg_fl {S : SS} {x : α} {v : Value} (h : rep S [] (flA f x) v) : v = .agg (f x).toArray := by
 obtain ⟨us,rfl,hr⟩ := h
 rw [reps_plain hr]
theorem still_two {G : Gl} {g : Nat} {u1 u2 : Value} (hr : Rel w S [] []) (hg : GOk G S) (hm : (g,(.agg [V u1,V u2] : AV)) ∈ G) : g < w.heap.size ∧ w.cell? ⟨g,0,none⟩ = some u1 ∧ w.cell? ⟨g,1,none⟩ = some u2 := by
 have a1 := hg _ _ hm 0 (V u1) rfl
 have a2 := hg _ _ hm 1 (V u2) rfl
 obtain ⟨x1,b1,_,c1⟩ := hr.still _ _ _ a1
 obtain ⟨x2,b2,_,c2⟩ := hr.still _ _ _ a2
 exact ⟨hr.still_lt a1,by rw [b1,c1.1],by rw [b2,c2.1]⟩
end
end Go.Proofs.YtoeajbhlkccekaaDoor

namespace Go.Proofs.YtoeajbhlkccekaaDoor
open Go.RowKit
section
variable {P : Program} {G : Gl}
theorem load_run {w : World} {S : SS} {μ : List Value} {H : List AObj} {t : TypeId} {d : AV} {v : Value} {K : AV → Prop} (hrel : Rel w S μ H) (hx : rep S μ d v) (h : aLoad (kindT P t) H d K) :
  ∃ (ad : Addr) (u : Value) (r : AV),v = .pointer (some ad) ∧ (loadVar t ad).run P w = .ok u w ∧ rep S μ r u ∧ K r := by
 unfold aLoad at h
 split at h
 ·rename_i cs
  obtain ⟨hk,hK⟩ := h
  obtain ⟨b,off,he,hs⟩ := hx
  obtain ⟨us,hr,hc⟩ := still_cells hrel (cs := cs) hs
  have hg := kind_agg (P := P) (t := t) w hk
  have hl := run_loadCells_list (P := P) w ⟨b,off,none⟩ us hc
  refine ⟨_, .agg us.toArray, .agg cs,he,?_,⟨us,rfl,hr.free⟩,hK⟩
  simp only [loadVar,Sem.run_bind,hg.1,hg.2,Result.andThen_ok,← hr.1,hl,if_true,Sem.run_pure]
 ·rename_i d hne
  obtain ⟨hk,hK⟩ := h
  obtain ⟨b,off,he,hs⟩ := hx
  rw [cellsOf_ne hne] at hs
  obtain ⟨u,h1,h2,h3⟩ := hrel.still _ _ _ (hs 0 d rfl)
  refine ⟨_,u,_,he,?_,rep_of_repA ?_,hK⟩
  ·have := (kind_one (P := P) (t := t) w hk).1
   simp only [loadVar,Sem.run_bind,this,Result.andThen_ok]
   simp only [Nat.add_zero] at h1
   simp [load,Sem.run,h1]
  ·unfold repA
   split
   ·exact absurd rfl (hne _)
   ·exact h3.free
 ·rename_i i off
  obtain ⟨ob,hob,h⟩ := h
  obtain ⟨l,hl,hK⟩ := cellsP_at h
  obtain ⟨b,x',hμ,hp,he⟩ := hx
  obtain ⟨cs,us,hc,hr,hus⟩ := own_at hrel hμ hob hp hl
  obtain ⟨d,u,hK',hru,hrun⟩ := own_cells hc hus hr hK rfl
  exact ⟨_,u,d,he,hrun,hru,hK'⟩
 ·exact h.elim
def resC (P : Program) (H : List AObj) (T : Tm) : List ResultVar → (List AV → Prop) → Prop
 |[],K=>K []
 |.tmp t :: rs,K=>resC P H T rs fun ds=>K (get T t :: ds)
 |.cell b t :: rs,K=>aLoad (kindT P t) H (get T b) fun d=>resC P H T rs fun ds=>K (d :: ds)
def oneOf : List AV → AV
 |[d]=>d
 |ds=>TU (ds.map noT)
theorem resC_run {w : World} {S : SS} {μ : List Value} {H : List AObj} {N : FS} {T : Tm} {a : Act} (hrel : Rel w S μ H) (hf : Fr S μ N T a) : ∀ (rs : List ResultVar) (K : List AV → Prop),resC P H T rs K →
  ∃ (ds : List AV) (us : List Value),K ds ∧ us.length = ds.length ∧ (∀ (j : Nat) (d : AV) (u : Value),ds[j]? = some d → us[j]? = some u → rep S μ d u) ∧
   (rs.mapM fun r : ResultVar=>(match r with|.tmp t=>(pure (a.tmps.getD t undef) : Sem Value)|.cell b t=>(do loadVar t (← asAddr (a.tmps.getD b undef))))).run P w = .ok us w
 |[],K,h=>⟨[],[],h,rfl,fun j d u hd=>by simp at hd,by simp [List.mapM_nil,Sem.run_pure]⟩
 |.tmp t :: rs,K,h=>by
  obtain ⟨ds,us,h1,h2,h3,h4⟩ := resC_run hrel hf rs _ h
  refine ⟨_,a.tmps.getD t undef :: us,h1,by simp [h2],fun j d u hd hu=>?_,?_⟩
  ·cases j with
   |zero=>simp only [List.getElem?_cons_zero,Option.some.injEq] at hd hu;subst hd hu;exact hf.slot t
   |succ j=>simp at hd hu;exact h3 j d u hd hu
  ·have := lawfulSem
   rw [List.mapM_cons]
   simp only [Sem.run_bind,Sem.run_pure,Result.andThen_ok]
   erw [h4]
   rfl
 |.cell b t :: rs,K,h=>by
  obtain ⟨ad,u0,r,e,hl,hr,hk⟩ := load_run hrel (hf.slot b) h
  obtain ⟨ds,us,h1,h2,h3,h4⟩ := resC_run hrel hf rs _ hk
  refine ⟨_,u0 :: us,h1,by simp [h2],fun j d u hd hu=>?_,?_⟩
  ·cases j with
   |zero=>simp at hd hu;subst hd hu;exact hr
   |succ j=>simp at hd hu;exact h3 j d u hd hu
  ·have := lawfulSem
   rw [List.mapM_cons]
   simp only [Sem.run_bind,e,asAddr,Sem.run_pure,Result.andThen_ok,hl]
   erw [h4]
   rfl
theorem resultsC_run {fn : Func} {rs : List ResultVar} (h : fn.results.toList = rs) {w : World} {S : SS} {μ : List Value} {H : List AObj} {N : FS} {T : Tm} {a : Act} (hrel : Rel w S μ H) (hf : Fr S μ N T a) {K : AV → Prop} (hK : resC P H T rs fun ds=>K (oneOf ds)) :
  ∃ v r,(results fn a.tmps).run P w = .ok v w ∧ rep S μ r v ∧ K r := by
 obtain ⟨ds,us,h1,h2,h3,h4⟩ := resC_run (P := P) hrel hf rs _ hK
 have hr : (results fn a.tmps).run P w = .ok (if h : us.toArray.size = 1 then us.toArray[0] else .tuple us.toArray) w := by
  have := lawfulSem
  have hm : (fn.results.mapM fun r : ResultVar=>(match r with|.tmp t=>(pure (a.tmps.getD t undef) : Sem Value)|.cell b t=>(do loadVar t (← asAddr (a.tmps.getD b undef))))).run P w = .ok us.toArray w := by
   rw [Array.mapM_eq_mapM_toList,h]
   simp only [map_eq_pure_bind,Sem.run_bind,Sem.run_pure]
   erw [h4]
   rfl
  unfold results
  simp only [Sem.run_bind]
  erw [hm]
  simp only [Result.andThen_ok,Sem.run_pure]
 refine ⟨_,_,hr,?_,h1⟩
 match us,ds,h2,h3 with
 |[u],[d],_,h3=>exact h3 0 d u rfl rfl
 |[],[],_,_=>exact ⟨[],rfl,rfl,fun j d u hd=>by simp at hd⟩
 |u :: u' :: r,d :: d' :: q,h2,h3 =>
  refine ⟨u :: u' :: r,by simp,by simpa using h2,fun j e x hd hu=>?_⟩
  rw [List.getElem?_map] at hd
  obtain ⟨e0,he0,rfl⟩ := Option.map_eq_some_iff.1 hd
  exact repA_noT (h3 j e0 x he0 hu)
def retQ (P : Program) (rs : List ResultVar) (n : Nat) (R : AV → List AObj → Prop) : Exit → ASt → Prop
 |.normal,s=>resC P s.H s.T rs fun ds=>∃ X H',(X = oneOf ds ∨ X = ro s.H (oneOf ds)) ∧ HLe s.H H' ∧ H'.all (ltO H'.length) = true ∧ n ≤ H'.length ∧ ltT H'.length X = true ∧ R X H'
 |.ret,s=>resC P s.H s.T rs fun ds=>∃ X H',(X = oneOf ds ∨ X = ro s.H (oneOf ds)) ∧ HLe s.H H' ∧ H'.all (ltO H'.length) = true ∧ n ≤ H'.length ∧ ltT H'.length X = true ∧ R X H'
 |_,_=>False
theorem ac_of_wpC {f : FuncId} {fn : Func} {c : Code} {args : List AV} {H : List AObj} {R : AV → List AObj → Prop} (hf : P.funcs[f]? = some fn) (hb : fn.body = some c) (hc : callIs P f = true) (rs : List ResultVar) (hrs : fn.results.toList = rs) (N : Nat) (hN : fn.ntmps = N) (hargs : args.length ≤ N)
  (h : AWp P G (F0 N) H.length c (retQ P rs H.length R) ⟨H,argsT 0 args⟩) : AC P G f args H R := by
 subst hN
 refine ⟨hc,fun w S μ vs hr hg hl hv=>?_⟩
 refine calls_of_wp hf hb ?_
 have hfr : Fr S μ (F0 fn.ntmps) (argsT 0 args) { tmps := vs.toArray ++ Array.replicate (fn.ntmps - vs.toArray.size) undef,defers := [] } := by
  refine ⟨by simp;omega,rfl,fun i=>?_⟩
  rw [get_argsT]
  simp only [Nat.zero_le,if_true,Nat.sub_zero]
  cases hd : args[i]? with
  |none=>trivial
  |some d =>
   have hi : i < vs.length := by rw [hl];exact (List.getElem?_eq_some_iff.1 hd).1
   have := hv i d vs[i] hd (List.getElem?_eq_getElem hi)
   simp only [Option.getD_some]
   have e : (vs.toArray ++ Array.replicate (fn.ntmps - vs.toArray.size) undef).getD i undef = vs[i] := by
    rw [Array.getD_eq_getD_getElem?,Array.getElem?_append_left (by simpa using hi)]
    simp [hi]
   rw [e];exact this
 refine wp_mono (h w S μ _ hr hfr hg) ?_
 rintro e a' w' ⟨s',S',μ',hq,hr',hf',hst⟩
 have fin : (resC P s'.H s'.T rs fun ds=>∃ X H',(X = oneOf ds ∨ X = ro s'.H (oneOf ds)) ∧ HLe s'.H H' ∧ H'.all (ltO H'.length) = true ∧ H.length ≤ H'.length ∧ ltT H'.length X = true ∧ R X H') → a'.defers = [] ∧ ∃ v,(results fn a'.tmps).run P w' = .ok v w' ∧ CPost w S μ H R (.returned v) w' := by
  intro hK
  obtain ⟨v,r,hrun,hrep,X,H',hX,hle,hlt,hn,hltX,hR⟩ := resultsC_run (K := fun r=>∃ X H',(X = r ∨ X = ro s'.H r) ∧ HLe s'.H H' ∧ H'.all (ltO H'.length) = true ∧ H.length ≤ H'.length ∧ ltT H'.length X = true ∧ R X H') hrs hr' hf' hK
  have hrepX : rep S' μ' X v := by
   rcases hX with rfl|rfl
   ·exact hrep
   ·exact hrep.toRo hr'
  refine ⟨hf'.nodef,v,hrun,v,X,H',S',μ'.take H'.length,rfl,hR,hr'.le hle hlt,hrepX.take hltX,hst.trans ⟨rfl,rfl,rfl,Nat.le_refl _,fun _ _ _=>rfl,fun _ _ _ h=>h,fun i x hi hx=>⟨x,by rw [List.getElem?_take,if_pos (by omega)];exact hx, .inl rfl⟩,fun _ _ _ h _=>.inl h,fun _ k _=>hle.own k⟩⟩
 cases e with
 |normal=>exact fin hq
 |ret=>exact fin hq
 |exit id=>exact hq.elim
 |goto l=>exact hq.elim
 |panic ch=>exact hq.elim
 |outgrown=>exact hq.elim
def retPC (P : Program) (rs : List ResultVar) (X : AV) : Exit → ASt → Prop
 |.normal,s=>resC P s.H s.T rs fun ds=>ro s.H (oneOf ds) = X
 |.ret,s=>resC P s.H s.T rs fun ds=>ro s.H (oneOf ds) = X
 |_,_=>False
theorem resC_mono {H : List AObj} {T : Tm} : ∀ {rs : List ResultVar} {K K' : List AV → Prop},(∀ ds,K ds → K' ds) → resC P H T rs K → resC P H T rs K'
 |[],K,K',hk,h=>hk _ h
 |.tmp t :: rs,K,K',hk,h=>resC_mono (rs := rs) (fun ds=>hk _) h
 |.cell b t :: rs,K,K',hk,h=>by
  simp only [resC] at h ⊢
  obtain ⟨d,h1,h2⟩ := aLoad_det h
  have : aLoad (kindT P t) H (_root_.Go.Proofs.YtoeajbhlkccekaaDoor.get T b) (fun d=>resC P H T rs fun ds=>K' (d :: ds)) := by
   unfold aLoad at h1 ⊢
   split at h1
   ·exact ⟨h1.1,by have := h1.2;subst this;exact resC_mono (fun ds=>hk _) h2⟩
   ·exact ⟨h1.1,by have := h1.2;subst this;exact resC_mono (fun ds=>hk _) h2⟩
   ·obtain ⟨ob,q1,q2⟩ := h1
    exact ⟨ob,q1,cellsP_mono q2 fun l q=>ofCells_mono q fun d' e=>by subst e;exact resC_mono (fun ds=>hk _) h2⟩
   ·exact h1
  exact this
theorem acp_of_wpC {f : FuncId} {fn : Func} {c : Code} {args : List AV} {X : AV} (hf : P.funcs[f]? = some fn) (hb : fn.body = some c) (hc : callIs P f = true) (rs : List ResultVar) (hrs : fn.results.toList = rs) (N : Nat) (hN : fn.ntmps = N) (hargs : args.length ≤ N) (hX : ltT 0 X = true)
  (h : AWp P G (F0 N) 0 c (retPC P rs X) ⟨[],argsT 0 args⟩) : ACp P G f args X := by
 refine ac_of_wpC hf hb hc rs hrs N hN hargs (h.mono fun e s q=>?_)
 have fin : (resC P s.H s.T rs fun ds=>ro s.H (oneOf ds) = X) → resC P s.H s.T rs fun ds=>∃ X' H',(X' = oneOf ds ∨ X' = ro s.H (oneOf ds)) ∧ HLe s.H H' ∧ H'.all (ltO H'.length) = true ∧ ([] : List AObj).length ≤ H'.length ∧ ltT H'.length X' = true ∧ (X' = X ∧ H' = []) :=
  resC_mono fun ds hds=>⟨X,[], .inr hds.symm,by cases hh : s.H <;> trivial,rfl,Nat.le_refl _,hX,rfl,rfl⟩
 cases e with
 |normal=>exact fin q
 |ret=>exact fin q
 |exit id=>exact q.elim
 |goto l=>exact q.elim
 |panic ch=>exact q.elim
 |outgrown=>exact q.elim
theorem awp_row {N : FS} {n : Nat} {c : Code} {Q : Exit → ASt → Prop} {H : List AObj} {T : Tm} (i : Nat) (e : TypeId) (z : Nat) (hi : get T i = V (.slice none 0 0)) (hn : n ≤ H.length) (h : AWp P G N n c Q ⟨H ++ [⟨2,e,z,[]⟩],(i,OW H.length 0) :: T⟩) : AWp P G N n c Q ⟨H,T⟩ := by
 intro w S μ a hr hf hg
 obtain ⟨h1,h2⟩ := hr.nilRow none e z
 have hx : Ext S μ S (μ ++ [.slice none 0 0]) := ext_add S μ _
 have hf' : Fr S (μ ++ [.slice none 0 0]) N ((i,OW H.length 0) :: T) a := by
  refine ⟨hf.size,hf.nodef,fun k=>?_⟩
  simp only [_root_.Go.Proofs.YtoeajbhlkccekaaDoor.get]
  split
  ·rename_i e;subst e
   have := (hf.slot i)
   rw [hi] at this
   refine ⟨none,0,0,none,0,?_,Nat.le_refl _,this.1,fun _=>⟨rfl,rfl⟩⟩
   rw [← hr.len];simp
  ·exact (hf.slot k).ext hx
 exact wp_mono (h w S _ a h1 hf' hg) fun _ _ _ k=>Lift.trans (h2.less hn) k
variable {H : List AObj} {T : Tm} {X : AV} {s : ASt}
theorem rC_nil {K : List AV → Prop} : resC P H T [] K = K [] := _root_.id rfl
theorem rC_cell {b : Tmp} {t : TypeId} {rs : List ResultVar} {K : List AV → Prop} : resC P H T (.cell b t :: rs) K = aLoad (kindT P t) H (get T b) fun d=>resC P H T rs fun ds=>K (d :: ds) := _root_.id rfl
theorem oO_one {d : AV} : oneOf [d] = d := _root_.id rfl
theorem oO_two {d e : AV} : oneOf [d,e] = TU [noT d,noT e] := _root_.id rfl
theorem oO_three {d e f : AV} : oneOf [d,e,f] = TU [noT d,noT e,noT f] := _root_.id rfl
theorem oO_nil : oneOf [] = TU [] := _root_.id rfl
theorem r1_r0 {e : TypeId} {z m : Nat} {c : List AV} : ro1 (⟨2,e,z,c⟩ :: H) (OW 0 m) = if m = c.length then SL c else OW 0 m := by simp [ro1]
theorem r1_r1 {o : AObj} {e : TypeId} {z m : Nat} {c : List AV} : ro1 (o :: ⟨2,e,z,c⟩ :: H) (OW 1 m) = if m = c.length then SL c else OW 1 m := by simp [ro1]
theorem r1_r2 {o o' : AObj} {e : TypeId} {z m : Nat} {c : List AV} : ro1 (o :: o' :: ⟨2,e,z,c⟩ :: H) (OW 2 m) = if m = c.length then SL c else OW 2 m := by simp [ro1]
theorem r1_r3 {o o' o2 : AObj} {e : TypeId} {z m : Nat} {c : List AV} : ro1 (o :: o' :: o2 :: ⟨2,e,z,c⟩ :: H) (OW 3 m) = if m = c.length then SL c else OW 3 m := by simp [ro1]
section
variable {m : Nat}
theorem tT_V {v : Value} : ltT m (V v) = true := _root_.id rfl
theorem tT_SL {es : List AV} : ltT m (SL es) = true := _root_.id rfl
theorem tT_ptr {d : AV} : ltT m (.ptr d) = true := _root_.id rfl
theorem tT_OW {i q : Nat} : ltT m (OW i q) = decide (i < m) := _root_.id rfl
theorem tT_OP {i q : Nat} : ltT m (OP i q) = decide (i < m) := _root_.id rfl
theorem tT_agg {cs : List AV} : ltT m (.agg cs) = cs.all (lt1 m) := _root_.id rfl
theorem tT_TU {ds : List AV} : ltT m (TU ds) = ds.all (ltA m) := _root_.id rfl
theorem tA_V {v : Value} : ltA m (V v) = true := _root_.id rfl
theorem tA_SL {es : List AV} : ltA m (SL es) = true := _root_.id rfl
theorem tA_ptr {d : AV} : ltA m (.ptr d) = true := _root_.id rfl
theorem tA_OW {i q : Nat} : ltA m (OW i q) = decide (i < m) := _root_.id rfl
theorem tA_OP {i q : Nat} : ltA m (OP i q) = decide (i < m) := _root_.id rfl
theorem tA_agg {cs : List AV} : ltA m (.agg cs) = cs.all (lt1 m) := _root_.id rfl
theorem t1_V {v : Value} : lt1 m (V v) = true := _root_.id rfl
theorem t1_SL {es : List AV} : lt1 m (SL es) = true := _root_.id rfl
theorem t1_ptr {d : AV} : lt1 m (.ptr d) = true := _root_.id rfl
theorem t1_OW {i q : Nat} : lt1 m (OW i q) = decide (i < m) := _root_.id rfl
theorem t1_OP {i q : Nat} : lt1 m (OP i q) = decide (i < m) := _root_.id rfl
theorem tO_mk {k e z : Nat} {c : List AV} : ltO m ⟨k,e,z,c⟩ = (k == 0 || c.all (ltA m)) := _root_.id rfl
end
end
end Go.Proofs.YtoeajbhlkccekaaDoor

namespace Go.Proofs.YtoeajbhlkccekaaDoor
open Go.RowKit
section
variable {P : Program} {G : Gl}
def retPK (P : Program) (rs : List ResultVar) (X : AV) (H0 : List AObj) : Exit → ASt → Prop
 |.normal,s=>resC P s.H s.T rs fun ds=>ro s.H (oneOf ds) = X ∧ HLe s.H H0
 |.ret,s=>resC P s.H s.T rs fun ds=>ro s.H (oneOf ds) = X ∧ HLe s.H H0
 |_,_=>False
abbrev Is (X : AV) (H0 : List AObj) : AV → List AObj → Prop := fun r H'=>r = X ∧ H' = H0
theorem ac_of_wpK {f : FuncId} {fn : Func} {c : Code} {args : List AV} {H H0 : List AObj} {X : AV} (hf : P.funcs[f]? = some fn) (hb : fn.body = some c) (hc : callIs P f = true) (rs : List ResultVar) (hrs : fn.results.toList = rs) (N : Nat) (hN : fn.ntmps = N) (hargs : args.length ≤ N)
  (h1 : H0.all (ltO H0.length) = true) (h2 : H.length ≤ H0.length) (h3 : ltT H0.length X = true)
  (h : AWp P G (F0 N) H.length c (retPK P rs X H0) ⟨H,argsT 0 args⟩) : AC P G f args H (Is X H0) := by
 refine ac_of_wpC hf hb hc rs hrs N hN hargs (h.mono fun e s q=>?_)
 have fin : (resC P s.H s.T rs fun ds=>ro s.H (oneOf ds) = X ∧ HLe s.H H0) → resC P s.H s.T rs fun ds=>∃ X' H',(X' = oneOf ds ∨ X' = ro s.H (oneOf ds)) ∧ HLe s.H H' ∧ H'.all (ltO H'.length) = true ∧ H.length ≤ H'.length ∧ ltT H'.length X' = true ∧ (X' = X ∧ H' = H0) :=
  resC_mono fun ds hds=>⟨X,H0, .inr hds.1.symm,hds.2,h1,h2,h3,rfl,rfl⟩
 cases e with
 |normal=>exact fin q
 |ret=>exact fin q
 |exit id=>exact q.elim
 |goto l=>exact q.elim
 |panic ch=>exact q.elim
 |outgrown=>exact q.elim
theorem call_keep {f : FuncId} {args : List AV} {X : AV} {H H0 : List AObj} {R : AV → List AObj → Prop} (h : AC P G f args H (Is X H0)) (k : R X H0) : AC P G f args H R :=
 h.mono fun r H' ⟨e1,e2⟩=>by subst e1 e2;exact k
variable {H H0 : List AObj} {T : Tm} {X : AV} {s : ASt}
section
variable {K : ASt → Prop} {ops l r : List Oper} {dst : Option Tmp} {ty : TypeId} {pos : String} {af : Array Edge} {b : Bool}
theorem dx_move {a : Operand} : drawX P G ops b (⟨dst, .move a,ty,pos,af,none⟩ :: r) s K = (okX b (.move a) ∧ drawO P G ops b ⟨dst, .move a,ty,pos,af,none⟩ r s K) := dx_cons rfl
theorem dg_move {a : Operand} {j : Nat} {w : Bool} : drawX P G ops false (⟨dst, .move a,ty,pos,af,some (j,w)⟩ :: r) s K = guardO (dstAt ops j) s.T w (drawO P G ops false ⟨dst, .move a,ty,pos,af,some (j,w)⟩ r s K) (drawX P G ops false r (s.set s.H dst UD) K) := dx_guard rfl rfl
theorem dx_assign {a : Operand} : drawX P G ops b (⟨dst, .assign a,ty,pos,af,none⟩ :: r) s K = (okX b (.assign a) ∧ drawO P G ops b ⟨dst, .assign a,ty,pos,af,none⟩ r s K) := dx_cons rfl
theorem dg_assign {a : Operand} {j : Nat} {w : Bool} : drawX P G ops false (⟨dst, .assign a,ty,pos,af,some (j,w)⟩ :: r) s K = guardO (dstAt ops j) s.T w (drawO P G ops false ⟨dst, .assign a,ty,pos,af,some (j,w)⟩ r s K) (drawX P G ops false r (s.set s.H dst UD) K) := dx_guard rfl rfl
theorem dx_pick {a c d : Operand} : drawX P G ops b (⟨dst, .pick a c d,ty,pos,af,none⟩ :: r) s K = (okX b (.pick a c d) ∧ drawO P G ops b ⟨dst, .pick a c d,ty,pos,af,none⟩ r s K) := dx_cons rfl
theorem dg_pick {a c d : Operand} {j : Nat} {w : Bool} : drawX P G ops false (⟨dst, .pick a c d,ty,pos,af,some (j,w)⟩ :: r) s K = guardO (dstAt ops j) s.T w (drawO P G ops false ⟨dst, .pick a c d,ty,pos,af,some (j,w)⟩ r s K) (drawX P G ops false r (s.set s.H dst UD) K) := dx_guard rfl rfl
theorem dx_bin {o : BinOp} {t t' : TypeId} {a c : Operand} : drawX P G ops b (⟨dst, .binOp o t a c t',ty,pos,af,none⟩ :: r) s K = (okX b (.binOp o t a c t') ∧ drawO P G ops b ⟨dst, .binOp o t a c t',ty,pos,af,none⟩ r s K) := dx_cons rfl
theorem dg_bin {o : BinOp} {t t' : TypeId} {a c : Operand} {j : Nat} {w : Bool} : drawX P G ops false (⟨dst, .binOp o t a c t',ty,pos,af,some (j,w)⟩ :: r) s K = guardO (dstAt ops j) s.T w (drawO P G ops false ⟨dst, .binOp o t a c t',ty,pos,af,some (j,w)⟩ r s K) (drawX P G ops false r (s.set s.H dst UD) K) := dx_guard rfl rfl
theorem dx_un {o : UnOp} {t : TypeId} {a : Operand} : drawX P G ops b (⟨dst, .unOp o t a,ty,pos,af,none⟩ :: r) s K = (okX b (.unOp o t a) ∧ drawO P G ops b ⟨dst, .unOp o t a,ty,pos,af,none⟩ r s K) := dx_cons rfl
theorem dg_un {o : UnOp} {t : TypeId} {a : Operand} {j : Nat} {w : Bool} : drawX P G ops false (⟨dst, .unOp o t a,ty,pos,af,some (j,w)⟩ :: r) s K = guardO (dstAt ops j) s.T w (drawO P G ops false ⟨dst, .unOp o t a,ty,pos,af,some (j,w)⟩ r s K) (drawX P G ops false r (s.set s.H dst UD) K) := dx_guard rfl rfl
theorem dx_build {t : TypeId} {ps : Array (Nat × Operand)} : drawX P G ops b (⟨dst, .build t ps,ty,pos,af,none⟩ :: r) s K = (okX b (.build t ps) ∧ drawO P G ops b ⟨dst, .build t ps,ty,pos,af,none⟩ r s K) := dx_cons rfl
theorem dg_build {t : TypeId} {ps : Array (Nat × Operand)} {j : Nat} {w : Bool} : drawX P G ops false (⟨dst, .build t ps,ty,pos,af,some (j,w)⟩ :: r) s K = guardO (dstAt ops j) s.T w (drawO P G ops false ⟨dst, .build t ps,ty,pos,af,some (j,w)⟩ r s K) (drawX P G ops false r (s.set s.H dst UD) K) := dx_guard rfl rfl
theorem dx_buildSlice {t : TypeId} {m : Nat} {ps : Array (Nat × Operand)} : drawX P G ops b (⟨dst, .buildSlice t m ps,ty,pos,af,none⟩ :: r) s K = (okX b (.buildSlice t m ps) ∧ drawO P G ops b ⟨dst, .buildSlice t m ps,ty,pos,af,none⟩ r s K) := dx_cons rfl
theorem dg_buildSlice {t : TypeId} {m : Nat} {ps : Array (Nat × Operand)} {j : Nat} {w : Bool} : drawX P G ops false (⟨dst, .buildSlice t m ps,ty,pos,af,some (j,w)⟩ :: r) s K = guardO (dstAt ops j) s.T w (drawO P G ops false ⟨dst, .buildSlice t m ps,ty,pos,af,some (j,w)⟩ r s K) (drawX P G ops false r (s.set s.H dst UD) K) := dx_guard rfl rfl
theorem dx_load {t : TypeId} {a : Operand} : drawX P G ops b (⟨dst, .load t a,ty,pos,af,none⟩ :: r) s K = (okX b (.load t a) ∧ drawO P G ops b ⟨dst, .load t a,ty,pos,af,none⟩ r s K) := dx_cons rfl
theorem dg_load {t : TypeId} {a : Operand} {j : Nat} {w : Bool} : drawX P G ops false (⟨dst, .load t a,ty,pos,af,some (j,w)⟩ :: r) s K = guardO (dstAt ops j) s.T w (drawO P G ops false ⟨dst, .load t a,ty,pos,af,some (j,w)⟩ r s K) (drawX P G ops false r (s.set s.H dst UD) K) := dx_guard rfl rfl
theorem dx_nilCheck {a : Operand} : drawX P G ops b (⟨dst, .nilCheck a,ty,pos,af,none⟩ :: r) s K = (okX b (.nilCheck a) ∧ drawO P G ops b ⟨dst, .nilCheck a,ty,pos,af,none⟩ r s K) := dx_cons rfl
theorem dg_nilCheck {a : Operand} {j : Nat} {w : Bool} : drawX P G ops false (⟨dst, .nilCheck a,ty,pos,af,some (j,w)⟩ :: r) s K = guardO (dstAt ops j) s.T w (drawO P G ops false ⟨dst, .nilCheck a,ty,pos,af,some (j,w)⟩ r s K) (drawX P G ops false r (s.set s.H dst UD) K) := dx_guard rfl rfl
theorem dx_conv {t t' : TypeId} {a : Operand} : drawX P G ops b (⟨dst, .convert t t' a,ty,pos,af,none⟩ :: r) s K = (okX b (.convert t t' a) ∧ drawO P G ops b ⟨dst, .convert t t' a,ty,pos,af,none⟩ r s K) := dx_cons rfl
theorem dg_conv {t t' : TypeId} {a : Operand} {j : Nat} {w : Bool} : drawX P G ops false (⟨dst, .convert t t' a,ty,pos,af,some (j,w)⟩ :: r) s K = guardO (dstAt ops j) s.T w (drawO P G ops false ⟨dst, .convert t t' a,ty,pos,af,some (j,w)⟩ r s K) (drawX P G ops false r (s.set s.H dst UD) K) := dx_guard rfl rfl
theorem dx_extract {a : Operand} {i : Nat} : drawX P G ops b (⟨dst, .extract a i,ty,pos,af,none⟩ :: r) s K = (okX b (.extract a i) ∧ drawO P G ops b ⟨dst, .extract a i,ty,pos,af,none⟩ r s K) := dx_cons rfl
theorem dg_extract {a : Operand} {i : Nat} {j : Nat} {w : Bool} : drawX P G ops false (⟨dst, .extract a i,ty,pos,af,some (j,w)⟩ :: r) s K = guardO (dstAt ops j) s.T w (drawO P G ops false ⟨dst, .extract a i,ty,pos,af,some (j,w)⟩ r s K) (drawX P G ops false r (s.set s.H dst UD) K) := dx_guard rfl rfl
theorem dx_fieldAddr {t : TypeId} {a : Operand} {i : Nat} : drawX P G ops b (⟨dst, .fieldAddr t a i,ty,pos,af,none⟩ :: r) s K = (okX b (.fieldAddr t a i) ∧ drawO P G ops b ⟨dst, .fieldAddr t a i,ty,pos,af,none⟩ r s K) := dx_cons rfl
theorem dg_fieldAddr {t : TypeId} {a : Operand} {i : Nat} {j : Nat} {w : Bool} : drawX P G ops false (⟨dst, .fieldAddr t a i,ty,pos,af,some (j,w)⟩ :: r) s K = guardO (dstAt ops j) s.T w (drawO P G ops false ⟨dst, .fieldAddr t a i,ty,pos,af,some (j,w)⟩ r s K) (drawX P G ops false r (s.set s.H dst UD) K) := dx_guard rfl rfl
theorem dx_field {t : TypeId} {a : Operand} {i : Nat} : drawX P G ops b (⟨dst, .field t a i,ty,pos,af,none⟩ :: r) s K = (okX b (.field t a i) ∧ drawO P G ops b ⟨dst, .field t a i,ty,pos,af,none⟩ r s K) := dx_cons rfl
theorem dg_field {t : TypeId} {a : Operand} {i : Nat} {j : Nat} {w : Bool} : drawX P G ops false (⟨dst, .field t a i,ty,pos,af,some (j,w)⟩ :: r) s K = guardO (dstAt ops j) s.T w (drawO P G ops false ⟨dst, .field t a i,ty,pos,af,some (j,w)⟩ r s K) (drawX P G ops false r (s.set s.H dst UD) K) := dx_guard rfl rfl
theorem dx_indexAddr {t : TypeId} {a c : Operand} : drawX P G ops b (⟨dst, .indexAddr t a c,ty,pos,af,none⟩ :: r) s K = (okX b (.indexAddr t a c) ∧ drawO P G ops b ⟨dst, .indexAddr t a c,ty,pos,af,none⟩ r s K) := dx_cons rfl
theorem dg_indexAddr {t : TypeId} {a c : Operand} {j : Nat} {w : Bool} : drawX P G ops false (⟨dst, .indexAddr t a c,ty,pos,af,some (j,w)⟩ :: r) s K = guardO (dstAt ops j) s.T w (drawO P G ops false ⟨dst, .indexAddr t a c,ty,pos,af,some (j,w)⟩ r s K) (drawX P G ops false r (s.set s.H dst UD) K) := dx_guard rfl rfl
theorem dx_index {t : TypeId} {a c : Operand} : drawX P G ops b (⟨dst, .index t a c,ty,pos,af,none⟩ :: r) s K = (okX b (.index t a c) ∧ drawO P G ops b ⟨dst, .index t a c,ty,pos,af,none⟩ r s K) := dx_cons rfl
theorem dg_index {t : TypeId} {a c : Operand} {j : Nat} {w : Bool} : drawX P G ops false (⟨dst, .index t a c,ty,pos,af,some (j,w)⟩ :: r) s K = guardO (dstAt ops j) s.T w (drawO P G ops false ⟨dst, .index t a c,ty,pos,af,some (j,w)⟩ r s K) (drawX P G ops false r (s.set s.H dst UD) K) := dx_guard rfl rfl
theorem dx_slice {t : TypeId} {a : Operand} {lo hi : Option Operand} : drawX P G ops b (⟨dst, .slice t a lo hi none,ty,pos,af,none⟩ :: r) s K = (okX b (.slice t a lo hi none) ∧ drawO P G ops b ⟨dst, .slice t a lo hi none,ty,pos,af,none⟩ r s K) := dx_cons rfl
theorem dg_slice {t : TypeId} {a : Operand} {lo hi : Option Operand} {j : Nat} {w : Bool} : drawX P G ops false (⟨dst, .slice t a lo hi none,ty,pos,af,some (j,w)⟩ :: r) s K = guardO (dstAt ops j) s.T w (drawO P G ops false ⟨dst, .slice t a lo hi none,ty,pos,af,some (j,w)⟩ r s K) (drawX P G ops false r (s.set s.H dst UD) K) := dx_guard rfl rfl
theorem dx_call {q : Call} : drawX P G ops b (⟨dst, .call q,ty,pos,af,none⟩ :: r) s K = (okX b (.call q) ∧ drawO P G ops b ⟨dst, .call q,ty,pos,af,none⟩ r s K) := dx_cons rfl
theorem dg_call {q : Call} {j : Nat} {w : Bool} : drawX P G ops false (⟨dst, .call q,ty,pos,af,some (j,w)⟩ :: r) s K = guardO (dstAt ops j) s.T w (drawO P G ops false ⟨dst, .call q,ty,pos,af,some (j,w)⟩ r s K) (drawX P G ops false r (s.set s.H dst UD) K) := dx_guard rfl rfl
end
end
end Go.Proofs.YtoeajbhlkccekaaDoor

namespace Go.Proofs.YtoeajbhlkccekaaDoor
open Go.RowKit
section
variable {P : Program} {G : Gl} {H : List AObj} {x y z : AV} {K K' : AV → Prop} {t : TypeId}
theorem nth_mono {l : List AV} {i : Nat} (q : ∀ d,K d → K' d) (h : nth l i K) : nth l i K' := by
 obtain ⟨d,h1,h2⟩ := h
 exact ⟨d,h1,q _ h2⟩
theorem nthO_mono {l : List AObj} {i : Nat} {K K' : AObj → Prop} (q : ∀ d,K d → K' d) (h : nthO l i K) : nthO l i K' := by
 obtain ⟨d,h1,h2⟩ := h
 exact ⟨d,h1,q _ h2⟩
theorem aInt_mono {op : BinOp} {k k' : IntKind} {a b : Int} (q : ∀ d,K d → K' d) (h : aInt op k a k' b K) : aInt op k a k' b K' := by
 cases op <;> simp only [aInt] at h ⊢ <;> first|exact ⟨h.1,q _ h.2⟩|exact ⟨h.1,h.2.1,q _ h.2.2⟩
theorem aStr_mono {op : BinOp} {a b : ByteArray} (q : ∀ d,K d → K' d) (h : aStr op a b K) : aStr op a b K' := by
 cases op <;> simp only [aStr] at h ⊢ <;> first|exact ⟨h.1,q _ h.2⟩|exact q _ h
theorem aBin_mono {op : BinOp} (q : ∀ d,K d → K' d) (h : aBin P t op x y K) : aBin P t op x y K' := by
 unfold aBin at h ⊢
 split at h
 ·obtain ⟨us,vs,b,h1,h2,h3,h4⟩ := h;exact ⟨us,vs,b,h1,h2,h3,q _ h4⟩
 ·exact aInt_mono q h
 ·exact aStr_mono q h
 ·refine ⟨h.1,?_⟩
  have h := h.2
  split at h
  ·exact q _ h
  ·exact q _ h
  ·exact h
 ·refine ⟨h.1,?_⟩
  have h := h.2
  split at h
  ·exact q _ h
  ·exact q _ h
  ·exact h
 ·exact h
theorem aUn_mono {op : UnOp} (q : ∀ d,K d → K' d) (h : aUn op x K) : aUn op x K' := by
 unfold aUn at h ⊢
 split at h
 ·exact q _ h
 ·exact q _ h
 ·exact q _ h
 ·exact h
theorem aPick_mono (q : ∀ d,K d → K' d) (h : aPick x y z K) : aPick x y z K' := by
 unfold aPick at h ⊢
 split at h
 ·exact q _ h
 ·exact h
theorem aExtract_mono {i : Nat} (q : ∀ d,K d → K' d) (h : aExtract x i K) : aExtract x i K' := by
 unfold aExtract at h ⊢
 split at h
 ·exact nth_mono q h
 ·exact h
theorem aLoad_mono {k : Nat} (q : ∀ d,K d → K' d) (h : aLoad k H x K) : aLoad k H x K' := by
 unfold aLoad at h ⊢
 split at h
 ·exact ⟨h.1,q _ h.2⟩
 ·exact ⟨h.1,q _ h.2⟩
 ·exact nthO_mono (fun ob h=>cellsP_mono h fun l h=>ofCells_mono h q) h
 ·exact h
theorem aStore_mono {k : Nat} {K K' : List AObj → Prop} (q : ∀ d,K d → K' d) (h : aStore k H x y K) : aStore k H x y K' := by
 unfold aStore at h ⊢
 split at h
 ·exact nthO_mono (fun ob h=>putP_mono h fun l h=>q _ h) h
 ·exact h
theorem aField_mono {f : Option (Nat × Nat)} (q : ∀ d,K d → K' d) (h : aField f x K) : aField f x K' := by
 unfold aField at h ⊢
 split at h
 ·split at h
  ·exact ofCells_mono h fun d=>q _
  ·exact q _ h
  ·exact h
 ·exact h
theorem aFieldV_mono {f : Option (Nat × Nat)} (q : ∀ d,K d → K' d) (h : aFieldV f x K) : aFieldV f x K' := by
 unfold aFieldV at h ⊢
 split at h
 ·split at h
  ·exact ofCells_mono h q
  ·exact h
 ·exact h
theorem aIndexS_mono {k : Nat} (q : ∀ d,K d → K' d) (h : aIndexS k H x y K) : aIndexS k H x y K' := by
 unfold aIndexS at h ⊢
 split at h
 ·refine ⟨h.1,?_⟩
  have h2 := h.2
  split at h2
  ·exact ⟨h2.1,nthO_mono (fun ob h=>⟨h.1,h.2.1,h.2.2.1,q _ h.2.2.2⟩) h2.2⟩
  ·exact elemsOf_mono h2 fun es h=>nth_mono (fun d h=>⟨h.1,q _ h.2⟩) h
 ·exact h
theorem aIndexA_mono (q : ∀ d,K d → K' d) (h : aIndexA P t H x y K) : aIndexA P t H x y K' := by
 unfold aIndexA at h ⊢
 split at h
 ·exact aIndexS_mono q h
 ·split at h
  ·split at h
   ·refine ⟨h.1,h.2.1,?_⟩
    have h := h.2.2
    split at h
    ·exact ofCells_mono h fun d=>q _
    ·exact q _ h
    ·exact h
   ·exact h
  ·exact h
theorem aIndexV_mono (q : ∀ d,K d → K' d) (h : aIndexV P t x y K) : aIndexV P t x y K' := by
 unfold aIndexV at h ⊢
 split at h
 ·split at h
  ·exact ⟨h.1,h.2.1,h.2.2.1,q _ h.2.2.2⟩
  ·split at h
   ·exact ⟨h.1,h.2.1,ofCells_mono h.2.2 q⟩
   ·exact h
  ·exact h
 ·exact h
theorem aLen_mono (q : ∀ d,K d → K' d) (h : aLen P t H x K) : aLen P t H x K' := by
 unfold aLen at h ⊢
 split at h
 ·exact ⟨h.1,q _ h.2⟩
 ·exact ⟨h.1,q _ h.2⟩
 ·exact ⟨h.1,elemsOf_mono h.2 fun es=>q _⟩
theorem aNil_mono (q : ∀ d,K d → K' d) (h : aNil x K) : aNil x K' := by
 unfold aNil at h ⊢
 split at h
 ·exact q _ h
 ·exact q _ h
 ·exact h
theorem aConv_mono {t' : TypeId} (q : ∀ d,K d → K' d) (h : aConv P t t' x K) : aConv P t t' x K' := by
 unfold aConv at h ⊢
 split at h
 ·refine ⟨h.1,?_⟩
  have h := h.2
  split at h
  ·exact q _ h
  ·exact h
 ·rcases h with h|h
  ·exact .inl ⟨h.1,h.2.1,q _ h.2.2⟩
  ·exact .inr ⟨h.1,h.2.1,h.2.2.1,q _ h.2.2.2⟩
 ·refine ⟨h.1,h.2.1,?_⟩
  have h := h.2.2
  split at h
  ·exact q _ h
  ·exact h
 ·exact h
theorem aBuild_mono {ps : List (Nat × AV)} (q : ∀ d,K d → K' d) (h : aBuild P t ps K) : aBuild P t ps K' := by
 unfold aBuild at h ⊢
 split at h
 ·split at h
  ·exact q _ h
  ·exact h
 ·exact h
theorem aBuildS_mono {n : Nat} {ps : List (Nat × AV)} (q : ∀ d,K d → K' d) (h : aBuildS P t n ps K) : aBuildS P t n ps K' := by
 unfold aBuildS at h ⊢
 split at h
 ·exact ⟨h.1,h.2.1,h.2.2.1,h.2.2.2.1,q _ h.2.2.2.2⟩
 ·exact h
theorem aSlice_mono {lo hi : Option AV} (q : ∀ d,K d → K' d) (h : aSlice P t H x lo hi K) : aSlice P t H x lo hi K' := by
 unfold aSlice at h ⊢
 split at h
 ·exact ⟨h.1,asI_mono h.2 fun l h=>asI_mono h fun u h=>⟨h.1,h.2.1,h.2.2.1,q _ h.2.2.2⟩⟩
 ·split at h
  ·exact elemsOf_mono h fun es h=>⟨h.1,asI_mono h.2 fun l h=>asI_mono h fun u h=>⟨h.1,h.2.1,h.2.2.1,q _ h.2.2.2⟩⟩
  ·exact h
theorem aAppS_mono_ {K K' : AV → List AObj → Prop} (m : ∀ y,aApp P t H x y K → aApp P t H x y K') (h : aAppS P t H x y K) : aAppS P t H x y K' := by
 unfold aAppS at h ⊢
 split at h
 ·exact m _ h
 ·exact h.elim
theorem aApp_mono {K K' : AV → List AObj → Prop} (q : ∀ d H,K d H → K' d H) (h : aApp P t H x y K) : aApp P t H x y K' := by
 unfold aApp at h ⊢
 split at h
 ·refine elemsOf_mono h fun es h=>⟨h.1,?_⟩
  have h := h.2
  split at h
  ·exact ⟨h.1,q _ _ h.2⟩
  ·exact ⟨h.1,q _ _ h.2⟩
  ·exact nthO_mono (fun ob h=>⟨h.1,h.2.1,h.2.2.1,h.2.2.2.1,h.2.2.2.2.1,q _ _ h.2.2.2.2.2⟩) h
  ·exact h
 ·exact h
theorem aCallV_mono {args : List AV} {K K' : AV → List AObj → Prop} (q : ∀ d H,K d H → K' d H) (h : aCallV P G x args H K) : aCallV P G x args H K' := by
 unfold aCallV at h ⊢
 split at h
 ·exact h.mono q
 ·exact h.mono q
 ·exact h
theorem aMM_mono {mx : Bool} {x y : AV} {K K' : AV → Prop} (q : ∀ d,K d → K' d) (h : aMM mx x y K) : aMM mx x y K' := by
 unfold aMM at h ⊢
 split at h
 ·exact ⟨h.1,q _ h.2⟩
 ·exact h
theorem stepOp_mono {o : Oper} {s : ASt} {K K' : AV → List AObj → Prop} (q : ∀ d H,K d H → K' d H) (h : stepOp P G o s K) : stepOp P G o s K' := by
 obtain ⟨dst,op,ty,pos,af,gd⟩ := o
 unfold stepOp at h ⊢
 dsimp only at h ⊢
 split at h
 ·exact q _ _ h
 ·exact q _ _ h
 ·exact aPick_mono (fun d=>q d _) h
 ·exact aBin_mono (fun d=>q d _) h
 ·exact aUn_mono (fun d=>q d _) h
 ·split at h
  ·exact q _ _ h
  ·exact h
 ·exact ⟨h.1,q _ _ h.2⟩
 ·exact aBuild_mono (fun d=>q d _) h
 ·exact aBuildS_mono (fun d=>q d _) h
 ·exact aLoad_mono (fun d=>q d _) h
 ·exact aStore_mono (fun H=>q _ H) h
 ·exact aNil_mono (fun d=>q d _) h
 ·exact aConv_mono (fun d=>q d _) h
 ·exact aExtract_mono (fun d=>q d _) h
 ·exact aField_mono (fun d=>q d _) h
 ·exact aFieldV_mono (fun d=>q d _) h
 ·exact aIndexA_mono (fun d=>q d _) h
 ·exact aIndexV_mono (fun d=>q d _) h
 ·exact aSlice_mono (fun d=>q d _) h
 ·exact AC.mono h q
 ·exact ⟨h.1,q _ _ h.2⟩
 ·exact aCallV_mono q h
 ·exact aLen_mono (fun d=>q d _) h
 ·split at h
  ·rename_i e;rw [if_pos e];exact aApp_mono q h
  ·rename_i e;rw [if_neg e];exact ⟨h.1,aAppS_mono_ (fun _=>aApp_mono q) h.2⟩
 ·exact aMM_mono (fun d=>q d _) h
 ·exact aMM_mono (fun d=>q d _) h
 ·exact h
theorem callD_mono {f : FuncId} {args : List AV} (q : ∀ d,K d → K' d) (h : callD P G f args K) : callD P G f args K' := by
 obtain ⟨X,h1,h2,h3⟩ := h
 exact ⟨X,h1,h2,q _ h3⟩
theorem stepOp_still {o : Oper} {s : ASt} {K : AV → List AObj → Prop} (hl : loud o.op = false) (h : stepOp P G o s K) : stepOp P G o s fun d H'=>H' = s.H ∧ K d H' := by
 obtain ⟨dst,op,ty,pos,af,gd⟩ := o
 unfold stepOp at h ⊢
 dsimp only at h ⊢ hl
 split at h
 ·exact ⟨rfl,h⟩
 ·exact ⟨rfl,h⟩
 ·exact aPick_mono (fun d h=>⟨rfl,h⟩) h
 ·exact aBin_mono (fun d h=>⟨rfl,h⟩) h
 ·exact aUn_mono (fun d h=>⟨rfl,h⟩) h
 ·cases hl
 ·cases hl
 ·exact aBuild_mono (fun d h=>⟨rfl,h⟩) h
 ·exact aBuildS_mono (fun d h=>⟨rfl,h⟩) h
 ·exact aLoad_mono (fun d h=>⟨rfl,h⟩) h
 ·cases hl
 ·exact aNil_mono (fun d h=>⟨rfl,h⟩) h
 ·exact aConv_mono (fun d h=>⟨rfl,h⟩) h
 ·exact aExtract_mono (fun d h=>⟨rfl,h⟩) h
 ·exact aField_mono (fun d h=>⟨rfl,h⟩) h
 ·exact aFieldV_mono (fun d h=>⟨rfl,h⟩) h
 ·exact aIndexA_mono (fun d h=>⟨rfl,h⟩) h
 ·exact aIndexV_mono (fun d h=>⟨rfl,h⟩) h
 ·exact aSlice_mono (fun d h=>⟨rfl,h⟩) h
 ·cases hl
 ·cases hl
 ·cases hl
 ·exact aLen_mono (fun d h=>⟨rfl,h⟩) h
 ·cases hl
 ·cases hl
 ·cases hl
 ·exact h
theorem guardA_mono {w : Bool} {A B A' B' : Prop} (ha : A → A') (hb : B → B') (h : guardA x w A B) : guardA x w A' B' := by
 unfold guardA at h ⊢
 split at h
 ·exact ⟨fun e=>ha (h.1 e),fun e=>hb (h.2 e)⟩
 ·exact hb h
 ·exact h
theorem runOps_mono {ops : List Oper} {K K' : ASt → Prop} (q : ∀ s,K s → K' s) : ∀ {l : List Oper} {s : ASt},runOps P G ops l s K → runOps P G ops l s K'
 |[],s,h=>q s h
 |o :: r,s,h=>by
  unfold runOps at h ⊢
  split at h
  ·rename_i hg;exact stepOp_mono (fun d H=>runOps_mono q) h
  ·rename_i j want hg
   split at h
   ·exact guardA_mono (stepOp_mono fun d H=>runOps_mono q) (runOps_mono q) h
   ·exact h.elim
theorem stepD_mono {o : Oper} {s : ASt} (q : ∀ d,K d → K' d) (h : stepD P G o s K) : stepD P G o s K' := by
 obtain ⟨dst,op,ty,pos,af,gd⟩ := o
 unfold stepD at h ⊢
 dsimp only at h ⊢
 split at h
 ·exact callD_mono q h
 ·exact ⟨h.1,stepOp_mono (fun d H w=>⟨w.1,q _ w.2⟩) h.2⟩
end
end Go.Proofs.YtoeajbhlkccekaaDoor

