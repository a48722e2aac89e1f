/-
  Texts laid together, part 3 of 8: laws of a walk over data, contracts of functions, each whole by itself.
-/
import Derived.Test.YtaaogcnjfkgnoaaMgb
import Derived.Test.YtaaogcnjfkgnoaaProg
import Derived.KernelRfl
import Derived.Test.YtaaogcnjfkgnoaaMga
import Derived.Lib.Zigzag
import Derived.WalkSmall
import Derived.Test.YtaaogcnjfkgnoaaRows
import Derived.Shelf.Spec.SlicesInsert
import Derived.Lib.AppendZerosOnto
import Derived.Laws.CopyRow
import Derived.RangeFuncLeaves
import Derived.RangeFuncRecord
import Derived.RangeFuncCalls
import Derived.RangeFuncSeq
import Derived.TacticsIn
set_option maxRecDepth 100000
noncomputable section
set_option linter.unusedVariables false
set_option linter.unusedSimpArgs false
namespace Go.Proofs.Ytaaogcnjfkgnoaa
open Go.RowKit
def pnK (K : AV → List AObj → Prop) (KP : Value → List AObj → Prop) : AV → List AObj → Prop
 |.iface _ (.held (.inl u)),H=>KP u H
 |d,H=>K d H
theorem zxr {K : AV → List AObj → Prop} {KP : Value → List AObj → Prop} {d : AV} {H : List AObj} {S : SS} {μ : List Value} {v : Value} (h : pnK K KP d H) (hr : rep S μ d v) : K d H := by
 unfold pnK at h
 split at h
 ·exact hr.elim
 ·exact h
def ifv : AV → Option Value
 |.held (.inl u)=>some u
 |.agg cs=>(match zrM cs with|some us=>some (.agg us.toArray)|none=>none)
 |_=>none
theorem zEx {d : AV} {u v : Value} {S : SS} {μ : List Value} (h : ifv d = some u) (hr : rep S μ d v) : v = u := by
 unfold ifv at h
 split at h
 ·cases h;exact hr.1
 ·rename_i cs
  split at h
  ·rename_i us hus
   cases h
   obtain ⟨us',rfl,h2⟩ := hr
   have := zfZ hus
   subst this
   rw [zm1 h2]
  ·cases h
 ·cases h
section
variable {P : Program} {G : Gl} {w : World} {S : SS} {μ : List Value} {H : List AObj} {a : Act} {o : Oper} {K : AV → List AObj → Prop} {KP : Value → List AObj → Prop} {Q : Exit → Act → World → Prop} {T : Tm} {N : FS}
def zub (w : World) (S : SS) (μ : List Value) (H : List AObj) (a : Act) (KP : Value → List AObj → Prop) (e : Exit) (a' : Act) (w' : World) : Prop :=
 ∃ u H' S' μ',e = .panic [{ v := u,recovered := false }] ∧ a' = a ∧ KP u H' ∧ Rel w' S' μ' H' ∧ Step H.length w S μ H w' S' μ' H'
theorem zyY {f : FuncId} {args : Array Operand} {ts : Array TypeId} (hrel : Rel w S μ H) (hf : Fr S μ N T a) (hg : GOk G S) (ho : o.op = .call { callee := .value (.func f),args := args,argTypes := ts })
  (h : ACx P G f ((args.toList.map (ev G T)).map (ro H)) H (pnK K KP)) : o.wp P a w (z4i w S μ H a o K) (zub w S μ H a KP) := by
 unfold Oper.wp
 rw [zlE h.1 ho rfl]
 have hc := h.2 w S μ (args.toList.map a.eval) hrel hg (by rw [List.length_map,List.length_map,List.length_map]) (fun j d v hd hv=>by
  rw [List.getElem?_map,List.getElem?_map] at hd
  rw [List.getElem?_map] at hv
  cases hx : args.toList[j]? with
  |none=>rw [hx] at hd;cases hd
  |some x =>
   rw [hx] at hd hv
   simp only [Option.map_some,Option.some.injEq] at hd hv
   subst hd hv
   exact (hf.ev hg x).toRo hrel)
 have e : (args.toList.map a.eval).toArray = args.map a.eval := by rw [← Array.toList_map,Array.toArray_toList]
 rw [e] at hc
 refine hc.mono fun e w' q=>?_
 rcases q with ⟨v,r,H',S',μ',he,hR,hrel',hrep,hst⟩|⟨u,H',S',μ',he,hR,hrel',hst⟩
 ·subst he
  exact ⟨r,v,H',S',μ',zxr hR hrep,rfl,hrep,hrel',hst,fun q=>by rw [ho] at q;cases q⟩
 ·subst he
  exact ⟨u,H',S',μ',rfl,rfl,hR,hrel',hst⟩
def zpS (P : Program) (G : Gl) (x : AV) (args : List AV) (H : List AObj) (K : AV → List AObj → Prop) : Prop :=
 match x with
 |.slice caps [.held (.inl (.func (.func f) _ _)), .held (.inr (.inl (k,_)))]=>ACx P G f ((caps.take k ++ args ++ caps.drop k).map (ro H)) H K
 |_=>False
theorem zwb {t : Tmp} {args : Array Operand} {ts : Array TypeId} (hrel : Rel w S μ H) (hf : Fr S μ N T a) (hg : GOk G S) (ho : o.op = .call { callee := .value (.tmp t),args := args,argTypes := ts })
  (h : zpS P G (get T t) (args.toList.map (ev G T)) H (pnK K KP)) : o.wp P a w (z4i w S μ H a o K) (zub w S μ H a KP) := by
 have hl : loud o.op = true := by rw [ho];rfl
 unfold zpS at h
 split at h
 ·rename_i caps f f1 f2 k k2 hT
  have hs := hf.slot t
  rw [hT] at hs
  obtain ⟨us,hu,hul,hur⟩ := hs
  have ht : a.eval (.tmp t) = .func (.func f) (us.take k).toArray (us.drop k).toArray := hu
  unfold Oper.wp
  rw [zjj h.1 ho ht]
  have hrc : ∀ (j : Nat) (d : AV) (v : Value),caps[j]? = some d → us[j]? = some v → rep S μ d v := fun j d v hd hv=>zn8 (hur j d v hd hv)
  have hc := h.2 w S μ (us.take k ++ args.toList.map a.eval ++ us.drop k) hrel hg (by simp [hul]) (fun j d v hd hv=>by
   rw [List.getElem?_map] at hd
   cases hx : (caps.take k ++ args.toList.map (ev G T) ++ caps.drop k)[j]? with
   |none=>rw [hx] at hd;cases hd
   |some x =>
    rw [hx] at hd
    simp only [Option.map_some,Option.some.injEq] at hd
    subst hd
    refine rep.toRo hrel ?_
    have hlt : (us.take k).length = (caps.take k).length := by simp [hul]
    rcases Nat.lt_or_ge j (caps.take k ++ args.toList.map (ev G T)).length with hj|hj
    ·rw [List.getElem?_append_left hj] at hx
     rw [List.getElem?_append_left (by simp only [List.length_append,List.length_map,hlt] at hj ⊢;exact hj)] at hv
     rcases Nat.lt_or_ge j (caps.take k).length with hj2|hj2
     ·rw [List.getElem?_append_left hj2] at hx
      rw [List.getElem?_append_left (by rw [hlt];exact hj2)] at hv
      rw [List.getElem?_take] at hx hv
      split at hx
      ·rw [if_pos (by assumption)] at hv;exact hrc j x v hx hv
      ·cases hx
     ·rw [List.getElem?_append_right hj2] at hx
      rw [List.getElem?_append_right (by rw [hlt];exact hj2),hlt] at hv
      rw [List.getElem?_map] at hx hv
      cases hy : args.toList[j - (caps.take k).length]? with
      |none=>rw [hy] at hx;cases hx
      |some y =>
       rw [hy] at hx hv
       simp only [Option.map_some,Option.some.injEq] at hx hv
       subst hx hv
       exact hf.ev hg y
    ·rw [List.getElem?_append_right hj] at hx
     have hle : (us.take k ++ args.toList.map a.eval).length = (caps.take k ++ args.toList.map (ev G T)).length := by simp [hul]
     rw [List.getElem?_append_right (by rw [hle];exact hj),hle] at hv
     rw [List.getElem?_drop] at hx hv
     exact hrc _ x v hx hv)
  have e : (us.take k ++ args.toList.map a.eval ++ us.drop k).toArray = (us.take k).toArray ++ args.map a.eval ++ (us.drop k).toArray := by
   apply Array.ext'
   simp
  rw [e] at hc
  refine hc.mono fun e w' q=>?_
  rcases q with ⟨v,r,H',S',μ',he,hR,hrel',hrep,hst⟩|⟨u,H',S',μ',he,hR,hrel',hst⟩
  ·subst he
   exact ⟨r,v,H',S',μ',zxr hR hrep,rfl,hrep,hrel',hst,fun q=>by rw [hl] at q;cases q⟩
  ·subst he
   exact ⟨u,H',S',μ',rfl,rfl,hR,hrel',hst⟩
 ·exact h.elim
def zeQ (P : Program) (G : Gl) (o : Oper) (s : ASt) (K : AV → List AObj → Prop) (KP : Value → List AObj → Prop) : Prop :=
 match o.op with
 |.panic x=>∃ t v,ev G s.T x = V (.iface t v) ∧ KP (.iface t v) s.H
 |.makeInterface t x=>P.concrete t = true ∧ ∃ u,ifv (ev G s.T x) = some u ∧ K (V (.iface t u)) s.H
 |.call { callee := .value (.func f),args := args,argTypes := _ }=>ACx P G f ((args.toList.map (ev G s.T)).map (ro s.H)) s.H (pnK K KP)
 |.call { callee := .value (.tmp t),args := args,argTypes := _ }=>zpS P G (get s.T t) (args.toList.map (ev G s.T)) s.H (pnK K KP)
 |_=>z0A P G o s K
theorem zsJ {s : ASt} (h : zeQ P G o s K KP) (hr : Rel w S μ s.H) (hf : Fr S μ N s.T a) (hg : GOk G S) : o.wp P a w (z4i w S μ s.H a o K) (zub w S μ s.H a KP) := by
 unfold zeQ at h
 split at h
 ·rename_i x hx
  obtain ⟨t,v,h1,h2⟩ := h
  have he := hf.ev hg x
  rw [h1] at he
  have he := he.1
  unfold Oper.wp
  have hrun : (execOp a.eval o).run P w = .halt (.panic (.iface t v)) w := by
   unfold execOp
   rw [hx]
   have hp : (Instr.panic (.iface t v)).run P w = .halt (.panic (.iface t v)) w := rfl
   simp [he,hp,Sem.run_bind]
  rw [hrun]
  exact ⟨_,_,_,_,rfl,rfl,h2,hr,Step.refl _ _ _ _ _⟩
 ·rename_i t x hx
  obtain ⟨h1,u,h2,h3⟩ := h
  have he := zEx h2 (hf.ev hg x)
  refine z4v (d := V (.iface t u)) (u := .iface t u) hr ?_ h3 ⟨rfl,rfl⟩
  unfold execOp
  rw [hx]
  have := run_makeInterface (P := P) (w := w) t u h1
  simp [he,Sem.run_bind,this]
 ·rename_i hx;exact zyY hr hf hg hx h
 ·rename_i hx;exact zwb hr hf hg hx h
 ·exact zfK h hr hf hg _
theorem zrL {T T' : Tm} (h : TEq T T') (hs : zeQ P G o ⟨H,T'⟩ K KP) : zeQ P G o ⟨H,T⟩ K KP := by
 have e : ∀ x,ev G T x = ev G T' x := fun x=>by cases x <;> first|exact h _|rfl
 have e1 : ev G T = ev G T' := funext e
 unfold zeQ at hs ⊢
 dsimp only at hs ⊢
 split at hs
 ·rw [e1];exact hs
 ·rw [e1];exact hs
 ·rw [e1];exact hs
 ·rw [e1,h];exact hs
 ·exact zcy h hs
def zmZ (P : Program) (G : Gl) : List Oper → ASt → (ASt → Prop) → (Value → ASt → Prop) → Prop
 |[],s,K,KP=>K s
 |o :: r,s,K,KP=>o.guard = none ∧ zeQ P G o s (fun d H=>zmZ P G r (s.set H o.dst d) K KP) (fun u H=>KP u ⟨H,s.T⟩)
theorem Oper.wp_both {P : Program} {o : Oper} {a : Act} {w : World} {K K' : Act → World → Prop} {Q Q' : Exit → Act → World → Prop} (hh : o.wp P a w K Q) (h : ∀ a w,K a w → K' a w) (hq : ∀ e a w,Q e a w → Q' e a w) : o.wp P a w K' Q' := by
 unfold Oper.wp at *
 generalize (execOp a.eval o).run P w = r at *
 cases r with
 |ok n w' =>
  cases n <;> simp only [Oper.upon] at hh ⊢ <;>
   first
    |exact h _ _ hh
    |exact Calls.mono hh (fun e w'' he=>by cases e <;> first|exact h _ _ he|exact hq _ _ _ he|(obtain ⟨a1,w1,h1⟩ := he;exact ⟨a1,w1,hq _ _ _ h1⟩))
    |exact Rows.mono hh (fun _ _ he=>h _ _ he)
 |halt x w'=>cases x <;> simp only [Oper.upon] at hh ⊢ <;> first|exact hq _ _ _ hh|(obtain ⟨a1,w1,h1⟩ := hh;exact ⟨a1,w1,hq _ _ _ h1⟩)|exact hh
theorem zpA {n : Nat} {ops : List Oper} {K : ASt → Prop} {KP : Value → ASt → Prop} {Q : Exit → ASt → Prop} (hK : ∀ s,K s → Q .normal s) (hP : ∀ u s,KP u s → Q (.panic [{ v := u,recovered := false }]) s) {w0 : World} {S0 : SS} {μ0 : List Value} {H0 : List AObj} (hn : n ≤ H0.length) (hl0 : μ0.length = H0.length) : ∀ (l : List Oper) (s : ASt),zmZ P G l s K KP → zNp N l = true →
  ∀ w S μ a,Rel w S μ s.H → Fr S μ N s.T a → GOk G S → Step n w0 S0 μ0 H0 w S μ s.H → wpList P ops.toArray (Lift N n w0 S0 μ0 H0 Q) l a w
 |[],s,h,_,w,S,μ,a,hr,hf,hg,hs=>⟨s,S,μ,hK s h,hr,hf,hs⟩
 |o :: r,s,h,hfit,w,S,μ,a,hr,hf,hg,hs=>by
  have hfit' := hfit
  simp only [zNp,List.all_cons,Bool.and_eq_true] at hfit'
  have hd : ∀ i,o.dst = some i → i < N.n := fun i e=>by have := hfit'.1;rw [e] at this;simpa using this
  obtain ⟨hgd,hstep⟩ := h
  have hn' : n ≤ s.H.length := by
   rcases Nat.lt_or_ge s.H.length n with hlt|hge
   ·have hlm : s.H.length < μ0.length := by omega
    obtain ⟨x',hx',_⟩ := hs.objs s.H.length μ0[s.H.length] hlt (List.getElem?_eq_getElem hlm)
    have := (List.getElem?_eq_some_iff.1 hx').1
    rw [hr.len] at this;omega
   ·exact hge
  unfold wpList
  rw [if_pos (by simp [Region.wanted,hgd])]
  refine .inl ?_
  refine _root_.Go.Proofs.Ytaaogcnjfkgnoaa.Oper.wp_both (zsJ hstep hr hf hg) (fun a' w'=>?_) (fun e a' w'=>?_)
  ·rintro ⟨d,u,H',S',μ',hrest,rfl,hrep,hr',hs',_⟩
   have hst := (hf.ext (hs'.toExt hr)).put o.dst hd hrep
   exact zpA hK hP hn hl0 r _ hrest hfit'.2 w' S' μ' _ hr' hst (hg.ext hs'.still) (hs.trans (hs'.less hn'))
  ·rintro ⟨u,H',S',μ',rfl,rfl,hk,hr',hs'⟩
   exact ⟨⟨H',s.T⟩,S',μ',hP _ _ hk,hr',hf.ext (hs'.toExt hr),hs.trans (hs'.less hn')⟩
theorem zs8 {n : Nat} {Q : Exit → ASt → Prop} {s : ASt} {id : Nat} {ops : List Oper} (hfit : zNp N ops = true) (hn : n ≤ s.H.length) (h : zmZ P G ops s (fun s=>Q .normal s) (fun u s=>Q (.panic [{ v := u,recovered := false }]) s)) : AWp P G N n (.region id ops.toArray false) Q s :=
 fun w S μ a hr hf hg=>wp_region_lit (zpA (K := fun s=>Q .normal s) (KP := fun u s=>Q (.panic [{ v := u,recovered := false }]) s) (fun s h=>h) (fun u s h=>h) hn hr.len ops s h hfit w S μ a hr hf hg (Step.refl _ _ _ _ _))
end
section
variable {R : Type} {P : Program} {G : Gl} {E : Env} {N : FS} {n : Nat} {o : Oper} {H : List AObj} {T T' : Tm}
def zMQ (m : RO) (K : AV → List AObj → Option R) (KP : Value → List AObj → Option R) : Option R := match m with
 |some (X,H')=>(match X with|.iface _ (.held (.inl u))=>KP u H'|X=>K X H')
 |none=>none
def zrK (e : Option Ent) (args : List AV) (H : List AObj) (K : AV → List AObj → Option R) (KP : Value → List AObj → Option R) : Option R :=
 match e with
 |some (.pan g)=>zMQ (g args H) K KP
 |e=>zq4 e args H K
theorem zvw {f : FuncId} {args : List AV} {X : AV} {H H0 : List AObj} {Rr : AV → List AObj → Prop} (h : ACx P G f args H (Is X H0)) (k : Rr X H0) : ACx P G f args H Rr :=
 h.mono fun r H' ⟨e1,e2⟩=>by subst e1 e2;exact k
theorem zGR {K : AV → List AObj → Prop} {KP : Value → List AObj → Prop} {d : AV} {H : List AObj} (h : K d H) (hn : ∀ t u,d ≠ .iface t (.held (.inl u))) : pnK K KP d H := by
 unfold pnK
 split
 ·exact (hn _ _ rfl).elim
 ·exact h
theorem AC.pn {f : FuncId} {args : List AV} {H : List AObj} {K : AV → List AObj → Prop} {KP : Value → List AObj → Prop} (h : AC P G f args H K) : ACx P G f args H (pnK K KP) :=
 ⟨h.1,fun w S μ vs hr hg hl hv=>(h.2 w S μ vs hr hg hl hv).mono fun e w' ⟨v,r,H',S',μ',he,hR,hr',hrep,hst⟩ =>
  .inl ⟨v,r,H',S',μ',he,zGR hR (fun t u e=>by subst e;exact hrep.elim),hr',hrep,hst⟩⟩
theorem zrq (hE : zaL P G E) {f : FuncId} {args : List AV} {H : List AObj} {K : AV → List AObj → Option R} {KP : Value → List AObj → Option R} {r : R} (h : zrK (zj9 E f) args H K KP = some r) : ACx P G f args H (pnK (fun d H'=>K d H' = some r) (fun u H'=>KP u H' = some r)) := by
 unfold zrK at h
 split at h
 ·rename_i g hg
  unfold zMQ at h
  split at h
  ·rename_i X H' hx
   refine zvw (hE _ _ (findE_mem hg) _ _ _ _ hx) ?_
   unfold pnK
   split at h
   ·exact h
   ·rename_i hne
    split
    ·exact (hne _ _ rfl).elim
    ·exact h
  ·cases h
 ·exact (znE hE h).pn
def zp7 (E : Env) (x : AV) (args : List AV) (H : List AObj) (K : AV → List AObj → Option R) (KP : Value → List AObj → Option R) : Option R :=
 match x with
 |.slice caps [.held (.inl (.func (.func f) _ _)), .held (.inr (.inl (k,_)))]=>zrK (zj9 E f) ((caps.take k ++ args ++ caps.drop k).map (ro H)) H K KP
 |_=>none
def zs4 (x : AV) (H : List AObj) (KP : Value → List AObj → Option R) : Option R := match x with|.held (.inl (.iface t v))=>KP (.iface t v) H|_=>none
def ifE (t : TypeId) (x : AV) (K : AV → Option R) : Option R := match ifv x with|some u=>K (V (.iface t u))|none=>none
def zB8 (P : Program) (G : Gl) (E : Env) (o : Oper) (s : ASt) (K : AV → List AObj → Option R) (KP : Value → List AObj → Option R) : Option R :=
 match o.op with
 |.panic x=>zs4 (ev G s.T x) s.H KP
 |.makeInterface t x=>z0C (P.concrete t) (ifE t (ev G s.T x) fun d=>K d s.H)
 |.call { callee := .value (.func f),args := args,argTypes := _ }=>zrK (zj9 E f) ((args.toList.map (ev G s.T)).map (ro s.H)) s.H K KP
 |.call { callee := .value (.tmp t),args := args,argTypes := _ }=>zp7 E (get s.T t) (args.toList.map (ev G s.T)) s.H K KP
 |_=>zoY P G E o s K
theorem zyq (hE : zaL P G E) {s : ASt} {K : AV → List AObj → Option R} {KP : Value → List AObj → Option R} {r : R} (h : zB8 P G E o s K KP = some r) : zeQ P G o s (fun d H'=>K d H' = some r) (fun u H'=>KP u H' = some r) := by
 obtain ⟨dst,op,ty,pos,af,gd⟩ := o
 unfold zB8 at h
 unfold zeQ
 dsimp only at h ⊢
 split at h
 ·unfold zs4 at h
  split at h
  ·rename_i t v hv;exact ⟨t,v,hv,h⟩
  ·cases h
 ·obtain ⟨h1,h2⟩ := z05 h
  unfold ifE at h2
  split at h2
  ·rename_i u hu;exact ⟨h1,u,hu,h2⟩
  ·cases h2
 ·exact zrq hE h
 ·unfold zpS
  unfold zp7 at h
  split at h
  ·rename_i caps f f1 f2 k k2 hT
   exact zrq hE h
  ·cases h
 ·exact zk7 hE h
def zLI (P : Program) (G : Gl) (E : Env) : List Oper → ASt → (ASt → Option R) → (Value → ASt → Option R) → Option R
 |[],s,K,KP=>K s
 |o :: r,s,K,KP=>match o.guard with
  |none=>zB8 P G E o s (fun d H=>zLI P G E r (s.set H o.dst d) K KP) (fun u H=>KP u ⟨H,s.T⟩)
  |some _=>none
def zLm (KP : Value → ASt → Option R) (r : R) (u : Value) (s1 : ASt) : Prop := ∃ T2,TEq s1.T T2 ∧ KP u ⟨s1.H,T2⟩ = some r
theorem zml {s : ASt} {K K' : AV → List AObj → Prop} {KP KP' : Value → List AObj → Prop} (q1 : ∀ d H,K d H → K' d H) (q2 : ∀ u H,KP u H → KP' u H) (h : zeQ P G o s K KP) : zeQ P G o s K' KP' := by
 have pk : ∀ d H,pnK K KP d H → pnK K' KP' d H := by
  intro d H h
  unfold pnK at h ⊢
  split at h
  ·exact q2 _ _ h
  ·exact q1 _ _ h
 unfold zeQ at h ⊢
 split at h
 ·obtain ⟨t,v,h1,h2⟩ := h;exact ⟨t,v,h1,q2 _ _ h2⟩
 ·obtain ⟨h1,u,h2,h3⟩ := h;exact ⟨h1,u,h2,q1 _ _ h3⟩
 ·exact h.mono pk
 ·unfold zpS at h ⊢
  split at h
  ·exact h.mono pk
  ·exact h.elim
 ·exact z5i q1 h
theorem zlL {K K' : ASt → Prop} {KP KP' : Value → ASt → Prop} (q1 : ∀ s,K s → K' s) (q2 : ∀ u s,KP u s → KP' u s) : ∀ {l : List Oper} {s : ASt},zmZ P G l s K KP → zmZ P G l s K' KP'
 |[],s,h=>q1 s h
 |o :: l,s,h=>⟨h.1,zml (fun d H q=>zlL q1 q2 q) (fun u H q=>q2 u _ q) h.2⟩
theorem zxp (hE : zaL P G E) {K : ASt → Option R} {KP : Value → ASt → Option R} {r : R} : ∀ {l : List Oper} {H : List AObj} {T T' : Tm},TEq T T' → zLI P G E l ⟨H,T'⟩ K KP = some r → zmZ P G l ⟨H,T⟩ (Aft K r) (zLm KP r)
 |[],H,T,T',ht,h=>⟨T',ht,h⟩
 |o :: l,H,T,T',ht,h=>by
  unfold zLI at h
  split at h
  ·rename_i hg
   refine ⟨hg,zrL ht (zml (fun d H' q=>?_) (fun u H' q=>?_) (zyq hE h))⟩
   ·exact zxp hE (ht.set H H H' o.dst d) q
   ·exact ⟨T',ht,q⟩
  ·cases h
def zyl : Nat × Ent → Bool|(_, .pan _)=>true|_=>false
def zMj (o : Oper) : Bool := match o.guard with|none=>true|some _=>false
def zMb (E : Env) (ops : List Oper) : Bool := E.any zyl && ops.all zMj
abbrev pch (u : Value) : List PanicEntry := [{ v := u,recovered := false }]
end
end Go.Proofs.Ytaaogcnjfkgnoaa

namespace Go.Proofs.Ytaaogcnjfkgnoaa
open Go.RowKit
section
variable {R : Type} {P : Program} {G : Gl} {E : Env} {N : FS} {n : Nat} {o : Oper} {H : List AObj} {T T' : Tm}
theorem zzM (hE : zaL P G E) {s : ASt} {K : AV → List AObj → Option R} {r : R} (hq : loud o.op = false ∨ ∃ f ags ts,o.op = .call { callee := .value (.func f),args := ags,argTypes := ts }) (h : zmy P G E true o s K = some r) :
  z3I P G o s fun d=>K d s.H = some r := by
 obtain ⟨dst,op,ty,pos,af,gd⟩ := o
 unfold zmy at h
 unfold z3I
 dsimp only at h ⊢ hq
 split at h
 ·exact zuq hE h
 ·rename_i hne
  have hl : loud op = false := by
   rcases hq with hq|⟨f,ags,ts,e⟩
   ·exact hq
   ·exact absurd e (hne f ags ts)
  have fin : loud op = false ∧ z0A P G ⟨dst,op,ty,pos,af,gd⟩ s (fun d H'=>H' = s.H ∧ K d s.H = some r) := by
   refine ⟨hl,z5i (fun d H q=>?_) (zqP hl (zk7 hE h))⟩
   obtain ⟨e,q⟩ := q
   subst e
   exact ⟨rfl,q⟩
  first
  |exact fin
  |split
   ·exact (hne _ _ _ rfl).elim
   ·exact fin
theorem zzK {S : Type} {ob : AObj} {k o : Nat} {x : AV} {K : AObj → Option R} {r : R} (h : zKS ob k o x K = some r) : ∃ ob',(∀ (K' : AObj → Option S),zKS ob k o x K' = K' ob') ∧ K ob' = some r := by
 obtain ⟨kk,te,z,c⟩ := ob
 unfold zKS at h
 obtain ⟨h1,h2⟩ := z05 h
 dsimp only at h2
 split at h2
 ·obtain ⟨h3,h4⟩ := z05 h2
  exact ⟨_,fun K'=>by unfold zKS;rw [h1,zcp];dsimp only;rw [h3,zcp];rfl,h4⟩
 ·obtain ⟨h3,h4⟩ := z05 h2
  exact ⟨_,fun K'=>by unfold zKS;rw [h1,zcp];dsimp only;rw [h3,zcp];rfl,h4⟩
 ·cases h2
theorem zt1 {k : Nat} {H : List AObj} {a x : AV} {K : List AObj → Option R} {r : R} (h : z0I k H a x K = some r) : ∃ H',z0I k H a x some = some H' ∧ K H' = some r := by
 unfold z0I at h ⊢
 split at h
 ·unfold z2Q at h ⊢
  split at h
  ·rename_i ob hob
   obtain ⟨ob',h1,h2⟩ := zzK (S := List AObj) h
   exact ⟨_,h1 _,h2⟩
  ·cases h
 ·cases h
theorem zt4 {S : Type} {H : List AObj} {x : AV} {K : List AV → Option R} {r : R} (h : zbK H x K = some r) : ∃ es,(∀ (K' : List AV → Option S),zbK H x K' = K' es) ∧ K es = some r := by
 unfold zbK at h
 split at h
 ·exact ⟨_,fun K'=>rfl,h⟩
 ·unfold z2Q at h
  split at h
  ·rename_i ob hob
   obtain ⟨h1,h2⟩ := z05 h
   refine ⟨_,fun K'=>?_,h2⟩
   simp only [zbK,z2Q,hob,h1,z0C]
  ·cases h
 ·exact ⟨_,fun K'=>rfl,h⟩
 ·exact ⟨_,fun K'=>rfl,h⟩
 ·cases h
theorem ztM {at_ : Option (TypeId × Nat)} {H : List AObj} {x y : AV} {K : AV → List AObj → Option R} {r : R} (h : zNh at_ H x y K = some r) : ∃ d H',zNh at_ H x y (fun d H=>some (d,H)) = some (d,H') ∧ K d H' = some r := by
 unfold zNh at h ⊢
 split at h
 ·rename_i e z
  obtain ⟨es,e1,h⟩ := zt4 (S := AV × List AObj) h
  obtain ⟨h1,h⟩ := z05 h
  split at h
  ·obtain ⟨h2,h⟩ := z05 h
   refine ⟨_,_,?_,h⟩
   show zbK _ _ _ = _
   rw [e1]
   show z0C _ _ = _
   rw [h1,zcp]
   show z0C _ _ = _
   rw [h2];rfl
  ·obtain ⟨h2,h⟩ := z05 h
   refine ⟨_,_,?_,h⟩
   show zbK _ _ _ = _
   rw [e1]
   show z0C _ _ = _
   rw [h1,zcp]
   show z0C _ _ = _
   rw [h2];rfl
  ·unfold z2Q at h
   split at h
   ·rename_i ob hob
    obtain ⟨h2,h⟩ := z05 h
    refine ⟨_,_,?_,h⟩
    show zbK _ _ _ = _
    rw [e1]
    show z0C _ _ = _
    rw [h1,zcp]
    show z2Q _ _ _ = _
    unfold z2Q
    rw [hob]
    show z0C _ _ = _
    rw [h2];rfl
   ·cases h
  ·cases h
 ·cases h
theorem zvi {same isS : Bool} {at_ : Option (TypeId × Nat)} {H : List AObj} {x y : AV} {K : AV → List AObj → Option R} {r : R} (h : zHa same isS at_ H x y K = some r) : ∃ d H',zHa same isS at_ H x y (fun d H=>some (d,H)) = some (d,H') ∧ K d H' = some r := by
 cases same with
 |true=>exact ztM h
 |false =>
  obtain ⟨h1,h2⟩ := z05 (show z0C isS (zxA at_ H x y K) = some r from h)
  unfold zxA at h2
  split at h2
  ·obtain ⟨d,H',h3,h4⟩ := ztM h2
   exact ⟨d,H',by show z0C _ _ = _;rw [h1];exact h3,h4⟩
  ·cases h2
theorem zxU {mx : Bool} {x y : AV} {H : List AObj} {K : AV → List AObj → Option R} {r : R} (h : mmE mx x y (fun d=>K d H) = some r) : ∃ d,mmE mx x y (fun d=>some (d,H)) = some (d,H) ∧ K d H = some r := by
 unfold mmE at h ⊢
 split at h
 ·obtain ⟨h1,h2⟩ := z05 h
  exact ⟨_,by rw [h1,zcp],h2⟩
 ·cases h
theorem zod {e : Option Ent} {args : List AV} {H : List AObj} {K : AV → List AObj → Option R} {r : R} (h : zq4 e args H K = some r) : ∃ d H',zq4 e args H (fun d H=>some (d,H)) = some (d,H') ∧ K d H' = some r := by
 unfold zq4 at h ⊢
 split at h
 ·unfold z1D at h ⊢
  obtain ⟨h1,h⟩ := z05 h
  split at h
  ·rename_i X H' hx
   refine ⟨X,H,?_,h⟩
   rw [h1,zcp]
  ·cases h
 ·unfold z4O at h ⊢
  split at h
  ·rename_i X H' hx
   exact ⟨X,H',rfl,h⟩
  ·cases h
 ·unfold zNA at h ⊢
  split at h
  ·rename_i X Y hx
   exact ⟨X,H ++ Y,rfl,h⟩
  ·cases h
 ·cases h
theorem zuV (hE : zaL P G E) {o : Oper} {s : ASt} (hw : 1 < zLq (kcE E) o.op) {K : AV → List AObj → Option R} {r : R} (h : zoY P G E o s K = some r) : ∃ d H',z0A P G o s (fun d' Hk=>d' = d ∧ Hk = H') ∧ K d H' = some r := by
 have fin : ∀ d H',zoY P G E o s (fun d H=>some (d,H)) = some (d,H') → z0A P G o s (fun d' Hk=>d' = d ∧ Hk = H') := fun d H' q =>
  z5i (fun d' Hk e=>by injection e with e;injection e with e1 e2;exact ⟨e1,e2⟩) (zk7 hE q)
 obtain ⟨dst,op,ty,pos,af,gd⟩ := o
 unfold zoY at h fin
 dsimp only at h fin hw
 split at h <;> try (simp [zLq,loud] at hw;done)
 ·rename_i t x
  obtain ⟨h1,h2⟩ := z05 h
  refine ⟨_,_,fin _ _ ?_,h2⟩
  show z0C _ _ = _
  rw [h1];rfl
 ·rename_i t x y
  obtain ⟨H',h1,h2⟩ := zt1 h
  refine ⟨.nil,H',?_,h2⟩
  have : z0A P G ⟨dst, .store t x y,ty,pos,af,gd⟩ s (fun d' Hk=>d' = .nil ∧ Hk = H') := by
   unfold z0A
   exact zmY (fun Hk e=>⟨rfl,by injection e⟩) (zrz h1)
  exact this
 ·obtain ⟨d,H',h1,h2⟩ := zod h
  exact ⟨d,H',fin d H' h1,h2⟩
 ·obtain ⟨h1,h2⟩ := z05 h
  refine ⟨_,_,fin _ _ ?_,h2⟩
  show z0C _ _ = _
  rw [h1];rfl
 ·rename_i t args ts
  unfold zfn at h
  split at h
  ·rename_i caps f k hv
   obtain ⟨d,H',h1,h2⟩ := zod h
   refine ⟨d,H',fin d H' ?_,h2⟩
   show zfn _ _ _ _ _ = _
   unfold zfn
   rw [hv]
   exact h1
  ·rename_i f hv
   obtain ⟨d,H',h1,h2⟩ := zod h
   refine ⟨d,H',fin d H' ?_,h2⟩
   show zfn _ _ _ _ _ = _
   unfold zfn
   rw [hv]
   exact h1
  ·cases h
 ·obtain ⟨d,H',h3,h4⟩ := zvi h
  exact ⟨d,H',fin d H' h3,h4⟩
 ·obtain ⟨r',e1,e2⟩ := zxU h
  exact ⟨_,_,fin _ _ e1,e2⟩
 ·obtain ⟨r',e1,e2⟩ := zxU h
  exact ⟨_,_,fin _ _ e1,e2⟩
 ·obtain ⟨H',h1,h2⟩ := zst h
  refine ⟨.nil,H',?_,h2⟩
  unfold z0A
  exact ⟨H',h1,rfl,rfl⟩
 ·rename_i t
  unfold zuj at h
  split at h
  ·rename_i k e hk
   refine ⟨_,_,fin _ _ ?_,h⟩
   show zuj _ _ _ = _
   rw [hk];rfl
  ·cases h
 ·cases h
theorem zvK {kc : KC} {op : Op} (h : zLq kc op = 0) : loud op = false ∨ ∃ f ags ts,op = .call { callee := .value (.func f),args := ags,argTypes := ts } := by
 unfold zLq at h
 split at h
 ·cases h
 ·exact .inr ⟨_,_,_,rfl⟩
 ·split at h
  ·cases h
  ·rename_i hl;exact .inl (by simpa using hl)
theorem zv1 (hE : zaL P G E) {o : Oper} {s : ASt} {K : AV → List AObj → Option R} {r : R} (h : zCu P G E o s K = some r) : ∃ d Y,z0A P G o s (fun d' Hk=>d' = d ∧ Hk = s.H ++ Y) ∧ K d Y = some r := by
 obtain ⟨dst,op,ty,pos,af,gd⟩ := o
 unfold zCu at h
 unfold z0A
 dsimp only at h ⊢
 split at h
 ·rename_i t
  split at h
  ·rename_i c hc
   refine ⟨_,_,?_,h⟩
   dsimp only
   rw [hc]
   exact ⟨rfl,rfl⟩
  ·cases h
 ·rename_i f args ts
  split at h
  ·rename_i g hg
   split at h
   ·rename_i X Y hx
    exact ⟨X,Y,zoD (hE _ _ (findE_mem hg) _ _ _ _ hx) ⟨rfl,rfl⟩,h⟩
   ·cases h
  ·cases h
 ·cases h
theorem zf1 (hE : zaL P G E) {ops : List Oper} {K : ASt → Option R} {r : R} : ∀ {l : List Oper} {sk : List Nat} {acc : List (List AObj)} {old : List (Nat × List AObj)} {opn : List OpI} {H : List AObj} {T T' : Tm},TEq T T' → SkOk sk T → runD P G E ops sk acc old opn l ⟨H,T'⟩ K = some r → zil P G (kcE E) ops acc old opn l ⟨H,T⟩ (Aft K r)
 |[],sk,acc,old,opn,H,T,T',ht,hk,h=>⟨T',ht,h⟩
 |o :: l,sk,acc,old,opn,H,T,T',ht,hk,h=>by
  unfold runD at h
  unfold zil
  have step : ∀ {H0 : List AObj} {T T' : Tm},zLq (kcE E) o.op = 0 → TEq T T' → SkOk sk T → zmy P G E true o ⟨H0,T'⟩ (fun d _=>runD P G E ops (skO sk o.dst) (acc ++ [H]) old opn l (ASt.set ⟨H,T'⟩ H o.dst d) K) = some r → z3I P G o ⟨H0,T⟩ fun d=>zil P G (kcE E) ops (acc ++ [H]) old opn l (ASt.set ⟨H,T⟩ H o.dst d) (Aft K r) := fun hc ht hk h =>
   zvR ht (zoS (fun d q=>zf1 hE (ht.set H H H o.dst d) (hk.out H H o.dst d) q) (zzM hE (zvK hc) h))
  split at h
  ·rename_i hc
   rw [if_pos hc]
   have go : ∀ {T T' : Tm},TEq T T' → SkOk sk T → (match zmP (zju (kcE E) ops (zMx ops []) acc.length) o with
    |some (t2,x)=>z04 (z1T P t2) H (ev G T' x) fun d=>zMI (loI (kcE E) ops (zMx ops []) acc.length) (z1T P t2) (ev G T' x) d old (runD P G E ops (skO sk o.dst) (acc ++ [H]) old ((acc.length,z1T P t2,ev G T' x,d) :: opn) l (ASt.set ⟨H,T'⟩ H o.dst d) K)
    |none=>zmy P G E true o ⟨zNz (kcE E) ops (zMx ops []) (acc ++ [H]) acc.length,T'⟩ fun d _=>runD P G E ops (skO sk o.dst) (acc ++ [H]) old opn l (ASt.set ⟨H,T'⟩ H o.dst d) K) = some r → (match zmP (zju (kcE E) ops (zMx ops []) acc.length) o with
    |some (t2,x)=>zjK (z1T P t2) H (ev G T x) fun d=>(∀ p ∈ old,loI (kcE E) ops (zMx ops []) acc.length ≤ p.1 → zoO p.2 (z1T P t2,ev G T x,d)) ∧ zil P G (kcE E) ops (acc ++ [H]) old ((acc.length,z1T P t2,ev G T x,d) :: opn) l (ASt.set ⟨H,T⟩ H o.dst d) (Aft K r)
    |none=>z3I P G o ⟨zNz (kcE E) ops (zMx ops []) (acc ++ [H]) acc.length,T⟩ fun d=>zil P G (kcE E) ops (acc ++ [H]) old opn l (ASt.set ⟨H,T⟩ H o.dst d) (Aft K r)) := fun {T T'} ht hk h=>by
    cases hop : zmP (zju (kcE E) ops (zMx ops []) acc.length) o with
    |some p =>
     obtain ⟨t,x⟩ := p
     rw [hop] at h
     have hev : ev G T x = ev G T' x := by cases x <;> first|exact ht _|rfl
     show zjK (z1T P t) H (ev G T x) _
     rw [hev]
     refine zcx (fun d q=>?_) (zma h)
     obtain ⟨q1,q2⟩ := oldE_some q
     refine ⟨q1,?_⟩
     exact zf1 hE (ht.set H H H o.dst d) (hk.out H H o.dst d) q2
    |none =>
     rw [hop] at h
     exact step hc ht hk h
   split at h
   ·rename_i hg
    try rw [hg]
    exact go ht hk h
   ·rename_i j want hg
    try rw [hg]
    try dsimp only
    split at h
    rotate_left
    ·cases h
    rename_i t hd
    try rw [hd]
    try dsimp only
    split at h
    ·rename_i hc2
     rw [show get T t = UD from hk t (by simpa using hc2)]
     exact zf1 hE (ht.set H H H o.dst UD) (hk.skip H H o.dst) h
    rcases zf8 h with ⟨h1,h2⟩|⟨h1,h2⟩
    ·rw [show get T t = V (.bool true) from (ht t).trans h1]
     cases want with
     |true=>exact ⟨fun _=>go (ht.lit ((ht t).trans h1)) hk h2,fun q=>by cases q⟩
     |false=>exact ⟨fun q=>(by cases q),fun _=>zf1 hE ((ht.lit ((ht t).trans h1)).set H H H o.dst UD) (hk.skip H H o.dst) h2⟩
    ·rw [show get T t = V (.bool false) from (ht t).trans h1]
     cases want with
     |false=>exact ⟨fun _=>go (ht.lit ((ht t).trans h1)) hk h2,fun q=>by cases q⟩
     |true=>exact ⟨fun q=>(by cases q),fun _=>zf1 hE ((ht.lit ((ht t).trans h1)).set H H H o.dst UD) (hk.skip H H o.dst) h2⟩
  ·rename_i hc
   rw [if_neg (by omega)]
   split at h
   ·rename_i hg
    try rw [hg]
    obtain ⟨d,Y,h1,h2⟩ := zv1 hE h
    obtain ⟨h3,h4⟩ := zos h2
    exact ⟨d,H ++ Y,zcy ht h1,fun _=>⟨Y,rfl⟩,h3,zf1 hE (ht.set H H (H ++ Y) o.dst d) (hk.out H (H ++ Y) o.dst d) h4⟩
   ·cases h
  ·rename_i hn0 hn1
   rw [if_neg hn0]
   have step2 : ∀ {T T' : Tm},TEq T T' → SkOk sk T → zoY P G E o ⟨H,T'⟩ (fun d H'=>zL0 H' (zhO (zMx ops []) acc.length opn) (runD P G E ops (skO sk o.dst) (acc ++ [H]) ((acc.length,H) :: old) (zhO (zMx ops []) acc.length opn) l (ASt.set ⟨H,T'⟩ H' o.dst d) K)) = some r → ∃ v H',z0A P G o ⟨H,T⟩ (fun d Hk=>d = v ∧ Hk = H') ∧ (zLq (kcE E) o.op = 1 → ∃ X,H' = H ++ X) ∧ (∀ x ∈ (zhO (zMx ops []) acc.length opn),zoO H' x.2) ∧ zil P G (kcE E) ops (acc ++ [H]) ((acc.length,H) :: old) (zhO (zMx ops []) acc.length opn) l (ASt.set ⟨H,T⟩ H' o.dst v) (Aft K r) := fun ht hk h=>by
    obtain ⟨d,H',h1,h2⟩ := zuV hE (Nat.lt_of_le_of_ne (Nat.pos_of_ne_zero hn0) (Ne.symm hn1)) h
    obtain ⟨h3,h4⟩ := zos h2
    exact ⟨d,H',zcy ht h1,fun q=>absurd q hn1,h3,zf1 hE (ht.set H H H' o.dst d) (hk.out H H' o.dst d) h4⟩
   split at h
   ·rename_i hg
    try rw [hg]
    exact step2 ht hk h
   ·rename_i j want hg
    try rw [hg]
    try dsimp only
    split at h
    rotate_left
    ·cases h
    rename_i t hd
    try rw [hd]
    try dsimp only
    split at h
    ·rename_i hc2
     rw [show get T t = UD from hk t (by simpa using hc2)]
     exact zf1 hE (ht.set H H H o.dst UD) (hk.skip H H o.dst) h
    rcases zf8 h with ⟨h1,h2⟩|⟨h1,h2⟩
    ·rw [show get T t = V (.bool true) from (ht t).trans h1]
     cases want with
     |true=>exact ⟨fun _=>step2 (ht.lit ((ht t).trans h1)) hk h2,fun q=>by cases q⟩
     |false=>exact ⟨fun q=>(by cases q),fun _=>zf1 hE ((ht.lit ((ht t).trans h1)).set H H H o.dst UD) (hk.skip H H o.dst) h2⟩
    ·rw [show get T t = V (.bool false) from (ht t).trans h1]
     cases want with
     |false=>exact ⟨fun _=>step2 (ht.lit ((ht t).trans h1)) hk h2,fun q=>by cases q⟩
     |true=>exact ⟨fun q=>(by cases q),fun _=>zf1 hE ((ht.lit ((ht t).trans h1)).set H H H o.dst UD) (hk.skip H H o.dst) h2⟩
inductive Hint
 |n
 |two (a b : Hint)
 |one (a : Hint)
 |join (L : List Nat) (a b : Hint)
 |lp (rows : List (Nat × TypeId × Nat)) (L Lo : List Nat) (a : Hint)
 |gh (g : Nat × Nat × TypeId × Nat) (L : List Nat) (a b : Hint)
def Hint.l : Hint → Hint|.two a _=>a|.join _ a _=>a|.gh _ _ a _=>a|h=>h
def Hint.r : Hint → Hint|.two _ b=>b|.join _ _ b=>b|.gh _ _ _ b=>b|h=>h
def Hint.J : Hint → Option (List Nat)|.join L _ _=>some L|.gh _ L _ _=>some L|_=>none
def Hint.gho : Hint → Option (Nat × Nat × TypeId × Nat)|.gh g _ _ _=>some g|_=>none
theorem Hint.gho_none {h : Hint} (hj : h.J = none) : h.gho = none := by
 cases h <;> first|rfl|cases hj
def Hint.c : Hint → Hint|.one a=>a|.lp _ _ _ a=>a|h=>h
def Hint.rows : Hint → List (Nat × TypeId × Nat)|.lp r _ _ _=>r|_=>[]
def Hint.L : Hint → List Nat|.lp _ l _ _=>l|_=>[]
def Hint.Lo : Hint → List Nat|.lp _ _ l _=>l|_=>[]
def zba (L : List Nat) (T : Tm) : Tm := match L with
 |[]=>[]
 |i :: r=>(i,get T i) :: zba r T
def zMs (c : Operand) (b : Bool) (T : Tm) : Tm := match c with|.tmp t=>(t,V (.bool b)) :: T|_=>T
abbrev KO (R : Type) := Exit → ASt → Option R
def zNf (x : AV) (e : TypeId) (z : Nat) (H : List AObj) (K : AV → List AObj → Option R) : Option R := match x with
 |.held (.inl (.slice none 0 0))=>K (OW H.length 0) (H ++ [⟨2,e,z,[]⟩])
 |x=>K x H
def zA1 : List (Nat × TypeId × Nat) → ASt → (ASt → Option R) → Option R
 |[],s,K=>K s
 |(i,e,z) :: r,s,K=>zNf (get s.T i) e z s.H fun d H=>zA1 r ⟨H,(i,d) :: s.T⟩ K
def z7c : Nat → (ASt → (ASt → Option R) → KO R → Option R) → ASt → KO R → Option R
 |0,_,_,_=>none
 |m + 1,B,s,kx=>B s (fun s'=>z7c m B s' kx) kx
def zzs (n0 : Nat) (L : List Nat) (s : ASt) (kc : ASt → Option R) : Option R :=
 z0C (decide (n0 ≤ s.H.length) && (s.H.take n0).all (ltO n0) && L.all fun i=>ltT n0 (get s.T i)) (kc ⟨s.H.take n0,zba L s.T⟩)
def zvs (n0 : Nat) (L Lo : List Nat) (kc : ASt → Option R) (kx : KO R) : KO R := fun e s=>match e with|.normal=>zzs n0 L s kc|e=>kx e ⟨s.H,zba Lo s.T⟩
def z7z (n0 : Nat) (H : List AObj) (L : Tm) (kc : ASt → Option R) : Option R :=
 z0C (decide (n0 ≤ H.length) && (H.take n0).all (ltO n0) && L.all fun p=>ltT n0 p.2) (kc ⟨H.take n0,L⟩)
def zAB (J : Option (List Nat)) (s : ASt) : ASt := match J with|none=>s|some L=>⟨s.H,zba L s.T⟩
def ghS (i off : Nat) (e : TypeId) (z : Nat) (s : ASt) : ASt := match get s.T i with
 |.held (.inr (.inl (j,0)))=>match s.H[j]? with
  |some ob=>match ob.k,ob.c[off]? with
   |1,some (.held (.inl (.slice none 0 0)))=>⟨s.H.set j { ob with c := ob.c.set off (OW s.H.length 0) } ++ [⟨2,e,z,[]⟩],s.T⟩
   |_,_=>s
  |none=>s
 |_=>s
def ghJ (g : Option (Nat × Nat × TypeId × Nat)) (s : ASt) : ASt := match g with|none=>s|some q=>ghS q.1 q.2.1 q.2.2.1 q.2.2.2 s
def cdL : Code → Code|.seq a _=>a|.cond _ a _=>a|.block _ a=>a|.loop a=>a|c=>c
def cdR : Code → Code|.seq _ b=>b|.cond _ _ b=>b|c=>c
def zs5 (kc : KC) (N : Nat) (ops : List Oper) : Bool := zaQ ops.toArray && tailY kc ops N && zzy ops
def zLa (P : Program) (G : Gl) (E : Env) (M : Nat) (N : FS) : Code → Hint → ASt → KO R → Option R
 |.skip,h,s,k=>k .normal s
 |.region id ops draw,h,s,k=>match draw with
  |true=>z0C (zs5 (kcE E) N ops.toList) (runD P G E ops.toList [] [] [] [] ops.toList s fun s=>k .normal s)
  |false=>z0C (zNp N ops.toList) (match zMb E ops.toList with
   |true=>zLI P G E ops.toList s (fun s=>k .normal s) (fun u s=>k (.panic (pch u)) s)
   |false=>runE P G E false ops.toList [] ops.toList s fun s=>k .normal s)
 |.seq a b,h,s,k=>zLa P G E M N a h.l s (fun e s'=>match e with|.normal=>zLa P G E M N b h.r (ghJ h.gho (zAB h.J s')) k|e=>k e s')
 |.cond c x y,h,s,k=>z0o (ev G s.T c) (zLa P G E M N x h.l ⟨s.H,zMs c true s.T⟩ k) (zLa P G E M N y h.r ⟨s.H,zMs c false s.T⟩ k)
 |.block id c,h,s,k=>zLa P G E M N c h.c s (fun e s'=>match e with|.exit i=>(match Nat.beq i id with|true=>k .normal s'|false=>k (.exit i) s')|e=>k e s')
 |.loop c,h,s,k=>zA1 h.rows s fun s=>z7c M (fun s kc kx=>zLa P G E M N c h.c s (zvs s.H.length h.L h.Lo kc kx)) ⟨s.H,zba h.L s.T⟩ k
 |.exit id,h,s,k=>k (.exit id) s
 |.ret,h,s,k=>k .ret s
 |_,_,_,_=>none
end
end Go.Proofs.Ytaaogcnjfkgnoaa

namespace Go.Proofs.Ytaaogcnjfkgnoaa
open Go.RowKit
def fzO (H : List AObj) (i n : Nat) : Option (List AV) := match H[i]? with
 |some o=>if o.k = 4 ∧ n = o.c.length ∧ o.c.all (ltA 0) = true then some o.c else none
 |none=>none
def fz1 (H : List AObj) (d : AV) : AV := match d with
 |.slice _ [.held (.inr (.inl (i,n)))]=>(match fzO H i n with|some c=>SL c|none=>d)
 |d=>d
def fzA (H : List AObj) : AV → AV
 |.agg cs=>.agg (cs.map (fz1 H))
 |d=>fz1 H d
def fzV (H : List AObj) : AV → AV
 |.iface s (.agg ds)=>.iface s (.agg (ds.map (fzA H)))
 |d=>fzA H d
theorem zCo {H : List AObj} {d : AV} (h : lt1 0 d = true) : fz1 H d = d := by
 unfold fz1
 split
 ·simp [lt1] at h
 ·rfl
theorem zBy {H : List AObj} {d : AV} (h : ltA 0 d = true) : fzA H d = d := by
 unfold fzA
 split
 ·rename_i cs
  have : cs.map (fz1 H) = cs.map id := List.map_congr_left fun x hx=>zCo (List.all_eq_true.1 h x hx)
  rw [this,List.map_id]
 ·rename_i hne
  refine zCo ?_
  unfold ltA at h
  split at h
  ·rename_i cs;exact absurd rfl (hne cs)
  ·exact h
theorem zH6 {H : List AObj} {d : AV} (h : ltT 0 d = true) : fzV H d = d := by
 unfold fzV
 split
 ·rename_i s ds
  have : ds.map (fzA H) = ds.map id := List.map_congr_left fun x hx=>zBy (List.all_eq_true.1 h x hx)
  rw [this,List.map_id]
 ·rename_i hne
  refine zBy ?_
  unfold ltT at h
  split at h
  ·rename_i s ds;exact absurd rfl (hne s ds)
  ·exact h
def fzH (o : AObj) : AObj := if o.k = 4 ∧ o.c.all (ltA 0) = true then ⟨0,o.e,o.z,o.c⟩ else o
theorem zyC {n : Nat} {e y : AV} (h : ltA n e = true) (hy : y ∈ cellsOf e) : lt1 n y = true := by
 unfold ltA at h
 split at h
 ·exact List.all_eq_true.1 h y hy
 ·rename_i hne
  have : cellsOf e = [e] := zeN hne
  rw [this] at hy
  rw [List.mem_singleton.1 hy];exact h
section
variable {w : World} {S : SS} {μ : List Value} {H : List AObj}
def frS (S : SS) (μ : List Value) (H : List AObj) : SS := fun b j d=>S b j d ∨ ∃ (i : Nat) (o : AObj) (x : Value),H[i]? = some o ∧ o.k = 4 ∧ o.c.all (ltA 0) = true ∧ μ[i]? = some x ∧ z60 x = some b ∧ (zN0 o.c)[j]? = some d
theorem zu8 : Ext S μ (frS S μ H) μ := ⟨fun _ _ _ h=>.inl h,fun i x h=>⟨x,h, .inl rfl⟩⟩
theorem zoR {i : Nat} {o' : AObj} (h : (H.map fzH)[i]? = some o') (hk : o'.k ≠ 0) : H[i]? = some o' ∧ ¬ (o'.k = 4 ∧ o'.c.all (ltA 0) = true) := by
 rw [List.getElem?_map] at h
 obtain ⟨o,ho,rfl⟩ := Option.map_eq_some_iff.1 h
 unfold fzH at hk ⊢
 split
 ·rename_i hc
  rw [if_pos hc] at hk
  exact absurd rfl hk
 ·rename_i hc
  exact ⟨ho,hc⟩
theorem row4 (hr : Rel w S μ H) {i : Nat} {x : Value} {o : AObj} {b : Nat} (hx : μ[i]? = some x) (ho : H[i]? = some o) (hk : o.k = 4) (hb : z60 x = some b) : ∃ c cs,x = MR (some ⟨b,0,none⟩) o.c.length c ∧ o.c.length ≤ c ∧ c ≤ maxLen ∧ c ≠ 0 ∧ allC o.z o.c ∧ w.heap[b]? = some (.cells cs o.e (0,0)) ∧ cs.size = c * o.z ∧ reps S μ (zN0 o.c) (cs.toList.take (o.c.length * o.z)) := by
 obtain ⟨A,c,rfl,h1,h2,h3,h4⟩ := (hr.objs i x o hx ho).2.2.1 hk
 have hc0 : c ≠ 0 := by
  intro e;subst e
  cases A <;> simp [z60] at hb
 obtain ⟨b',cs,rfl,h5,h6,h7⟩ := h4 hc0
 simp only [z60,if_neg hc0,Option.some.injEq] at hb
 subst hb
 exact ⟨c,cs,rfl,h1,h2,hc0,h3,h5,h6,h7⟩
theorem Rel.freeze (hr : Rel w S μ H) : Rel w (frS S μ H) μ (H.map fzH) := by
 refine ⟨by simp [hr.len],fun b j d hs=>?_,fun i x o hx ho=>?_,fun i x o hx ho=>?_,fun i i' x x' o o' b hx ho hk hb hx' ho' hk' hb'=>?_,fun i x o b hx ho hk hb j d hs=>?_⟩
 ·rcases hs with hs|⟨i,o,x,ho,hk,hlt,hx,hb,hd⟩
  ·obtain ⟨u,h1,h2,h3⟩ := hr.still b j d hs
   exact ⟨u,h1,h2,h3.ext ⟨fun _ _ _ h=>.inl h,fun i x hx=>by simp at hx⟩⟩
  ·obtain ⟨c,cs,_,h1,h2,hc0,hall,hh,hsz,hrp⟩ := row4 hr hx ho hk hb
   have hjl := (List.getElem?_eq_some_iff.1 hd).1
   have hfl := z3Y hall
   have hju : j < (cs.toList.take (o.c.length * o.z)).length := by rw [hrp.1];exact hjl
   obtain ⟨h3,h4⟩ := hrp.2 j d _ hd (List.getElem?_eq_getElem hju)
   refine ⟨_,?_,h3,?_⟩
   ·rw [cell_of_row w b j cs o.e (0,0) hh]
    rw [List.getElem_take]
    have : j < cs.size := by
     rw [List.length_take] at hju
     have := Array.length_toList (xs := cs);omega
    simp [Array.getElem?_eq_getElem this]
   ·have hm : lt1 0 d = true := by
     have : d ∈ zN0 o.c := List.mem_of_getElem? hd
     obtain ⟨e,he,hy⟩ := List.mem_flatMap.1 this
     exact zyC (List.all_eq_true.1 hlt e he) hy
    have := h4.take hm
    rw [List.take_zero] at this
    exact this.ext ⟨fun _ _ _ h=>.inl h,fun i x hx=>by simp at hx⟩
 ·by_cases hk : o.k = 0
  ·exact .inl hk
  ·exact hr.kinds i x o hx (zoR ho hk).1
 ·by_cases hk : o.k = 0
  ·exact objRep.zero hk
  ·exact (hr.objs i x o hx (zoR ho hk).1).move zu8 fun _ _=>rfl
 ·exact hr.sep i i' x x' o o' b hx (zoR ho hk).1 hk hb hx' (zoR ho' hk').1 hk' hb'
 ·obtain ⟨h1,h2⟩ := zoR ho hk
  rcases hs with hs|⟨i2,o2,x2,ho2,hk2,hlt,hx2,hb2,hd⟩
  ·exact hr.apart i x o b hx h1 hk hb j d hs
  ·have := hr.sep i i2 x x2 o o2 b hx h1 hk hb hx2 ho2 (by omega) hb2
   subst this
   rw [h1] at ho2;injection ho2 with ho2;subst ho2
   exact absurd ⟨hk2,hlt⟩ h2
theorem rep1.fz (hr : Rel w S μ H) {d : AV} {v : Value} (h : rep1 S μ d v) : rep1 (frS S μ H) μ (fz1 H d) v := by
 unfold fz1
 split
 ·rename_i q i n
  cases hq : fzO H i n with
  |none=>exact h.ext zu8
  |some c =>
   unfold fzO at hq
   split at hq
   ·rename_i o ho
    split at hq
    ·rename_i hc
     injection hq with hq;subst hq
     obtain ⟨hk,hn,hlt⟩ := hc
     obtain ⟨A,c',hμ,rfl,h1,h2⟩ := h
     refine ⟨A,c',by rw [hn],by rw [← hn];exact h1,h2,fun hne=>?_⟩
     have hn0 : 0 < n := by rw [hn];exact List.length_pos_iff.2 hne
     have hc0 : c' ≠ 0 := by omega
     obtain ⟨A2,c2,e,_,_,hall,h4⟩ := (hr.objs i _ o hμ ho).2.2.1 hk
     have e2 : A = A2 ∧ c' = c2 := by
      simp only [Value.tuple.injEq,Array.mk.injEq,List.cons.injEq,Value.slice.injEq,and_true] at e
      exact ⟨e.1,e.2.2⟩
     obtain ⟨rfl,rfl⟩ := e2
     obtain ⟨b,cs,rfl,h5,h6,h7⟩ := h4 hc0
     refine ⟨b,0,o.z,rfl,zlu hall fun j y hy=>.inr ⟨i,o,_,ho,hk,hlt,hμ,?_,by simpa using hy⟩⟩
     simp only [z60]
     rw [if_neg hc0]
    ·cases hq
   ·cases hq
 ·exact h.ext zu8
theorem repA.fz (hr : Rel w S μ H) {d : AV} {v : Value} (h : repA S μ d v) : repA (frS S μ H) μ (fzA H d) v := by
 unfold repA at h
 split at h
 ·rename_i cs v
  obtain ⟨us,rfl,h1,h2⟩ := h
  refine ⟨us,rfl,by rw [h1];simp,fun j d u hd hu=>?_⟩
  rw [List.getElem?_map] at hd
  obtain ⟨d0,hd0,rfl⟩ := Option.map_eq_some_iff.1 hd
  exact ⟨(h2 j d0 u hd0 hu).1,(h2 j d0 u hd0 hu).2.fz hr⟩
 ·rename_i hne
  have h2 := h.fz hr
  unfold fzA
  split
  ·exact (hne _ rfl).elim
  ·unfold repA
   split
   ·rename_i cs _ e
    exfalso
    unfold fz1 at e
    split at e
    ·split at e <;> cases e
    ·exact hne _ e
   ·exact h2
theorem rep.fz (hr : Rel w S μ H) {d : AV} {v : Value} (h : rep S μ d v) : rep (frS S μ H) μ (fzV H d) v := by
 unfold rep at h
 split at h
 ·rename_i s ds v
  obtain ⟨us,rfl,h1,h2⟩ := h
  refine ⟨us,rfl,by rw [h1];simp,fun j d u hd hu=>?_⟩
  rw [List.getElem?_map] at hd
  obtain ⟨d0,hd0,rfl⟩ := Option.map_eq_some_iff.1 hd
  exact (h2 j d0 u hd0 hu).fz hr
 ·rename_i hne
  have h2 := h.fz hr
  unfold fzV
  split
  ·exact (hne _ _ rfl).elim
  ·unfold rep
   split
   ·rename_i s ds _ e
    exfalso
    unfold fzA at e
    split at e
    ·cases e
    ·unfold fz1 at e
     split at e
     ·split at e <;> cases e
     ·exact hne _ _ e
   ·exact h2
variable {P : Program} {G : Gl} {N : FS}
def zKo (P : Program) (rs : List ResultVar) (X : AV) : Exit → ASt → Prop
 |.normal,s=>ltT 0 X = true ∧ zNt P s.H s.T rs fun ds=>fzV s.H (ro s.H (zaR ds)) = X
 |.ret,s=>ltT 0 X = true ∧ zNt P s.H s.T rs fun ds=>fzV s.H (ro s.H (zaR ds)) = X
 |_,_=>False
theorem zts {N : Nat} {f : FuncId} {fn : Func} {c : Code} {args : List AV} {X : AV} (hf : P.funcs[f]? = some fn) (hb : fn.body = some c) (hc : zey P f = true) (rs : List ResultVar) (hrs : fn.results.toList = rs) (hN : fn.ntmps = N) (hargs : args.length ≤ N)
  (h : AWp P G (F0 N) 0 c (zKo P rs X) ⟨[],z14 0 args⟩) : ACp P G f args X := by
 subst hN
 refine ⟨hc,fun w S μ vs hr hg hl hv=>?_⟩
 refine calls_of_wp hf hb ?_
 have hfr : Fr S μ (F0 fn.ntmps) (z14 0 args) { tmps := vs.toArray ++ Array.replicate (fn.ntmps - vs.toArray.size) undef,defers := [] } := by
  refine ⟨by simp;omega,rfl,fun i=>?_⟩
  rw [zle]
  simp only [Nat.zero_le,if_true,Nat.sub_zero]
  cases hd : args[i]? with
  |none=>trivial
  |some d =>
   have hi : i < vs.length := by rw [hl];exact (List.getElem?_eq_some_iff.1 hd).1
   have := hv i d vs[i] hd (List.getElem?_eq_getElem hi)
   simp only [Option.getD_some]
   have e : (vs.toArray ++ Array.replicate (fn.ntmps - vs.toArray.size) undef).getD i undef = vs[i] := by
    rw [Array.getD_eq_getD_getElem?,Array.getElem?_append_left (by simpa using hi)]
    simp [hi]
   rw [e];exact this
 refine wp_mono (h w S μ _ hr hfr hg) ?_
 rintro e a' w' ⟨s',S',μ',hq,hr',hf',hst⟩
 have fin : (ltT 0 X = true ∧ zNt P s'.H s'.T rs fun ds=>fzV s'.H (ro s'.H (zaR ds)) = X) → a'.defers = [] ∧ ∃ v,(results fn a'.tmps).run P w' = .ok v w' ∧ zAC w S μ [] (fun r H'=>r = X ∧ H' = []) (.returned v) w' := by
  rintro ⟨hX,hK⟩
  obtain ⟨v,r,hrun,hrep,hx⟩ := zh9 (K := fun r=>fzV s'.H (ro s'.H r) = X) hrs hr' hf' hK
  have h1 := (hrep.toRo hr').fz hr'
  rw [hx] at h1
  have hle : HLe (s'.H.map fzH) [] := by cases hh : s'.H.map fzH <;> trivial
  refine ⟨hf'.nodef,v,hrun,v,X,[],frS S' μ' s'.H,μ'.take 0,rfl,⟨rfl,rfl⟩,hr'.freeze.le hle rfl,h1.take hX,hst.trans ⟨rfl,rfl,rfl,Nat.le_refl _,fun _ _ _=>rfl,fun _ _ _ h=>.inl h,fun i x hi hx=>absurd hi (Nat.not_lt_zero _),fun b j d h _=>?_,fun b k _=>?_⟩⟩
  ·rcases h with h|⟨i,o,x,ho,hk,_,hx,hb,_⟩
   ·exact .inl h
   ·exact .inr ⟨i,x,o,hx,ho,by omega,hb⟩
  ·obtain ⟨i,x,o,hx,ho,_⟩ := k
   simp at ho
 cases e with
 |normal=>exact fin hq
 |ret=>exact fin hq
 |exit id=>exact hq.elim
 |goto l=>exact hq.elim
 |panic ch=>exact hq.elim
 |outgrown=>exact hq.elim
end
end Go.Proofs.Ytaaogcnjfkgnoaa

namespace Go.Proofs.Ytaaogcnjfkgnoaa
open Go.RowKit
section
variable {R : Type} {P : Program} {G : Gl} {E : Env} {M n : Nat} {N : FS} {H : List AObj} {T T' : Tm}
theorem zfU : ∀ (L : List Nat) (T : Tm) (i : Nat),get (zba L T) i = get T i ∨ get (zba L T) i = .nil
 |[],T,i=>.inr rfl
 |j :: r,T,i=>by
  simp only [zba,_root_.Go.Proofs.Ytaaogcnjfkgnoaa.get]
  split
  ·rename_i e;subst e;exact .inl rfl
  ·exact zfU r T i
theorem zsV {m : Nat} : ∀ (L : List Nat) (T : Tm),(L.all fun i=>ltT m (get T i)) = true → TLe m T (zba L T)
 |[],T,_=>trivial
 |j :: r,T,h=>by
  simp only [List.all_cons,Bool.and_eq_true] at h
  exact ⟨rfl,h.1,zsV r T h.2⟩
theorem HLe.take : ∀ (H : List AObj) (m : Nat),HLe H (H.take m)
 |[],m=>by simp [HLe]
 |o :: r,0=>by simp [HLe]
 |o :: r,m + 1=>⟨.inl rfl,HLe.take r m⟩
theorem rowsE_ok {c : Code} {Q : Exit → ASt → Prop} {K : ASt → Option R} {r : R} (hQ : ∀ s, n ≤ s.H.length → K s = some r → AWp P G N n c Q s) : ∀ {l : List (Nat × TypeId × Nat)} {s : ASt}, n ≤ s.H.length → zA1   l s K = some r → AWp P G N n c Q s
  | [], s, hn, h => hQ s hn h
  | (i, e, z) :: l, ⟨H, T⟩, hn, h => by
    unfold zA1   at h
    unfold zNf  at h
    split at h
    · rename_i hi
      refine zBi     i e z hi hn (rowsE_ok hQ ?_ h)
      simp only [List.length_append]
      exact Nat.le_trans hn (Nat.le_add_right _ _)
    · exact AWp.text (TEq.lit (TEq.refl T) rfl) (rowsE_ok hQ hn h)
theorem AWp.post {c : Code} {Q Q' : Exit → ASt → Prop} {s : ASt} (h : AWp P G N n c Q s) (q : ∀ e s',Q e s' → ∃ T2,(∀ i,get T2 i = get s'.T i ∨ get T2 i = .nil) ∧ Q' e ⟨s'.H,T2⟩) : AWp P G N n c Q' s := by
 intro w S μ a hr hf hg
 refine wp_mono (h w S μ a hr hf hg) ?_
 rintro e a' w' ⟨s',S',μ',hq,hr',hf',hst⟩
 obtain ⟨T2,ht,q'⟩ := q e s' hq
 refine ⟨⟨s'.H,T2⟩,S',μ',q',hr',⟨hf'.size,hf'.nodef,fun i=>?_⟩,hst⟩
 rcases ht i with e|e
 ·rw [e];exact hf'.slot i
 ·rw [e];exact zp6 _ _ _
theorem zvy {s : ASt} {Q : Exit → ASt → Prop} {ι : Type} (I : ι → ASt) (M : ι → Nat) (i0 : ι) {c : Code} (h0 : s = I i0) (hr : ∀ i,AWp P G N n c (zJN n I M i Q) (I i)) : AWp P G N n (.loop c) Q s := by
 intro w S μ a hrel hfr hg
 subst h0
 refine wp_loop_ghost (fun m a' w'=>∃ i S' μ',M i = m ∧ Rel w' S' μ' (I i).H ∧ Fr S' μ' N (I i).T a' ∧ GOk G S' ∧ Step n w S μ (I i0).H w' S' μ' (I i).H) (M i0) ⟨i0,S,μ,rfl,hrel,hfr,hg,Step.refl _ _ _ _ _⟩ ?_
 rintro m a' w' ⟨i,S',μ',rfl,hrel',hfr',hg',hst⟩
 refine wp_mono (hr i w' S' μ' a' hrel' hfr' hg') ?_
 rintro e a2 w2 ⟨s2,S2,μ2,hq,hr2,hf2,hs2⟩
 cases e with
 |normal =>
  obtain ⟨i',hle,hn',hm⟩ := hq
  exact ⟨M i',hm,i',S2,_,rfl,hle.rel hr2,hle.fr hf2,hg'.ext hs2.still,(hst.trans hs2).trans (hle.step hn' w2 S2 μ2)⟩
 |exit id=>exact ⟨s2,S2,μ2,hq,hr2,hf2,hst.trans hs2⟩
 |goto l=>exact ⟨s2,S2,μ2,hq,hr2,hf2,hst.trans hs2⟩
 |ret=>exact ⟨s2,S2,μ2,hq,hr2,hf2,hst.trans hs2⟩
 |panic ch=>exact ⟨s2,S2,μ2,hq,hr2,hf2,hst.trans hs2⟩
 |outgrown=>exact ⟨s2,S2,μ2,hq,hr2,hf2,hst.trans hs2⟩
theorem Rel.recell {w : World} {S : SS} {μ : List Value} (hr : Rel w S μ H) {j off : Nat} {ob : AObj} {d d' : AV} (hj : H[j]? = some ob) (hk : ob.k = 1) (hc : ob.c[off]? = some d) (hd : ∀ u,rep1 S μ d u → rep1 S μ d' u) :
  Rel w S μ (H.set j { ob with c := ob.c.set off d' }) ∧ Step H.length w S μ H w S μ (H.set j { ob with c := ob.c.set off d' }) := by
 have hjl : j < H.length := (List.getElem?_eq_some_iff.1 hj).1
 have at_ : ∀ (i : Nat) (o : AObj),(H.set j { ob with c := ob.c.set off d' })[i]? = some o → (i = j ∧ o = { ob with c := ob.c.set off d' }) ∨ (i ≠ j ∧ H[i]? = some o) := by
  intro i o h
  rcases Nat.decEq i j with q|q
  ·rw [List.getElem?_set_ne (fun e=>q e.symm)] at h;exact .inr ⟨q,h⟩
  ·subst q
   rw [List.getElem?_set_self hjl] at h
   cases h;exact .inl ⟨rfl,rfl⟩
 have old : ∀ (i : Nat) (o : AObj),(H.set j { ob with c := ob.c.set off d' })[i]? = some o → ∃ o',H[i]? = some o' ∧ o'.k = o.k ∧ (o'.k = 2 → o'.c = o.c ∧ o'.z = o.z) := by
  intro i o h
  rcases at_ i o h with ⟨rfl,rfl⟩|⟨_,h⟩
  ·exact ⟨ob,hj,rfl,fun q=>by omega⟩
  ·exact ⟨o,h,rfl,fun _=>⟨rfl,rfl⟩⟩
 refine ⟨⟨by rw [List.length_set];exact hr.len,hr.still,?_,?_,?_,?_⟩,⟨rfl,rfl,rfl,Nat.le_refl _,fun _ _ _=>rfl,fun _ _ _ h=>h,fun i x _ hx=>⟨x,hx, .inl rfl⟩,fun _ _ _ h _=>.inl h,?_⟩⟩
 ·intro i x o hx ho
  obtain ⟨o',h1,h2,_⟩ := old i o ho
  rw [← h2];exact hr.kinds i x o' hx h1
 ·intro i x o hx ho
  rcases at_ i o ho with ⟨rfl,rfl⟩|⟨_,h⟩
  ·obtain ⟨b,cs,h1,h2,h3⟩ := (hr.objs i x ob hx hj).1 hk
   refine ⟨fun _=>⟨b,cs,h1,h2,?_⟩,fun q=>by simp only at q;omega,fun q=>by simp only at q;omega,fun q=>by simp only at q;omega⟩
   refine ⟨by simp only [List.length_set];exact h3.1,fun q dd u hq hu=>?_⟩
   simp only at hq
   rcases Nat.decEq q off with e|e
   ·rw [List.getElem?_set_ne (fun x=>e x.symm)] at hq
    exact h3.2 q dd u hq hu
   ·subst e
    rw [List.getElem?_set_self (List.getElem?_eq_some_iff.1 hc).1] at hq
    cases hq
    exact ⟨(h3.2 q d u hc hu).1,hd u (h3.2 q d u hc hu).2⟩
  ·exact hr.objs i x o hx h
 ·intro i i' x x' o o' b hx ho hk1 hb hx' ho' hk2 hb'
  obtain ⟨p,h1,h2,_⟩ := old i o ho
  obtain ⟨p',h1',h2',_⟩ := old i' o' ho'
  exact hr.sep i i' x x' p p' b hx h1 (by rw [h2];exact hk1) hb hx' h1' (by rw [h2'];exact hk2) hb'
 ·intro i x o b hx ho hk1 hb jj dd hs
  obtain ⟨p,h1,h2,h3⟩ := old i o ho
  obtain ⟨q1,q2⟩ := hr.apart i x p b hx h1 (by rw [h2];exact hk1) hb jj dd hs
  obtain ⟨r1,r2⟩ := h3 q1
  rw [← r1,← r2,← h2]
  exact ⟨q1,q2⟩
 ·rintro b ⟨i,x,o,hx,ho,hk1,hb⟩ _
  obtain ⟨p,h1,h2,_⟩ := old i o ho
  exact ⟨i,x,p,hx,h1,by rw [h2];exact hk1,hb⟩
theorem zCw (i off : Nat) (e : TypeId) (z : Nat) (s : ASt) : s.H.length ≤ (ghS i off e z s).H.length := by
 unfold ghS
 split
 ·split
  ·split
   ·simp
   ·exact Nat.le_refl _
  ·exact Nat.le_refl _
 ·exact Nat.le_refl _
theorem zFY {c : Code} {Q : Exit → ASt → Prop} {s : ASt} (i off : Nat) (e : TypeId) (z : Nat) (hn : n ≤ s.H.length) (h : AWp P G N n c Q (ghS i off e z s)) : AWp P G N n c Q s := by
 unfold ghS at h
 split at h
 ·rename_i j hi
  split at h
  ·rename_i ob hj
   split at h
   ·rename_i hk hc
    intro w S μ a hr hf hg
    obtain ⟨h1,h2⟩ := hr.nilRow none e z
    have hjl : j < s.H.length := (List.getElem?_eq_some_iff.1 hj).1
    obtain ⟨h3,h4⟩ := h1.recell (off := off) (d' := OW s.H.length 0) (by rw [List.getElem?_append_left hjl];exact hj) hk hc (fun u hu=>⟨none,0,0,none,0,by rw [← hr.len];simp,Nat.le_refl _,hu.1,fun _=>⟨rfl,rfl⟩⟩)
    rw [List.set_append_left _ _ hjl] at h3 h4
    have hx : Ext S μ S (μ ++ [.slice none 0 0]) := zmL S μ _
    have hf' : Fr S (μ ++ [.slice none 0 0]) N s.T a := ⟨hf.size,hf.nodef,fun k=>(hf.slot k).ext hx⟩
    refine wp_mono (h w S _ a h3 hf' hg) fun _ _ _ k=>Lift.trans ((h2.less hn).trans (h4.less ?_)) k
    simp only [List.length_append];omega
   ·exact h
  ·exact h
 ·exact h
theorem zpd (g : Option (Nat × Nat × TypeId × Nat)) (s : ASt) : s.H.length ≤ (ghJ g s).H.length := by
 cases g with
 |none=>exact Nat.le_refl _
 |some q=>exact zCw _ _ _ _ s
theorem zwE {c : Code} {Q : Exit → ASt → Prop} {s : ASt} (g : Option (Nat × Nat × TypeId × Nat)) (hn : n ≤ s.H.length) (h : AWp P G N n c Q (ghJ g s)) : AWp P G N n c Q s := by
 cases g with
 |none=>exact h
 |some q=>exact zFY _ _ _ _ hn h
theorem zae (hm : P.follows .mixedOrders = true) (hE : zaL P G E) {r : R} : ∀ (c : Code) (h : Hint) (s : ASt) (k : KO R),n ≤ s.H.length → zLa P G E M N c h s k = some r → AWp P G N n c (fun e s'=>k e s' = some r) s
 |.skip,h,s,k,hn,hx=>zAl hx
 |.region id ops draw,h,s,k,hn,hx=>by
  cases draw with
  |true =>
   obtain ⟨h1,h2⟩ := z05 (show z0C (zs5 (kcE E) N ops.toList) (runD P G E ops.toList [] [] [] [] ops.toList s fun s=>k .normal s) = some r from hx)
   simp only [zs5,Bool.and_eq_true] at h1
   have := zvl (n := n) (ops := ops.toList) (id := id) (s := s) (G := G) (Q := fun e s'=>e = .normal ∧ Aft (fun s=>k .normal s) r s') hm h1.1.1 h1.1.2 h1.2 hn (z7n (fun s q=>⟨rfl,q⟩) (zf1 hE (TEq.refl s.T) SkOk.nil h2))
   rw [Array.toArray_toList] at this
   refine this.post fun e s' q=>?_
   obtain ⟨rfl,T2,ht,q⟩ := q
   exact ⟨T2,fun i=>.inl (ht i).symm,q⟩
  |false =>
   obtain ⟨h1,h2⟩ := z05 (show z0C (zNp N ops.toList) (match zMb E ops.toList with
    |true=>zLI P G E ops.toList s (fun s=>k .normal s) (fun u s=>k (.panic (pch u)) s)
    |false=>runE P G E false ops.toList [] ops.toList s fun s=>k .normal s) = some r from hx)
   split at h2
   ·have := zs8 (n := n) (id := id) (s := s) (G := G) (Q := fun e s'=>(e = .normal ∧ Aft (fun s=>k .normal s) r s') ∨ ∃ u,e = .panic (pch u) ∧ zLm (fun u s=>k (.panic (pch u)) s) r u s') h1 hn (zlL (fun s q=>.inl ⟨rfl,q⟩) (fun u s q=>.inr ⟨u,rfl,q⟩) (zxp hE (TEq.refl s.T) h2))
    rw [Array.toArray_toList] at this
    refine this.post fun e s' q=>?_
    rcases q with ⟨rfl,T2,ht,q⟩|⟨u,rfl,T2,ht,q⟩
    ·exact ⟨T2,fun i=>.inl (ht i).symm,q⟩
    ·exact ⟨T2,fun i=>.inl (ht i).symm,q⟩
   have := zp2 (n := n) (id := id) (s := s) (G := G) (Q := fun e s'=>e = .normal ∧ Aft (fun s=>k .normal s) r s') h1 hn (za5 (fun s q=>⟨rfl,q⟩) (zir hE (TEq.refl s.T) SkOk.nil h2))
   rw [Array.toArray_toList] at this
   refine this.post fun e s' q=>?_
   obtain ⟨rfl,T2,ht,q⟩ := q
   exact ⟨T2,fun i=>.inl (ht i).symm,q⟩
 |.seq a b,h,s,k,hn,hx=>by
  refine zxP (AWp.mono (AWp.len (zae hm hE a h.l s _ hn hx) hn) fun e s' q=>?_)
  obtain ⟨q,hl⟩ := q
  cases e with
  |normal =>
   have q : zLa P G E M N b h.r (ghJ h.gho (zAB h.J s')) k = some r := q
   cases hj : h.J with
   |none=>rw [hj] at q;exact zwE h.gho hl (zae hm hE b h.r (ghJ h.gho s') k (Nat.le_trans hl (zpd _ _)) q)
   |some L=>rw [hj] at q;exact AWp.forget (zfU L s'.T) (zwE (s := ⟨s'.H,zba L s'.T⟩) h.gho hl (zae hm hE b h.r (ghJ h.gho ⟨s'.H,zba L s'.T⟩) k (Nat.le_trans hl (zpd h.gho ⟨s'.H,zba L s'.T⟩)) q))
  |exit id=>exact q
  |goto l=>exact q
  |ret=>exact q
  |panic ch=>exact q
  |outgrown=>exact q
 |.cond c x y,h,s,k,hn,hx=>by
  have lit : ∀ b,ev G s.T c = V (.bool b) → TEq s.T (zMs c b s.T) := by
   intro b hb
   cases c with
   |tmp t=>exact TEq.lit (TEq.refl _) hb
   |const v=>exact TEq.refl _
   |global g=>exact TEq.refl _
   |func f=>exact TEq.refl _
  rcases zf8 (show z0o (ev G s.T c) _ _ = some r from hx) with ⟨h1,h2⟩|⟨h1,h2⟩
  ·exact zsu h1 (fun _=>AWp.text (lit _ h1) (zae hm hE x h.l ⟨s.H,_⟩ k hn h2)) (fun q=>by cases q)
  ·exact zsu h1 (fun q=>by cases q) (fun _=>AWp.text (lit _ h1) (zae hm hE y h.r ⟨s.H,_⟩ k hn h2))
 |.block id c,h,s,k,hn,hx=>by
  refine zuz (AWp.mono (zae hm hE c h.c s _ hn hx) fun e s' q=>?_)
  cases e with
  |normal=>exact q
  |exit i =>
   simp only [zjc]
   split
   ·rename_i e
    have hb : Nat.beq i id = true := Nat.beq_eq.mpr e
    dsimp only at q
    rw [hb] at q;exact q
   ·rename_i e
    have hb : Nat.beq i id = false := by
     cases hb : Nat.beq i id with
     |false=>rfl
     |true=>exact absurd (Nat.eq_of_beq_eq_true hb) e
    dsimp only at q
    rw [hb] at q;exact q
  |goto l=>exact q
  |ret=>exact q
  |panic ch=>exact q
  |outgrown=>exact q
 |.loop c,h,s,k,hn,hx=>by
  refine rowsE_ok (K := fun s=>z7c M (fun s kc kx=>zLa P G E M N c h.c s (zvs s.H.length h.L h.Lo kc kx)) ⟨s.H,zba h.L s.T⟩ k) (fun s hn hx=>?_) hn hx
  refine AWp.forget (T' := zba h.L s.T) (zfU h.L s.T) ?_
  refine zvy (ι := { p : Nat × ASt // n ≤ p.2.H.length ∧ z7c p.1 (fun s kc kx=>zLa P G E M N c h.c s (zvs s.H.length h.L h.Lo kc kx)) p.2 k = some r }) (fun p=>p.1.2) (fun p=>p.1.1) ⟨(M,⟨s.H,zba h.L s.T⟩),hn,hx⟩ rfl ?_
  rintro ⟨⟨m,s⟩,hn,hx⟩
  cases m with
  |zero=>cases hx
  |succ m =>
   refine AWp.post (zae hm hE c h.c s _ hn hx) fun e s' q=>?_
   have other : k e ⟨s'.H,zba h.Lo s'.T⟩ = some r → ∃ T2,(∀ i,get T2 i = get s'.T i ∨ get T2 i = .nil) ∧ k e ⟨s'.H,T2⟩ = some r := fun q=>⟨zba h.Lo s'.T,zfU _ _,q⟩
   cases e with
   |normal =>
    obtain ⟨h1,h2⟩ := z05 (show z0C _ _ = some r from q)
    simp only [Bool.and_eq_true,decide_eq_true_eq] at h1
    have hl : (s'.H.take s.H.length).length = s.H.length := by rw [List.length_take];omega
    refine ⟨s'.T,fun i=>.inl rfl,⟨(m,⟨s'.H.take s.H.length,zba h.L s'.T⟩),by rw [hl];exact hn,h2⟩,⟨HLe.take _ _,?_,?_⟩,?_,Nat.lt_succ_self m⟩
    ·show (s'.H.take s.H.length).all (ltO (s'.H.take s.H.length).length) = true
     rw [hl];exact h1.1.2
    ·show TLe (s'.H.take s.H.length).length s'.T (zba h.L s'.T)
     rw [hl];exact zsV _ _ h1.2
    ·show n ≤ (s'.H.take s.H.length).length
     rw [hl];exact hn
   |exit id=>exact other q
   |goto l=>exact other q
   |ret=>exact other q
   |panic ch=>exact other q
   |outgrown=>exact other q
 |.rangeFunc ..,h,s,k,hn,hx=>by cases hx
 |.scope _,h,s,k,hn,hx=>by cases hx
 |.label _,h,s,k,hn,hx=>by cases hx
 |.goto _,h,s,k,hn,hx=>by cases hx
 |.refuse _,h,s,k,hn,hx=>by cases hx
 |.exit id,h,s,k,hn,hx=>zyi hx
 |.ret,h,s,k,hn,hx=>zDY hx
def zLU (P : Program) (H : List AObj) (T : Tm) : List ResultVar → (List AV → RO) → RO
 |[],K=>K []
 |.tmp t :: rs,K=>zLU P H T rs fun ds=>K (get T t :: ds)
 |.cell b t :: rs,K=>z04 (z1T P t) H (get T b) fun d=>zLU P H T rs fun ds=>K (d :: ds)
theorem zlP {r : AV × List AObj} : ∀ {rs : List ResultVar} {K : List AV → RO},zLU P H T rs K = some r → zNt P H T rs fun ds=>K ds = some r
 |[],K,h=>h
 |.tmp t :: rs,K,h=>zlP (rs := rs) h
 |.cell b t :: rs,K,h=>zcx (fun d q=>zlP (rs := rs) q) (zma h)
def cbE {R : Type} (b : Bool) (x y : R) : R := match b with|true=>x|false=>y
def zIh (H : List AObj) (X : AV) : RO := z0C (ltT 0 (fzV H X)) (some (fzV H X,[]))
def z1Z (H : List AObj) (X : AV) : RO := cbE (ltT 0 X) (some (X,[])) (zIh H X)
theorem zsq {H H' : List AObj} {X Y : AV} (h : z1Z H Y = some (X,H')) : ltT 0 X = true ∧ fzV H Y = X := by
 unfold z1Z cbE at h
 split at h
 ·rename_i hl
  cases h
  exact ⟨hl,zH6 hl⟩
 ·obtain ⟨h1,h2⟩ := z05 h
  cases h2
  exact ⟨h1,rfl⟩
def zIJ (P : Program) (rs : List ResultVar) : KO (AV × List AObj) := fun e s=>match e with
 |.normal=>zLU P s.H s.T rs fun ds=>z1Z s.H (ro s.H (zaR ds))
 |.ret=>zLU P s.H s.T rs fun ds=>z1Z s.H (ro s.H (zaR ds))
 |_=>none
def z4f (n : Nat) (H : List AObj) (X : AV) : RO := z0C (decide (n ≤ H.length) && (H.take n).all (ltO n) && ltT n X) (some (X,H.take n))
def zIr (P : Program) (n : Nat) (rs : List ResultVar) : KO (AV × List AObj) := fun e s=>match e with
 |.normal=>zLU P s.H s.T rs fun ds=>z4f n s.H (ro s.H (zaR ds))
 |.ret=>zLU P s.H s.T rs fun ds=>z4f n s.H (ro s.H (zaR ds))
 |_=>none
theorem zEN {N : Nat} (hm : P.follows .mixedOrders = true) (hE : zaL P G E) {f : FuncId} {fn : Func} {c : Code} {args : List AV} (hf : P.funcs[f]? = some fn) (hb : fn.body = some c) (hc : zey P f = true) (rs : List ResultVar) (hrs : fn.results.toList = rs) (hN : fn.ntmps = N) (hargs : args.length ≤ N) (h : Hint)
  {X : AV} {H' : List AObj} (hx : zLa P G E M (F0 N) c h ⟨[],z14 0 args⟩ (zIJ P rs) = some (X,H')) : ACp P G f args X := by
 have key := zae (n := 0) hm hE c h ⟨[],z14 0 args⟩ _ (Nat.zero_le _) hx
 have fin : ∀ s : ASt,(zLU P s.H s.T rs fun ds=>z1Z s.H (ro s.H (zaR ds))) = some (X,H') → ltT 0 X = true ∧ zNt P s.H s.T rs fun ds=>fzV s.H (ro s.H (zaR ds)) = X := by
  intro s q
  have q := zlP q
  have q2 : zNt P s.H s.T rs fun ds=>ltT 0 X = true ∧ fzV s.H (ro s.H (zaR ds)) = X := z8h (fun ds w=>zsq w) q
  refine ⟨?_,z8h (fun ds w=>w.2) q2⟩
  clear q hx key
  have : ∀ (rs : List ResultVar) (K : List AV → Prop),(∀ ds,K ds → ltT 0 X = true) → zNt P s.H s.T rs K → ltT 0 X = true := by
   intro rs
   induction rs with
   |nil=>intro K hK h;exact hK _ h
   |cons a rs ih =>
    intro K hK h
    cases a with
    |tmp t=>exact ih _ (fun ds=>hK _) h
    |cell b t =>
     obtain ⟨d,_,h2⟩ := zdy h
     exact ih _ (fun ds=>hK _) h2
  exact this rs _ (fun ds w=>w.1) q2
 refine zts hf hb hc rs hrs hN hargs (AWp.mono key fun e s q=>?_)
 cases e with
 |normal=>exact fin s q
 |ret=>exact fin s q
 |exit id=>cases q
 |goto l=>cases q
 |panic ch=>cases q
 |outgrown=>cases q
theorem zCM {N : Nat} (hm : P.follows .mixedOrders = true) (hE : zaL P G E) {f : FuncId} {fn : Func} {c : Code} {args : List AV} (hf : P.funcs[f]? = some fn) (hb : fn.body = some c) (hc : zey P f = true) (rs : List ResultVar) (hrs : fn.results.toList = rs) (hN : fn.ntmps = N) (hargs : args.length ≤ N) (h : Hint)
  {X : AV} {H' : List AObj} (hx : zLa P G E M (F0 N) c h ⟨H,z14 0 args⟩ (zIr P H.length rs) = some (X,H')) : AC P G f args H (Is X H') := by
 have key := zae (n := H.length) hm hE c h ⟨H,z14 0 args⟩ _ (Nat.le_refl _) hx
 have fin : ∀ s : ASt,(zLU P s.H s.T rs fun ds=>z4f H.length s.H (ro s.H (zaR ds))) = some (X,H') →
   zNt P s.H s.T rs fun ds=>∃ X' H'',(X' = zaR ds ∨ X' = ro s.H (zaR ds)) ∧ HLe s.H H'' ∧ H''.all (ltO H''.length) = true ∧ H.length ≤ H''.length ∧ ltT H''.length X' = true ∧ Is X H' X' H'' := by
  intro s q
  refine z8h (fun ds w=>?_) (zlP q)
  obtain ⟨h1,h2⟩ := z05 w
  simp only [Bool.and_eq_true,decide_eq_true_eq] at h1
  have hl : (s.H.take H.length).length = H.length := by rw [List.length_take];omega
  cases h2
  exact ⟨_,_, .inr rfl,HLe.take _ _,by rw [hl];exact h1.1.2,by rw [hl];exact Nat.le_refl _,by rw [hl];exact h1.2,rfl,rfl⟩
 refine zo6 hf hb hc rs hrs N hN hargs (AWp.mono key fun e s q=>?_)
 cases e with
 |normal=>exact fin s q
 |ret=>exact fin s q
 |exit id=>cases q
 |goto l=>cases q
 |panic ch=>cases q
 |outgrown=>cases q
end
end Go.Proofs.Ytaaogcnjfkgnoaa

namespace Go.Proofs.Ytaaogcnjfkgnoaa
open Go.RowKit
section
variable {R : Type} {P : Program} {G : Gl} {E : Env} {M n : Nat} {N : FS}
abbrev zzD (b : Bool) (x : Option R) : Option R := Bool.rec (motive := fun _=>Option R) none x b
theorem zqA (b : Bool) (x : Option R) : zzD b x = z0C b x := by cases b <;> rfl
abbrev zNj {α : Type} (b : Bool) (x y : α) : α := Bool.rec (motive := fun _=>α) y x b
abbrev zN4 {α : Type} (l : List α) (n : Nat) : Option α := List.rec (motive := fun _=>Nat → Option α) (fun _=>none) (fun a _ ih n=>Nat.rec (motive := fun _=>Option α) (some a) (fun m _=>ih m) n) l n
theorem zxn {α : Type} : ∀ (l : List α) (n : Nat),zN4 l n = l[n]?
 |[],n=>rfl
 |a :: r,0=>rfl
 |a :: r,n + 1=>(zxn r n : zN4 r n = r[n]?)
abbrev zpn (T : Tm) (i : Nat) : AV := List.rec (motive := fun _=>AV) .nil (fun p _ ih=>zNj (Nat.beq p.1 i) p.2 ih) T
theorem slotK_eq : ∀ (T : Tm) (i : Nat), zpn   T i = get T i
  | [], i => rfl
  | (j, d) :: r, i => by
    have := slotK_eq r i
    show zNj  (Nat.beq j i) d (zpn   r i) = if j = i then d else get r i
    by_cases e : j = i
    · rw [if_pos e, Nat.beq_eq.mpr e]
    · rw [if_neg e]
      cases hb : Nat.beq j i with
      | false => exact this
      | true => exact absurd (Nat.eq_of_beq_eq_true hb) e
abbrev evK (G : Gl) (T : Tm) (x : Operand) : AV := Operand.rec (motive := fun _=>AV) (fun t=>zpn T t) (fun v=>cv v) (fun g=>zL6 G g) (fun f=>V (.func (.func f) #[] #[])) x
theorem za7 (G : Gl) (T : Tm) (x : Operand) : evK G T x = ev G T x := by
 cases x with
 |tmp t=>exact slotK_eq T t
 |const v=>rfl
 |global g=>rfl
 |func f=>rfl
abbrev zMq {α β : Type} (f : α → β) (l : List α) : List β := List.rec (motive := fun _=>List β) [] (fun a _ ih=>f a :: ih) l
theorem zeo {α β : Type} (f : α → β) : ∀ (l : List α),zMq f l = l.map f
 |[]=>rfl
 |a :: r=>by
  have := zeo f r
  show f a :: zMq f r = f a :: r.map f
  rw [this]
abbrev zxl (E : Env) (f : FuncId) : Option Ent := List.rec (motive := fun _=>Option Ent) none (fun p _ ih=>zNj (Nat.beq f p.1) (some p.2) ih) E
theorem findK_eq : ∀ (E : Env) (f : FuncId), zxl   E f = zj9   E f
  | [], f => rfl
  | (g, e) :: r, f => by
    have := findK_eq r f
    show zNj  (Nat.beq f g) (some e) (zxl   r f) = if f = g then some e else zj9   r f
    by_cases q : f = g
    · rw [if_pos q, Nat.beq_eq.mpr q]
    · rw [if_neg q]
      cases hb : Nat.beq f g with
      | false => exact this
      | true => exact absurd (Nat.eq_of_beq_eq_true hb) q
abbrev unK (op : UnOp) (x : AV) (K : AV → Option R) : Option R :=
 UnOp.rec (motive := fun _=>Option R) (unE .neg x K) (unE .xor x K) (zzX x fun b=>K (V (.bool (!b)))) (unE .plus x K) op
theorem zHV (op : UnOp) (x : AV) (K : AV → Option R) : unK op x K = unE op x K := by cases op <;> rfl
abbrev zGO (E : Env) (x : AV) (args : List AV) (H : List AObj) (K : AV → List AObj → Option R) : Option R :=
 match x with
 |.slice caps [.held (.inl (.func (.func f) _ _)), .held (.inr (.inl (k,_)))]=>zq4 (zj9 E f) ((caps.take k ++ args ++ caps.drop k).map (ro H)) H K
 |.held (.inl (.func (.func f) ⟨[]⟩ ⟨[]⟩))=>zq4 (zj9 E f) (args.map (ro H)) H K
 |_=>none
abbrev zJK (st : Option (TypeId × Nat)) (at_ : Option (Nat × Nat)) (H : List AObj) (x ix : AV) (K : AV → Option R) : Option R :=
 match st with
 |some (_,ek)=>z3H ek H x ix K
 |none=>match at_ with
  |some (n,ek)=>zx3 n ek x ix K
  |none=>none
abbrev zIH (e : Option Ent) (args : List AV) (H : List AObj) (K : AV → List AObj → Option R) : Option R :=
 match e with
 |some (.tell g)=>z1D (g args) args fun X=>K X H
 |some (.keep g)=>z4O (g args H) K
 |some (.add g)=>zNA (g args H.length) H K
 |_=>none
abbrev zEG (e : Option Ent) (args : List AV) (K : AV → Option R) : Option R :=
 match e with
 |some (.tell g)=>z1D (g args) args K
 |_=>none
abbrev zLu (f : FuncId) (H : List AObj) (l : List AV) : List AV := zNj (Nat.beq f RAW) l (zMq (ro H) l)
theorem zBx (f : FuncId) (H : List AObj) (l : List AV) : zLu f H l = roF f H l := by
 unfold zLu roF
 rw [zeo]
 cases Nat.beq f RAW <;> rfl
abbrev zJf (p : Bool) (ks : Option (List CK)) (isB sl : Bool) (op : BinOp) (x y : AV) (K : AV → Option R) : Option R := zNj p (zNi op x y K) (zMe ks isB sl op x y K)
theorem zAs (p : Bool) (ks : Option (List CK)) (isB sl : Bool) (op : BinOp) (x y : AV) (K : AV → Option R) : zJf p ks isB sl op x y K = zF7 p ks isB sl op x y K := by cases p <;> rfl
abbrev zoN (P : Program) (G : Gl) (E : Env) (D : Bool) (o : Op) (s : ASt) (K : AV → List AObj → Option R) : Option R :=
 match o with
 |.move x=>K (evK G s.T x) s.H
 |.assign x=>K (evK G s.T x) s.H
 |.pick c x y=>zr6 (evK G s.T c) (K (evK G s.T x) s.H) (K (evK G s.T y) s.H)
 |.binOp op t x y _=>zJf (zs2 P t) (zN1 P t) (zmQ P t) (zAM P t) op (evK G s.T x) (evK G s.T y) fun r=>K r s.H
 |.unOp op _ x=>unK op (evK G s.T x) fun r=>K r s.H
 |.alloc t=>z2f (zpm P t) t s.H K
 |.box t x=>zN2 t s.H (evK G s.T x) K
 |.build t ps=>z1F (zpj P t) (zpm P t) (zMq (fun p=>(p.1,evK G s.T p.2)) ps.toList) fun r=>K r s.H
 |.buildSlice t n ps=>z0O (zKT P t) n (zMq (fun p=>(p.1,evK G s.T p.2)) ps.toList) fun r=>K r s.H
 |.load t x=>z04 (z1T P t) s.H (evK G s.T x) fun r=>K r s.H
 |.store t x y=>z0I (z1T P t) s.H (evK G s.T x) (evK G s.T y) fun H'=>K .nil H'
 |.nilCheck x=>zMC (evK G s.T x) fun r=>K r s.H
 |.convert src dst x=>zsa (z8A P src && z8A P dst) (zMu P dst) (P.underlying src).isSome (zKX P src && z8A P dst) (z8A P src && zKX P dst) (ro s.H (evK G s.T x)) fun r=>K r s.H
 |.extract x i=>zLC (evK G s.T x) i fun r=>K r s.H
 |.fieldAddr t x f=>z02 (zmw P t f) (evK G s.T x) fun r=>K r s.H
 |.field t x f=>zpE (zmw P t f) (evK G s.T x) fun r=>K r s.H
 |.indexAddr t x y=>zJK (zeD P t) (zl1 P t) s.H (evK G s.T x) (evK G s.T y) fun r=>K r s.H
 |.index t x y=>zA8 (z8A P t) (zl1 P t) (evK G s.T x) (evK G s.T y) fun r=>K r s.H
 |.slice t x lo hi none=>zhk (z8A P t) (zeD P t) s.H (evK G s.T x) (lo.map (evK G s.T)) (hi.map (evK G s.T)) fun r=>K r s.H
 |.call { callee := .value (.func f),args := args,argTypes := _ }=>zNj D (zEG (zxl E f) (zMq (ro s.H) (zMq (evK G s.T) args.toList)) fun r=>K r s.H) (zIH (zxl E f) (zLu f s.H (zMq (evK G s.T) args.toList)) s.H K)
 |.makeFunc fn first caps=>z0C ((zMq (evK G s.T) (first.toList ++ caps.toList)).all zLj) (K (CL fn first.toList.length (zMq (evK G s.T) (first.toList ++ caps.toList))) s.H)
 |.call { callee := .value (.tmp t),args := args,argTypes := _ }=>zGO E (zpn s.T t) (zMq (evK G s.T) args.toList) s.H K
 |.call { callee := .builtin .len,args := ⟨[x]⟩,argTypes := ⟨[t]⟩ }=>zLZ (z8A P t) (zeD P t).isSome s.H (evK G s.T x) fun r=>K r s.H
 |.call { callee := .builtin .append,args := ⟨[x,y]⟩,argTypes := ⟨[t,t']⟩ }=>zNj (Nat.beq t' t) (zNh (zKT P t) s.H (evK G s.T x) (evK G s.T y) K) (zzD (z8A P t') (zxA (zKT P t) s.H (evK G s.T x) (evK G s.T y) K))
 |.call { callee := .builtin .max,args := ⟨[x,y]⟩,argTypes := _ }=>mmE true (evK G s.T x) (evK G s.T y) fun r=>K r s.H
 |.call { callee := .builtin .min,args := ⟨[x,y]⟩,argTypes := _ }=>mmE false (evK G s.T x) (evK G s.T y) fun r=>K r s.H
 |.lookup t x y ok=>zuk P t s.H (evK G s.T x) (evK G s.T y) ok fun r=>K r s.H
 |.mapUpdate t x y z=>zue P t s.H (evK G s.T x) (evK G s.T y) (evK G s.T z) fun H'=>K .nil H'
 |.makeMap t none=>zuj (zMo P t) s.H K
 |_=>none
theorem zCF (a b : Nat) : Nat.beq a b = decide (a = b) := by
 rw [Bool.eq_iff_iff]
 simp
theorem zfO (o : Oper) (s : ASt) (K : AV → List AObj → Option R) : zoN P G E false o.op s K = zoY P G E o s K := by
 obtain ⟨dst,op,ty,pos,af,gd⟩ := o
 have e1 : ∀ T,evK G T = ev G T := fun T=>funext (za7 G T)
 have e4 : ∀ T,(fun p : Nat × Operand=>(p.1,evK G T p.2)) = fun p=>(p.1,ev G T p.2) := fun T=>funext fun p=>by rw [za7]
 unfold zoY zoN
 dsimp only
 cases op
 case slice t x lo hi mx =>
  cases mx
  ·dsimp only;rw [za7,e1]
  ·rfl
 case call c =>
  obtain ⟨cal,⟨args⟩,⟨ts⟩⟩ := c
  cases cal
  case value f =>
   cases f
   case tmp t=>show zfn E (zpn s.T t) (zMq (evK G s.T) args) s.H K = zfn E (get s.T t) (args.map (ev G s.T)) s.H K;rw [slotK_eq,zeo,e1]
   case func f=>show zIH (zxl E f) (zLu f s.H (zMq (evK G s.T) args)) s.H K = zq4 (zj9 E f) (roF f s.H (args.map (ev G s.T))) s.H K;rw [findK_eq,zBx,zeo,e1];rfl
   all_goals rfl
  case invoke r m=>rfl
  case builtin b =>
   cases b
   case len =>
    rcases args with _|⟨x,_|⟨y,r⟩⟩ <;> rcases ts with _|⟨t,_|⟨t',q⟩⟩ <;> first|rfl|(dsimp only;rw [za7])
   case append =>
    rcases args with _|⟨x,_|⟨y,_|⟨z,r⟩⟩⟩ <;> rcases ts with _|⟨t,_|⟨t',_|⟨t2,q⟩⟩⟩ <;> first|rfl|(dsimp only;rw [za7,za7,zqA,zCF];cases decide (t' = t) <;> rfl)
   case max=>rcases args with _|⟨x,_|⟨y,_|⟨z,r⟩⟩⟩ <;> first|rfl|(dsimp only;rw [za7,za7])
   case min=>rcases args with _|⟨x,_|⟨y,_|⟨z,r⟩⟩⟩ <;> first|rfl|(dsimp only;rw [za7,za7])
   all_goals rfl
 case binOp op' t x y yt=>exact (zAs ..).trans (by rw [za7,za7])
 case makeMap t r=>cases r <;> rfl
 case pick c x y =>
  show zr6 (evK G s.T c) (K (evK G s.T x) s.H) (K (evK G s.T y) s.H) = zr6 (ev G s.T c) (K (ev G s.T x) s.H) (K (ev G s.T y) s.H)
  rw [za7,za7,za7]
 case unOp op t x =>
  show unK op (evK G s.T x) _ = unE op (ev G s.T x) _
  rw [zHV,za7]
 case build t ps =>
  show z1F _ _ (zMq (fun p=>(p.1,evK G s.T p.2)) ps.toList) _ = z1F _ _ (ps.toList.map fun p=>(p.1,ev G s.T p.2)) _
  rw [zeo,e4]
 case buildSlice t n ps =>
  show z0O _ _ (zMq (fun p=>(p.1,evK G s.T p.2)) ps.toList) _ = z0O _ _ (ps.toList.map fun p=>(p.1,ev G s.T p.2)) _
  rw [zeo,e4]
 case makeFunc fn first caps =>
  show z0C ((zMq (evK G s.T) (first.toList ++ caps.toList)).all zLj) (K (CL fn _ (zMq (evK G s.T) (first.toList ++ caps.toList))) s.H) = _
  rw [zeo,e1]
 all_goals first
  |rfl
  |((repeat (first|rw [za7]|rw [e1]|rw [slotK_eq])) <;> first|done|rfl)
theorem zAS (op : Op) (s : ASt) (K : AV → List AObj → Option R) (hne : ∀ f args ts,op ≠ .call { callee := .value (.func f),args := args,argTypes := ts }) : zoN P G E true op s K = zoN P G E false op s K := by
 cases op
 case makeMap t r=>cases r <;> rfl
 case slice t x lo hi mx=>cases mx <;> rfl
 case call c =>
  obtain ⟨cal,⟨args⟩,⟨ts⟩⟩ := c
  cases cal
  case value f =>
   cases f
   case func f=>exact (hne _ _ _ rfl).elim
   all_goals rfl
  case invoke r m=>rfl
  case builtin b =>
   cases b
   case len=>rcases args with _|⟨x,_|⟨y,r⟩⟩ <;> rcases ts with _|⟨t,_|⟨t',q⟩⟩ <;> rfl
   case append=>rcases args with _|⟨x,_|⟨y,_|⟨z,r⟩⟩⟩ <;> rcases ts with _|⟨t,_|⟨t',_|⟨t2,q⟩⟩⟩ <;> rfl
   case max=>rcases args with _|⟨x,_|⟨y,_|⟨z,r⟩⟩⟩ <;> rfl
   case min=>rcases args with _|⟨x,_|⟨y,_|⟨z,r⟩⟩⟩ <;> rfl
   all_goals rfl
 all_goals rfl
theorem zdq (D : Bool) (o : Oper) (s : ASt) (K : AV → List AObj → Option R) : zoN P G E D o.op s K = zmy P G E D o s K := by
 cases D with
 |false=>exact zfO o s K
 |true =>
  have key := zfO (P := P) (G := G) (E := E) o s K
  unfold zmy
  dsimp only
  split
  ·rename_i f args ts he
   have e1 : ∀ T,evK G T = ev G T := fun T=>funext (za7 G T)
   rw [he]
   show zEG (zxl E f) (zMq (ro s.H) (zMq (evK G s.T) args.toList)) (fun r=>K r s.H) = zul (zj9 E f) ((args.toList.map (ev G s.T)).map (ro s.H)) (fun r=>K r s.H)
   rw [findK_eq,zeo,zeo,e1]
   rfl
  ·rename_i hne
   rw [← key]
   exact zAS _ _ _ fun f args ts he=>hne f args ts he
abbrev zM7 (T : Tm) (d : Option Tmp) (v : AV) : Tm := Option.rec (motive := fun _=>Tm) T (fun d=>(d,v) :: T) d
theorem z2U (s : ASt) (H : List AObj) (d : Option Tmp) (v : AV) : (⟨H,zM7 s.T d v⟩ : ASt) = s.set H d v := by cases d <;> rfl
abbrev zMp (ops : List Oper) (j : Nat) : Option Tmp := Option.rec (motive := fun _=>Option Tmp) none (fun o=>o.dst) (zN4 ops j)
theorem zpZ (ops : List Oper) (j : Nat) : zMp ops j = zm7 ops j := by
 unfold zm7
 show Option.rec (motive := fun _=>Option Tmp) none (fun o=>o.dst) (zN4 ops j) = _
 rw [zxn]
 cases ops[j]? <;> rfl
abbrev runK (P : Program) (G : Gl) (E : Env) (D : Bool) (ops : List Oper) (K : ASt → Option R) (l : List Oper) : List Nat → ASt → Option R :=
  List.rec (motive := fun _ => List Nat → ASt → Option R) (fun _ s => K s)
    (fun o _ ih sk s => match o.guard with
      | none => zoN   P G E D o.op s fun d H => ih (skO sk o.dst) ⟨H, zM7  s.T o.dst d⟩
      | some (j, want) => match zMp  ops j with
        | none => none
        | some t => zNj  (sk.contains t) (ih (skN sk o.dst) ⟨s.H, zM7  s.T o.dst UD⟩)
          (zr6   (zpn   s.T t)
            (zNj  want (zoN   P G E D o.op ⟨s.H, (t, V (.bool true)) :: s.T⟩ fun d H => ih (skO sk o.dst) ⟨H, zM7  ((t, V (.bool true)) :: s.T) o.dst d⟩) (ih (skN sk o.dst) ⟨s.H, zM7  ((t, V (.bool true)) :: s.T) o.dst UD⟩))
            (zNj  want (ih (skN sk o.dst) ⟨s.H, zM7  ((t, V (.bool false)) :: s.T) o.dst UD⟩) (zoN   P G E D o.op ⟨s.H, (t, V (.bool false)) :: s.T⟩ fun d H => ih (skO sk o.dst) ⟨H, zM7  ((t, V (.bool false)) :: s.T) o.dst d⟩)))) l
theorem zbH {x x' : AV} {A A' B B' : Option R} (h1 : x = x') (h2 : A = A') (h3 : B = B') : zr6 x A B = z0o x' A' B' := by subst h1 h2 h3;rfl
theorem zxJ (D : Bool) (ops : List Oper) (K : ASt → Option R) : ∀ (l : List Oper) (sk : List Nat) (s : ASt),runK P G E D ops K l sk s = runE P G E D ops sk l s K
 |[],sk,s=>rfl
 |o :: r,sk,s=>by
  have ih : ∀ sk s,List.rec (motive := fun _=>List Nat → ASt → Option R) _ _ r sk s = _ := fun sk s=>zxJ D ops K r sk s
  unfold runE
  unfold runK
  dsimp only
  cases hg : o.guard with
  |none =>
   dsimp only
   rw [zdq]
   refine congrArg (zmy P G E D o s) (funext fun d=>funext fun H=>?_)
   exact (ih _ _).trans (by rw [z2U])
  |some g =>
   obtain ⟨j,want⟩ := g
   dsimp only
   rw [zpZ]
   cases hd : zm7 ops j with
   |none=>rfl
   |some t =>
    dsimp only
    cases hc : sk.contains t with
    |true =>
     dsimp only
     exact (ih _ _).trans (by rw [z2U])
    |false =>
     refine zbH (slotK_eq _ _) ?_ ?_
     ·cases want with
      |true=>exact (zdq D o _ _).trans (congrArg (zmy P G E D o _) (funext fun d=>funext fun H=>(ih (skO sk o.dst) ⟨H,zM7 ((t,V (.bool true)) :: s.T) o.dst d⟩).trans (by rw [z2U ⟨s.H,(t,V (.bool true)) :: s.T⟩])))
      |false=>exact (ih (skN sk o.dst) ⟨s.H,zM7 ((t,V (.bool true)) :: s.T) o.dst UD⟩).trans (by rw [z2U ⟨s.H,(t,V (.bool true)) :: s.T⟩])
     ·cases want with
      |true=>exact (ih (skN sk o.dst) ⟨s.H,zM7 ((t,V (.bool false)) :: s.T) o.dst UD⟩).trans (by rw [z2U ⟨s.H,(t,V (.bool false)) :: s.T⟩])
      |false=>exact (zdq D o _ _).trans (congrArg (zmy P G E D o _) (funext fun d=>funext fun H=>(ih (skO sk o.dst) ⟨H,zM7 ((t,V (.bool false)) :: s.T) o.dst d⟩).trans (by rw [z2U ⟨s.H,(t,V (.bool false)) :: s.T⟩])))
abbrev zLR (n k : Nat) (a d : AV) (l : List (Nat × List AObj)) (K : Option R) : Option R := List.rec (motive := fun _=>Option R) K (fun p _ ih=>zNj (Nat.ble n p.1) (z04 k p.2 a fun d'=>eqE d d' ih) ih) l
theorem zxy (n k : Nat) (a d : AV) (K : Option R) : ∀ (l : List (Nat × List AObj)),zLR n k a d l K = zMI n k a d l K
 |[]=>rfl
 |p :: r=>by
  have ih := zxy n k a d K r
  unfold zMI
  show zNj (Nat.ble n p.1) (z04 k p.2 a fun d'=>eqE d d' (zLR n k a d r K)) (zLR n k a d r K) = _
  rw [ih]
  cases Nat.ble n p.1 <;> rfl
abbrev zLh (H : List AObj) (l : List OpI) (K : Option R) : Option R := List.rec (motive := fun _=>Option R) K (fun x _ ih=>z04 x.2.1 H x.2.2.1 fun d'=>eqE x.2.2.2 d' ih) l
theorem zxE (H : List AObj) (K : Option R) : ∀ (l : List OpI),zLh H l K = zL0 H l K
 |[]=>rfl
 |x :: r=>by
  have ih := zxE H K r
  show z04 x.2.1 H x.2.2.1 (fun d'=>eqE x.2.2.2 d' (zLh H r K)) = z04 x.2.1 H x.2.2.1 (fun d'=>eqE x.2.2.2 d' (zL0 H r K))
  rw [ih]
abbrev zJr (o : Oper) : Option (TypeId × Operand) := match o.op with|.load t x=>some (t,x)|_=>none
abbrev zuD (f : Bool) (o : Oper) : Option (TypeId × Operand) := Option.rec (motive := fun _=>Option (TypeId × Operand)) none (fun p=>zNj f (some p) none) (zJr o)
theorem zvC (f : Bool) (o : Oper) : zuD f o = zmP f o := by
 obtain ⟨dst,op,ty,pos,af,gd⟩ := o
 cases op <;> cases f <;> rfl
abbrev zsc (A : List Nat) (p : Nat) (l : List OpI) : List OpI := List.rec (motive := fun _=>List OpI) [] (fun x _ ih=>zNj ((A.getD p 0).testBit x.1) ih (x :: ih)) l
theorem zt9 (A : List Nat) (p : Nat) : ∀ (l : List OpI),zsc A p l = zhO A p l
 |[]=>rfl
 |x :: r=>by
  have ih := zt9 A p r
  show zNj ((A.getD p 0).testBit x.1) (zsc A p r) (x :: zsc A p r) = zhO A p (x :: r)
  rw [ih]
  show _ = (match (A.getD p 0).testBit x.1 with|true=>zhO A p r|false=>x :: zhO A p r)
  cases (A.getD p 0).testBit x.1 <;> rfl
abbrev cls3 {α : Type} (n : Nat) (a b c : α) : α := Nat.rec (motive := fun _=>α) a (fun k _=>Nat.rec (motive := fun _=>α) b (fun _ _=>c) k) n
abbrev runDK (P : Program) (G : Gl) (E : Env) (ops : List Oper) (A : List Nat) (K : ASt → Option R) (l : List Oper) : List Nat → List (List AObj) → List (Nat × List AObj) → List OpI → ASt → Option R :=
  List.rec (motive := fun _ => List Nat → List (List AObj) → List (Nat × List AObj) → List OpI → ASt → Option R) (fun _ _ _ _ s => K s)
    (fun o _ ih sk acc old opn s => cls3 (zLq  (kcE E) o.op)
      (match o.guard with
        | none => (Option.rec (motive := fun _ => Option R) (zoN   P G E true o.op ⟨zNz  (kcE E) ops A (acc ++ [s.H]) acc.length, s.T⟩ fun d _ => ih (skO sk o.dst) (acc ++ [s.H]) old opn ⟨s.H, zM7  (s.T) o.dst d⟩)
          (fun p => z04   (z1T   P p.1) s.H (evK G (s.T) p.2) fun d => zLR  (loI (kcE E) ops A acc.length) (z1T   P p.1) (evK G (s.T) p.2) d old (ih (skO sk o.dst) (acc ++ [s.H]) old ((acc.length, z1T   P p.1, evK G (s.T) p.2, d) :: opn) ⟨s.H, zM7  (s.T) o.dst d⟩))
          (zuD    (zju   (kcE E) ops A acc.length) o))
        | some (j, want) => match zMp  ops j with
          | none => none
          | some t => zNj  (sk.contains t) (ih (skN sk o.dst) (acc ++ [s.H]) old opn ⟨s.H, zM7  s.T o.dst UD⟩)
            (zr6   (zpn   s.T t)
              (zNj  want (Option.rec (motive := fun _ => Option R) (zoN   P G E true o.op ⟨zNz  (kcE E) ops A (acc ++ [s.H]) acc.length, (t, V (.bool true)) :: s.T⟩ fun d _ => ih (skO sk o.dst) (acc ++ [s.H]) old opn ⟨s.H, zM7  ((t, V (.bool true)) :: s.T) o.dst d⟩)
          (fun p => z04   (z1T   P p.1) s.H (evK G ((t, V (.bool true)) :: s.T) p.2) fun d => zLR  (loI (kcE E) ops A acc.length) (z1T   P p.1) (evK G ((t, V (.bool true)) :: s.T) p.2) d old (ih (skO sk o.dst) (acc ++ [s.H]) old ((acc.length, z1T   P p.1, evK G ((t, V (.bool true)) :: s.T) p.2, d) :: opn) ⟨s.H, zM7  ((t, V (.bool true)) :: s.T) o.dst d⟩))
          (zuD    (zju   (kcE E) ops A acc.length) o)) (ih (skN sk o.dst) (acc ++ [s.H]) old opn ⟨s.H, zM7  ((t, V (.bool true)) :: s.T) o.dst UD⟩))
              (zNj  want (ih (skN sk o.dst) (acc ++ [s.H]) old opn ⟨s.H, zM7  ((t, V (.bool false)) :: s.T) o.dst UD⟩) (Option.rec (motive := fun _ => Option R) (zoN   P G E true o.op ⟨zNz  (kcE E) ops A (acc ++ [s.H]) acc.length, (t, V (.bool false)) :: s.T⟩ fun d _ => ih (skO sk o.dst) (acc ++ [s.H]) old opn ⟨s.H, zM7  ((t, V (.bool false)) :: s.T) o.dst d⟩)
          (fun p => z04   (z1T   P p.1) s.H (evK G ((t, V (.bool false)) :: s.T) p.2) fun d => zLR  (loI (kcE E) ops A acc.length) (z1T   P p.1) (evK G ((t, V (.bool false)) :: s.T) p.2) d old (ih (skO sk o.dst) (acc ++ [s.H]) old ((acc.length, z1T   P p.1, evK G ((t, V (.bool false)) :: s.T) p.2, d) :: opn) ⟨s.H, zM7  ((t, V (.bool false)) :: s.T) o.dst d⟩))
          (zuD    (zju   (kcE E) ops A acc.length) o)))))
      (match o.guard with | none => zCu   P G E o s fun d Y => zLh  (s.H ++ Y) (zsc   A acc.length opn) (ih (skO sk o.dst) (acc ++ [s.H]) ((acc.length, s.H) :: old) (zsc   A acc.length opn) ⟨s.H ++ Y, zM7  s.T o.dst d⟩) | some _ => none)
      (match o.guard with
        | none => zoN   P G E false o.op s fun d H' => zLh  H' (zsc   A acc.length opn) (ih (skO sk o.dst) (acc ++ [s.H]) ((acc.length, s.H) :: old) (zsc   A acc.length opn) ⟨H', zM7  s.T o.dst d⟩)
        | some (j, want) => match zMp  ops j with
          | none => none
          | some t => zNj  (sk.contains t) (ih (skN sk o.dst) (acc ++ [s.H]) old opn ⟨s.H, zM7  s.T o.dst UD⟩)
            (zr6   (zpn   s.T t)
              (zNj  want (zoN   P G E false o.op ⟨s.H, (t, V (.bool true)) :: s.T⟩ fun d H' => zLh  H' (zsc   A acc.length opn) (ih (skO sk o.dst) (acc ++ [s.H]) ((acc.length, s.H) :: old) (zsc   A acc.length opn) ⟨H', zM7  ((t, V (.bool true)) :: s.T) o.dst d⟩)) (ih (skN sk o.dst) (acc ++ [s.H]) old opn ⟨s.H, zM7  ((t, V (.bool true)) :: s.T) o.dst UD⟩))
              (zNj  want (ih (skN sk o.dst) (acc ++ [s.H]) old opn ⟨s.H, zM7  ((t, V (.bool false)) :: s.T) o.dst UD⟩) (zoN   P G E false o.op ⟨s.H, (t, V (.bool false)) :: s.T⟩ fun d H' => zLh  H' (zsc   A acc.length opn) (ih (skO sk o.dst) (acc ++ [s.H]) ((acc.length, s.H) :: old) (zsc   A acc.length opn) ⟨H', zM7  ((t, V (.bool false)) :: s.T) o.dst d⟩)))))) l
theorem zto (ops : List Oper) (K : ASt → Option R) : ∀ (l : List Oper) (sk : List Nat) (acc : List (List AObj)) (old : List (Nat × List AObj)) (opn : List OpI) (s : ASt),runDK P G E ops (zMx ops []) K l sk acc old opn s = runD P G E ops sk acc old opn l s K
 |[],sk,acc,old,opn,s=>rfl
 |o :: r,sk,acc,old,opn,s=>by
  have ih : ∀ sk acc old opn s,List.rec (motive := fun _=>List Nat → List (List AObj) → List (Nat × List AObj) → List OpI → ASt → Option R) _ _ r sk acc old opn s = _ := fun sk acc old opn s=>zto ops K r sk acc old opn s
  have iho : ∀ sk acc old (n : Nat) opn H0 s,zLh H0 (zsc (zMx ops []) n opn) (List.rec (motive := fun _=>List Nat → List (List AObj) → List (Nat × List AObj) → List OpI → ASt → Option R) _ _ r sk acc old (zsc (zMx ops []) n opn) s) = zL0 H0 (zhO (zMx ops []) n opn) (runD P G E ops sk acc old (zhO (zMx ops []) n opn) r s K) := fun sk acc old n opn H0 s=>(zxE H0 _ _).trans ((congrArg (zL0 H0 _) (ih sk acc old _ s)).trans (by rw [zt9]))
  unfold runD
  unfold runDK
  dsimp only
  generalize zLq (kcE E) o.op = cl
  rcases cl with _|_|cl
  ·rw [zvC]
   cases hop : zmP (zju (kcE E) ops (zMx ops []) acc.length) o with
   |some p =>
    obtain ⟨t',x⟩ := p
    dsimp only
    have go : ∀ T,z04 (z1T P t') s.H (evK G T x) (fun d=>zLR (loI (kcE E) ops (zMx ops []) acc.length) (z1T P t') (evK G T x) d old (runDK P G E ops (zMx ops []) K r (skO sk o.dst) (acc ++ [s.H]) old ((acc.length,z1T P t',evK G T x,d) :: opn) ⟨s.H,zM7 T o.dst d⟩)) = z04 (z1T P t') s.H (ev G T x) (fun d=>zMI (loI (kcE E) ops (zMx ops []) acc.length) (z1T P t') (ev G T x) d old (runD P G E ops (skO sk o.dst) (acc ++ [s.H]) old ((acc.length,z1T P t',ev G T x,d) :: opn) r (ASt.set ⟨s.H,T⟩ s.H o.dst d) K)) := fun T=>by
     rw [za7]
     refine congrArg (z04 (z1T P t') s.H (ev G T x)) (funext fun d=>?_)
     refine (zxy (loI (kcE E) ops (zMx ops []) acc.length) (z1T P t') (ev G T x) d _ old).trans (congrArg (zMI (loI (kcE E) ops (zMx ops []) acc.length) (z1T P t') (ev G T x) d old) ?_)
     exact (ih _ _ _ _ _).trans (by rw [z2U ⟨s.H,T⟩])
    cases hg : o.guard with
    |none=>exact go s.T
    |some g =>
     obtain ⟨j,want⟩ := g
     dsimp only
     rw [zpZ]
     cases hd : zm7 ops j with
     |none=>rfl
     |some t =>
      dsimp only
      cases hc : sk.contains t with
      |true =>
       exact (ih (skN sk o.dst) (acc ++ [s.H]) old opn ⟨s.H,zM7 s.T o.dst UD⟩).trans (by rw [z2U];rfl)
      |false =>
       refine zbH (slotK_eq _ _) ?_ ?_
       ·cases want with
        |true=>exact go _
        |false=>exact (ih (skN sk o.dst) (acc ++ [s.H]) old opn ⟨s.H,zM7 ((t,V (.bool true)) :: s.T) o.dst UD⟩).trans (by rw [z2U ⟨s.H,(t,V (.bool true)) :: s.T⟩])
       ·cases want with
        |true=>exact (ih (skN sk o.dst) (acc ++ [s.H]) old opn ⟨s.H,zM7 ((t,V (.bool false)) :: s.T) o.dst UD⟩).trans (by rw [z2U ⟨s.H,(t,V (.bool false)) :: s.T⟩])
        |false=>exact go _
   |none =>
   dsimp only
   cases hg : o.guard with
   |none =>
    dsimp only
    rw [zdq]
    exact congrArg (zmy P G E true o _) (funext fun d=>funext fun H=>(ih (skO sk o.dst) (acc ++ [s.H]) old opn ⟨s.H,zM7 s.T o.dst d⟩).trans (by rw [z2U]))
   |some g =>
    obtain ⟨j,want⟩ := g
    dsimp only
    rw [zpZ]
    cases hd : zm7 ops j with
    |none=>rfl
    |some t =>
     dsimp only
     cases hc : sk.contains t with
     |true =>
      exact (ih (skN sk o.dst) (acc ++ [s.H]) old opn ⟨s.H,zM7 s.T o.dst UD⟩).trans (by rw [z2U];rfl)
     |false =>
      refine zbH (slotK_eq _ _) ?_ ?_
      ·cases want with
       |true=>exact (zdq true o _ _).trans (congrArg (zmy P G E true o _) (funext fun d=>funext fun H=>(ih (skO sk o.dst) (acc ++ [s.H]) old opn ⟨s.H,zM7 ((t,V (.bool true)) :: s.T) o.dst d⟩).trans (by rw [z2U ⟨s.H,(t,V (.bool true)) :: s.T⟩])))
       |false=>exact (ih (skN sk o.dst) (acc ++ [s.H]) old opn ⟨s.H,zM7 ((t,V (.bool true)) :: s.T) o.dst UD⟩).trans (by rw [z2U ⟨s.H,(t,V (.bool true)) :: s.T⟩])
      ·cases want with
       |true=>exact (ih (skN sk o.dst) (acc ++ [s.H]) old opn ⟨s.H,zM7 ((t,V (.bool false)) :: s.T) o.dst UD⟩).trans (by rw [z2U ⟨s.H,(t,V (.bool false)) :: s.T⟩])
       |false=>exact (zdq true o _ _).trans (congrArg (zmy P G E true o _) (funext fun d=>funext fun H=>(ih (skO sk o.dst) (acc ++ [s.H]) old opn ⟨s.H,zM7 ((t,V (.bool false)) :: s.T) o.dst d⟩).trans (by rw [z2U ⟨s.H,(t,V (.bool false)) :: s.T⟩])))
  ·cases hg : o.guard with
   |none =>
    exact congrArg (zCu P G E o s) (funext fun d=>funext fun Y=>(iho (skO sk o.dst) (acc ++ [s.H]) ((acc.length,s.H) :: old) acc.length opn (s.H ++ Y) ⟨s.H ++ Y,zM7 s.T o.dst d⟩).trans (by rw [z2U]))
   |some g=>rfl
  ·cases hg : o.guard with
   |none =>
    exact (zfO o s _).trans (congrArg (zoY P G E o s) (funext fun d=>funext fun Y=>(iho (skO sk o.dst) (acc ++ [s.H]) ((acc.length,s.H) :: old) acc.length opn Y ⟨Y,zM7 s.T o.dst d⟩).trans (by rw [z2U])))
   |some g =>
    obtain ⟨j,want⟩ := g
    dsimp only
    rw [zpZ]
    cases hd : zm7 ops j with
    |none=>rfl
    |some t =>
     dsimp only
     cases hc : sk.contains t with
     |true =>
      exact (ih (skN sk o.dst) (acc ++ [s.H]) old opn ⟨s.H,zM7 s.T o.dst UD⟩).trans (by rw [z2U];rfl)
     |false =>
      refine zbH (slotK_eq _ _) ?_ ?_
      ·cases want with
       |true=>exact (zfO o ⟨s.H,(t,V (.bool true)) :: s.T⟩ _).trans (congrArg (zoY P G E o _) (funext fun d=>funext fun Y=>(iho (skO sk o.dst) (acc ++ [s.H]) ((acc.length,s.H) :: old) acc.length opn Y ⟨Y,zM7 ((t,V (.bool true)) :: s.T) o.dst d⟩).trans (by rw [z2U ⟨s.H,(t,V (.bool true)) :: s.T⟩])))
       |false=>exact (ih (skN sk o.dst) (acc ++ [s.H]) old opn ⟨s.H,zM7 ((t,V (.bool true)) :: s.T) o.dst UD⟩).trans (by rw [z2U ⟨s.H,(t,V (.bool true)) :: s.T⟩])
      ·cases want with
       |true=>exact (ih (skN sk o.dst) (acc ++ [s.H]) old opn ⟨s.H,zM7 ((t,V (.bool false)) :: s.T) o.dst UD⟩).trans (by rw [z2U ⟨s.H,(t,V (.bool false)) :: s.T⟩])
       |false=>exact (zfO o ⟨s.H,(t,V (.bool false)) :: s.T⟩ _).trans (congrArg (zoY P G E o _) (funext fun d=>funext fun Y=>(iho (skO sk o.dst) (acc ++ [s.H]) ((acc.length,s.H) :: old) acc.length opn Y ⟨Y,zM7 ((t,V (.bool false)) :: s.T) o.dst d⟩).trans (by rw [z2U ⟨s.H,(t,V (.bool false)) :: s.T⟩])))
abbrev ziy (L : List Nat) (T : Tm) : Tm := List.rec (motive := fun _=>Tm) [] (fun i _ ih=>(i,zpn T i) :: ih) L
theorem zl8 : ∀ (L : List Nat) (T : Tm),ziy L T = zba L T
 |[],T=>rfl
 |i :: r,T=>by
  have := zl8 r T
  show (i,zpn T i) :: ziy r T = (i,get T i) :: zba r T
  rw [this,slotK_eq]
abbrev ghK (g : Option (Nat × Nat × TypeId × Nat)) (s : ASt) : ASt := Option.rec (motive := fun _=>ASt) s (fun q=>ghS q.1 q.2.1 q.2.2.1 q.2.2.2 s) g
theorem zGd (g : Option (Nat × Nat × TypeId × Nat)) (s : ASt) : ghK g s = ghJ g s := by cases g <;> rfl
abbrev zF2 (K : ASt → Option R) (l : List (Nat × TypeId × Nat)) : ASt → Option R :=
 List.rec (motive := fun _=>ASt → Option R) (fun s=>K s) (fun p _ ih s=>zNf (zpn s.T p.1) p.2.1 p.2.2 s.H fun d H=>ih ⟨H,(p.1,d) :: s.T⟩) l
theorem rowsK_eq (K : ASt → Option R) : ∀ (l : List (Nat × TypeId × Nat)) (s : ASt), zF2   K l s = zA1   l s K
  | [], s => rfl
  | (i, e, z) :: r, s => by
    have ih : ∀ s, List.rec (motive := fun _ => ASt → Option R) _ _ r s = _ := fun s => rowsK_eq K r s
    unfold zA1  
    unfold zF2  
    dsimp only
    rw [slotK_eq]
    exact congrArg (zNf  _ e z s.H) (funext fun d => funext fun H => ih _)
abbrev zKQ (c : Operand) (b : Bool) (T : Tm) : Tm := Operand.rec (motive := fun _=>Tm) (fun t=>(t,V (.bool b)) :: T) (fun _=>T) (fun _=>T) (fun _=>T) c
theorem zxc (c : Operand) (b : Bool) (T : Tm) : zKQ c b T = zMs c b T := by cases c <;> rfl
abbrev zym (n0 : Nat) (L Lo : List Nat) (kc : ASt → Option R) (kx : KO R) : KO R := fun e s=>match e with|.normal=>z7z n0 s.H (ziy L s.T) kc|e=>kx e ⟨s.H,ziy Lo s.T⟩
theorem znp (n0 : Nat) : ∀ (L : List Nat) (T : Tm),(zba L T).all (fun p=>ltT n0 p.2) = L.all fun i=>ltT n0 (get T i)
 |[],T=>rfl
 |i :: r,T=>by simp only [zba,List.all_cons,znp n0 r T]
theorem zrj (n0 : Nat) (L Lo : List Nat) (kc : ASt → Option R) (kx : KO R) : zym n0 L Lo kc kx = zvs n0 L Lo kc kx := by
 funext e s
 have e1 : ∀ L,ziy L s.T = zba L s.T := fun L=>zl8 L s.T
 cases e with
 |normal =>
  show z7z n0 s.H (ziy L s.T) kc = zzs n0 L s kc
  unfold z7z zzs
  rw [e1,znp]
 |exit i=>show kx _ ⟨s.H,ziy Lo s.T⟩ = kx _ ⟨s.H,zba Lo s.T⟩;rw [e1]
 |goto i=>show kx _ ⟨s.H,ziy Lo s.T⟩ = kx _ ⟨s.H,zba Lo s.T⟩;rw [e1]
 |ret=>show kx _ ⟨s.H,ziy Lo s.T⟩ = kx _ ⟨s.H,zba Lo s.T⟩;rw [e1]
 |panic i=>show kx _ ⟨s.H,ziy Lo s.T⟩ = kx _ ⟨s.H,zba Lo s.T⟩;rw [e1]
 |outgrown=>show kx _ ⟨s.H,ziy Lo s.T⟩ = kx _ ⟨s.H,zba Lo s.T⟩;rw [e1]
def gt (T : Tm) (i : Nat) : AV := zpn T i
theorem zwH (T : Tm) (i : Nat) : gt T i = get T i := slotK_eq T i
def z11 (P : Program) (G : Gl) (E : Env) (M : Nat) (N : FS) (c : Code) (h : Hint) (s : ASt) (k : KO R) : Option R := zLa P G E M N c h s k
def z8G (P : Program) (G : Gl) (E : Env) (M : Nat) (N : FS) (c : Code) (h : Hint) (L Lo : List Nat) (s : ASt) (kc : ASt → Option R) (kx : KO R) : Option R := zLa P G E M N c h s (zvs s.H.length L Lo kc kx)
def z5s (n0 : Nat) (L Lo : List Nat) (kc : ASt → Option R) (kx : KO R) : KO R := (fun _ : Program → Gl → Env → Nat → FS → Code → Hint → List Nat → List Nat → ASt → (ASt → Option R) → KO R → Option R=>zym n0 L Lo kc kx) z8G
theorem zqM (n0 : Nat) (L Lo : List Nat) (kc : ASt → Option R) (kx : KO R) : z5s n0 L Lo kc kx = zvs n0 L Lo kc kx := zrj n0 L Lo kc kx
def zM3 (next : ASt → Option R) (k : KO R) : KO R := (fun _ : Program → Gl → Env → Nat → FS → Code → Hint → List Nat → List Nat → ASt → (ASt → Option R) → KO R → Option R=>fun e s=>match e with|.normal=>next s|e=>k e s) z8G
def z0P (id : Nat) (k : KO R) : KO R := (fun _ : Program → Gl → Env → Nat → FS → Code → Hint → List Nat → List Nat → ASt → (ASt → Option R) → KO R → Option R=>fun e s=>match e with|.exit i=>(match Nat.beq i id with|true=>k .normal s|false=>k (.exit i) s)|e=>k e s) z8G
abbrev ztQ {α X : Type} (l : List α) (k : List α → X) : X := List.rec (motive := fun _=>(List α → X) → X) (fun k=>k []) (fun a _ ih k=>ih (fun r=>k (a :: r))) l k
theorem zoH {α X : Type} : ∀ (l : List α) (k : List α → X),ztQ l k = k l
 |[],k=>rfl
 |a :: r,k=>(zoH r (fun r=>k (a :: r)) : ztQ r (fun r=>k (a :: r)) = k (a :: r))
abbrev zFT {X : Type} (l : List Oper) (acc : List Nat) (k : List Nat → X) : X := List.rec (motive := fun _=>List Nat → (List Nat → X) → X) (fun acc k=>k acc) (fun o _ ih acc k=>ztQ (acc ++ [ztm acc o]) fun acc=>ih acc k) l acc k
theorem zt0 {X : Type} : ∀ (l : List Oper) (acc : List Nat) (k : List Nat → X),zFT l acc k = k (zMx l acc)
 |[],acc,k=>rfl
 |o :: r,acc,k=>by
  show ztQ (acc ++ [ztm acc o]) (fun acc=>zFT r acc k) = k (zMx r (acc ++ [ztm acc o]))
  rw [zoH,zt0 r]
abbrev zMm (l : List Oper) (f : Nat → Oper → Bool) (j : Nat) : Bool := List.rec (motive := fun _=>Nat → Bool) (fun _=>true) (fun o _ ih j=>Bool.rec (motive := fun _=>Bool) false (ih (j + 1)) (f j o)) l j
theorem zuB (o : Oper) (r : List Oper) (f : Nat → Oper → Bool) : zNa (o :: r) f = (f 0 o && zNa r fun k=>f (k + 1)) := by
 unfold zNa
 rw [List.length_cons,List.range_succ_eq_map,List.all_cons,List.all_map]
 rfl
theorem zxO : ∀ (l : List Oper) (f : Nat → Oper → Bool) (j : Nat),zMm l f j = zNa l fun k=>f (k + j)
 |[],f,j=>rfl
 |o :: r,f,j=>by
  rw [zuB]
  have := zxO r f (j + 1)
  show Bool.rec (motive := fun _=>Bool) false (zMm r f (j + 1)) (f j o) = _
  rw [this]
  have e : (fun k=>f (k + (j + 1))) = fun k=>f (k + 1 + j) := by funext k;congr 1;omega
  rw [e]
  simp only [Nat.zero_add]
  cases f j o <;> rfl
theorem zEa (l : List Oper) (f : Nat → Oper → Bool) : zNa l f = zMm l f 0 := (zxO l f 0).symm
abbrev zMf (ops : List Oper) (A : List Nat) (p : Nat) : Bool := zLn ops p && zLn ops (p + 1) && zMm ops (fun j _=>!((A.getD j 0).testBit (p + 1)) || (A.getD j 0).testBit p) 0
abbrev tailA (kc : KC) (ops : List Oper) (N : Nat) (A : List Nat) : Bool :=
  zMm  ops (fun k o =>
    (match o.dst with
      | some d => decide (d < N) && zMm  ops (fun q oq => q == k || oq.dst != some d) 0
      | none => zLq  kc o.op != 0) &&
    (decide (zLq  kc o.op ≤ 1) || zMm  ops (fun i oi => i == k || zLq  kc oi.op == 0 || (if i < k then (A.getD k 0).testBit i else (A.getD i 0).testBit k)) 0) &&
    (decide (zLq  kc o.op ≠ 1) || zMm  ops (fun i oi => i == k || decide (zLq  kc oi.op ≠ 1) || (if i < k then (A.getD k 0).testBit i || (k == i + 1 && zMf  ops A i) else (A.getD i 0).testBit k || (i == k + 1 && zMf  ops A k))) 0)) 0
abbrev zFQ (ops : List Oper) (A : List Nat) : Bool :=
 zMm ops (fun j o=>(zuM o ++ (match o.guard with|some (k,_)=>(zm7 ops k).toList|none=>[])).all fun t =>
  (zMm ops (fun k ok=>ok.dst != some t || (A.getD k 0).testBit j) 0) || !(zMm ops (fun k ok=>!(decide (k < j) && ok.dst == some t && (A.getD j 0).testBit k)) 0)) 0
abbrev zGM (kc : KC) (N : Nat) (ops : List Oper) (A : List Nat) : Bool := zaQ ops.toArray && tailA kc ops N A && zFQ ops A
theorem zyW (kc : KC) (N : Nat) (ops : List Oper) : zGM kc N ops (zMx ops []) = zs5 kc N ops := by
 unfold zs5 tailY zzy zME
 simp only [zEa]
 rfl
abbrev runQK (P : Program) (G : Gl) (E : Env) (ops : List Oper) (K : ASt → Option R) (l : List Oper) : List Nat → ASt → Option R :=
  List.rec (motive := fun _ => List Nat → ASt → Option R) (fun _ s => K s)
    (fun o _ ih sk s => match o.guard with
        | none => zoN   P G E true o.op s fun d _ => ih (skO sk o.dst) ⟨s.H, zM7  s.T o.dst d⟩
        | some (j, want) => match zMp  ops j with
          | none => none
          | some t => zNj  (sk.contains t) (ih (skN sk o.dst) ⟨s.H, zM7  s.T o.dst UD⟩)
            (zr6   (zpn   s.T t)
              (zNj  want (zoN   P G E true o.op ⟨s.H, (t, V (.bool true)) :: s.T⟩ fun d _ => ih (skO sk o.dst) ⟨s.H, zM7  ((t, V (.bool true)) :: s.T) o.dst d⟩) (ih (skN sk o.dst) ⟨s.H, zM7  ((t, V (.bool true)) :: s.T) o.dst UD⟩))
              (zNj  want (ih (skN sk o.dst) ⟨s.H, zM7  ((t, V (.bool false)) :: s.T) o.dst UD⟩) (zoN   P G E true o.op ⟨s.H, (t, V (.bool false)) :: s.T⟩ fun d _ => ih (skO sk o.dst) ⟨s.H, zM7  ((t, V (.bool false)) :: s.T) o.dst d⟩)))) l
theorem zsC (ops : List Oper) (K : ASt → Option R) (hq : ∀ (k : Nat) (o : Oper),ops[k]? = some o → zLq (kcE E) o.op = 0) : ∀ (l : List Oper) (sk : List Nat) (acc : List (List AObj)) (old : List (Nat × List AObj)) (opn : List OpI) (s : ASt),(∀ o ∈ l,zLq (kcE E) o.op = 0) → (∀ x ∈ acc,x = s.H) → runQK P G E ops K l sk s = runD P G E ops sk acc old opn l s K
 |[],sk,acc,old,opn,s,hl,ha=>rfl
 |o :: r,sk,acc,old,opn,s,hl,ha=>by
  have ih : ∀ sk T,List.rec (motive := fun _=>List Nat → ASt → Option R) _ _ r sk (⟨s.H,T⟩ : ASt) = _ := fun sk T=>zsC ops K hq r sk (acc ++ [s.H]) old opn ⟨s.H,T⟩ (fun o h=>hl o (List.mem_cons_of_mem _ h)) (fun x h=>by
   rcases List.mem_append.1 h with h|h
   ·exact ha x h
   ·exact List.mem_singleton.1 h)
  have h0 : zLq (kcE E) o.op = 0 := hl o (List.mem_cons_self ..)
  have hlo : loI (kcE E) ops (zMx ops []) acc.length = 0 := by
   rcases zlC (kc := kcE E) ops acc.length with h|⟨q,o',h1,h2,h3,h4,h5⟩
   ·exact h.1
   ·exact absurd (hq q o' h3) h4
  have hH : zNz (kcE E) ops (zMx ops []) (acc ++ [s.H]) acc.length = s.H := by
   unfold zNz
   rw [zmS hq]
   dsimp only
   rw [hlo]
   cases acc with
   |nil=>rfl
   |cons x a=>exact ha x (List.mem_cons_self ..)
  unfold runD
  unfold runQK
  rw [h0,hH]
  dsimp only
  rw [show zmP (zju (kcE E) ops (zMx ops []) acc.length) o = none by rw [zmS hq];unfold zmP;rfl]
  dsimp only
  cases hg : o.guard with
   |none =>
    dsimp only
    rw [zdq]
    exact congrArg (zmy P G E true o _) (funext fun d=>funext fun H=>(ih (skO sk o.dst) (zM7 s.T o.dst d)).trans (by rw [z2U]))
   |some g =>
    obtain ⟨j,want⟩ := g
    dsimp only
    rw [zpZ]
    cases hd : zm7 ops j with
    |none=>rfl
    |some t =>
     dsimp only
     cases hc : sk.contains t with
     |true =>
      exact (ih (skN sk o.dst) (zM7 s.T o.dst UD)).trans (by rw [z2U];rfl)
     |false =>
      refine zbH (slotK_eq _ _) ?_ ?_
      ·cases want with
       |true=>exact (zdq true o _ _).trans (congrArg (zmy P G E true o _) (funext fun d=>funext fun H=>(ih (skO sk o.dst) (zM7 ((t,V (.bool true)) :: s.T) o.dst d)).trans (by rw [z2U ⟨s.H,(t,V (.bool true)) :: s.T⟩])))
       |false=>exact (ih (skN sk o.dst) (zM7 ((t,V (.bool true)) :: s.T) o.dst UD)).trans (by rw [z2U ⟨s.H,(t,V (.bool true)) :: s.T⟩])
      ·cases want with
       |true=>exact (ih (skN sk o.dst) (zM7 ((t,V (.bool false)) :: s.T) o.dst UD)).trans (by rw [z2U ⟨s.H,(t,V (.bool false)) :: s.T⟩])
       |false=>exact (zdq true o _ _).trans (congrArg (zmy P G E true o _) (funext fun d=>funext fun H=>(ih (skO sk o.dst) (zM7 ((t,V (.bool false)) :: s.T) o.dst d)).trans (by rw [z2U ⟨s.H,(t,V (.bool false)) :: s.T⟩])))
abbrev zBX (P : Program) (G : Gl) (E : Env) (ops : List Oper) (A : List Nat) (K : ASt → Option R) (s : ASt) : Option R :=
 zNj (zMm ops (fun _ o=>Nat.beq (zLq (kcE E) o.op) 0) 0) (runQK P G E ops K ops [] s) (runDK P G E ops A K ops [] [] [] [] s)
theorem zyc (ops : List Oper) (K : ASt → Option R) (s : ASt) : zBX P G E ops (zMx ops []) K s = runD P G E ops [] [] [] [] ops s K := by
 unfold zBX
 cases h : zMm ops (fun _ o=>Nat.beq (zLq (kcE E) o.op) 0) 0 with
 |false=>exact zto ops K ops [] [] [] [] s
 |true =>
  rw [← zEa] at h
  have hq : ∀ (k : Nat) (o : Oper),ops[k]? = some o → zLq (kcE E) o.op = 0 := fun k o ho=>Nat.eq_of_beq_eq_true (zaV h ho)
  exact zsC ops K hq ops [] [] [] [] s (fun o ho=>by obtain ⟨k,hk⟩ := List.getElem?_of_mem ho;exact hq k o hk) (fun x hx=>absurd hx List.not_mem_nil)
abbrev zF3 (E : Env) : Bool := List.rec (motive := fun _=>Bool) false (fun p _ ih=>Ent.rec (motive := fun _=>Bool) (fun _=>ih) (fun _=>ih) (fun _=>ih) (fun _=>true) p.2) E
theorem zo8 : ∀ (E : Env),zF3 E = E.any zyl
 |[]=>rfl
 |(f, .tell g) :: r=>zo8 r
 |(f, .keep g) :: r=>zo8 r
 |(f, .add g) :: r=>zo8 r
 |(f, .pan g) :: r=>rfl
abbrev zL2 (l : List Oper) : Bool := List.rec (motive := fun _=>Bool) true (fun o _ ih=>Option.rec (motive := fun _=>Bool) ih (fun _=>false) o.guard) l
theorem zx4 : ∀ (l : List Oper),zL2 l = l.all zMj
 |[]=>rfl
 |⟨d,op,ty,ps,af,none⟩ :: r=>by
  have := zx4 r
  rw [List.all_cons,← this];rfl
 |⟨d,op,ty,ps,af,some g⟩ :: r=>rfl
abbrev zFZ (E : Env) (ops : List Oper) : Bool := zNj (zF3 E) (zL2 ops) false
theorem zyg (E : Env) (ops : List Oper) : zFZ E ops = zMb E ops := by
 unfold zMb
 rw [← zo8,← zx4]
 show zNj (zF3 E) (zL2 ops) false = _
 cases zF3 E <;> rfl
abbrev zyj (e : Option Ent) (args : List AV) (H : List AObj) (K : AV → List AObj → Option R) (KP : Value → List AObj → Option R) : Option R :=
 match e with
 |some (.pan g)=>zMQ (g args H) K KP
 |some (.tell g)=>z1D (g args) args fun X=>K X H
 |some (.keep g)=>z4O (g args H) K
 |some (.add g)=>zNA (g args H.length) H K
 |none=>none
theorem zwq (e : Option Ent) (args : List AV) (H : List AObj) (K : AV → List AObj → Option R) (KP : Value → List AObj → Option R) : zyj e args H K KP = zrK e args H K KP := by
 rcases e with _|(_|_|_|_) <;> rfl
abbrev zyA (P : Program) (G : Gl) (E : Env) (o : Op) (s : ASt) (K : AV → List AObj → Option R) (KP : Value → List AObj → Option R) : Option R :=
 match o with
 |.panic x=>zs4 (evK G s.T x) s.H KP
 |.makeInterface t x=>z0C (P.concrete t) (ifE t (evK G s.T x) fun d=>K d s.H)
 |.call { callee := .value (.func f),args := args,argTypes := _ }=>zyj (zxl E f) (zMq (ro s.H) (zMq (evK G s.T) args.toList)) s.H K KP
 |.call { callee := .value (.tmp t),args := args,argTypes := _ }=>zp7 E (zpn s.T t) (zMq (evK G s.T) args.toList) s.H K KP
 |o=>zoN P G E false o s K
theorem zvd (o : Oper) (s : ASt) (K : AV → List AObj → Option R) (KP : Value → List AObj → Option R) : zyA P G E o.op s K KP = zB8 P G E o s K KP := by
 have key := zfO (P := P) (G := G) (E := E) o s K
 obtain ⟨dst,op,ty,pos,af,gd⟩ := o
 have e1 : ∀ T,evK G T = ev G T := fun T=>funext (za7 G T)
 unfold zB8
 unfold zyA
 dsimp only at key ⊢
 cases op
 case call c =>
  obtain ⟨cal,⟨args⟩,⟨ts⟩⟩ := c
  cases cal
  case value f =>
   cases f
   case tmp t=>show zp7 E (zpn s.T t) (zMq (evK G s.T) args) s.H K KP = zp7 E (get s.T t) (args.map (ev G s.T)) s.H K KP;rw [slotK_eq,zeo,e1]
   case func f=>show zyj (zxl E f) (zMq (ro s.H) (zMq (evK G s.T) args)) s.H K KP = zrK (zj9 E f) ((args.map (ev G s.T)).map (ro s.H)) s.H K KP;rw [findK_eq,zeo,zeo,e1,zwq]
   all_goals exact key
  case invoke r m=>exact key
  case builtin b=>exact key
 case panic x =>
  show zs4 (evK G s.T x) s.H KP = zs4 (ev G s.T x) s.H KP
  rw [za7]
 case makeInterface t x =>
  show z0C (P.concrete t) (ifE t (evK G s.T x) fun d=>K d s.H) = z0C (P.concrete t) (ifE t (ev G s.T x) fun d=>K d s.H)
  rw [za7]
 all_goals exact key
abbrev runPK (P : Program) (G : Gl) (E : Env) (K : ASt → Option R) (KP : Value → ASt → Option R) (l : List Oper) : ASt → Option R :=
  List.rec (motive := fun _ => ASt → Option R) (fun s => K s)
    (fun o _ ih s => match o.guard with
      | none => zyA    P G E o.op s (fun d H => ih ⟨H, zM7  s.T o.dst d⟩) (fun u H => KP u ⟨H, s.T⟩)
      | some _ => none) l
theorem zta (K : ASt → Option R) (KP : Value → ASt → Option R) : ∀ (l : List Oper) (s : ASt),runPK P G E K KP l s = zLI P G E l s K KP
 |[],s=>rfl
 |o :: r,s=>by
  have ih : ∀ s,List.rec (motive := fun _=>ASt → Option R) _ _ r s = _ := fun s=>zta K KP r s
  unfold zLI
  unfold runPK
  dsimp only
  cases hg : o.guard with
  |none =>
   dsimp only
   rw [zvd]
   congr 1
   funext d H
   exact (ih _).trans (by rw [z2U])
  |some g=>rfl
abbrev execK (P : Program) (G : Gl) (E : Env) (M : Nat) (N : FS) (c : Code) : Hint → ASt → KO R → Option R :=
  Code.rec (motive := fun _ => Hint → ASt → KO R → Option R)
    (fun h s k => k .normal s)
    (fun id ops draw h s k => ztQ    ops.toList fun l => zNj  draw
      (zFT   l [] fun A => zzD   (zGM   (kcE E) N l A) (zBX   P G E l A (fun s => k .normal s) s))
      (zzD   (zNp  N l) (zNj  (zFZ   E l) (runPK P G E (fun s => k .normal s) (fun u s => k (.panic (pch u)) s) l s) (runK P G E false l (fun s => k .normal s) l [] s))))
    (fun a b iha ihb h s k => iha h.l s (fun e s' => match e with | .normal => Option.rec (motive := fun _ => Option R) (ihb h.r s' k) (fun L => z11   P G E M N b h.r (ghK h.gho ⟨s'.H, ziy    L s'.T⟩) k) h.J | e => k e s'))
    (fun c x y ihx ihy h s k => zr6   (evK G s.T c) (ihx h.l ⟨s.H, zKQ  c true s.T⟩ k) (ihy h.r ⟨s.H, zKQ  c false s.T⟩ k))
    (fun id c ih h s k => ih h.c s (fun e s' => match e with | .exit i => (zNj  (Nat.beq i id) (k .normal s') (k (.exit i) s')) | e => k e s'))
    (fun c ih h s k => zF2   (fun s => z7c   M (z8G   P G E M N c h.c h.L h.Lo) ⟨s.H, ziy    h.L s.T⟩ k) h.rows s)
    (fun _ _ _ _ _ _ _ _ _ => none)
    (fun id h s k => k (.exit id) s)
    (fun _ _ _ _ _ => none)
    (fun _ _ _ _ => none)
    (fun _ _ _ _ => none)
    (fun h s k => k .ret s)
    (fun _ _ _ _ => none) c
theorem z76 : ∀ (c : Code) (h : Hint) (s : ASt) (k : KO R),execK P G E M N c h s k = zLa P G E M N c h s k
 |.skip,h,s,k=>rfl
 |.region id ops draw,h,s,k=>by
  refine (zoH ops.toList _).trans ?_
  cases draw with
  |true =>
   refine (zt0 ops.toList [] fun A=>zzD (zGM (kcE E) N ops.toList A) (zBX P G E ops.toList A (fun s=>k .normal s) s)).trans ?_
   rw [zyW]
   show zzD (zs5 (kcE E) N ops.toList) (zBX P G E ops.toList (zMx ops.toList []) (fun s=>k .normal s) s) = z0C _ _
   rw [zqA,zyc]
  |false =>
   show zzD _ (zNj (zFZ E ops.toList) (runPK P G E (fun s=>k .normal s) (fun u s=>k (.panic (pch u)) s) ops.toList s) (runK P G E false ops.toList (fun s=>k .normal s) ops.toList [] s)) = z0C _ _
   rw [zqA,zxJ,zta,zyg]
   cases zMb E ops.toList <;> rfl
 |.seq a b,h,s,k=>by
  show execK P G E M N a h.l s _ = zLa P G E M N a h.l s _
  rw [z76 a]
  congr 1
  funext e s'
  cases e with
  |normal =>
   dsimp only
   cases hj : h.J with
   |none=>rw [Hint.gho_none hj];exact z76 b h.r s' k
   |some L =>
    show zLa P G E M N b h.r (ghK h.gho ⟨s'.H,ziy L s'.T⟩) k = zLa P G E M N b h.r (ghJ h.gho ⟨s'.H,zba L s'.T⟩) k
    rw [zl8,zGd]
  |exit id=>rfl
  |goto l=>rfl
  |ret=>rfl
  |panic ch=>rfl
  |outgrown=>rfl
 |.cond c x y,h,s,k=>by
  show zr6 (evK G s.T c) (execK P G E M N x h.l _ k) (execK P G E M N y h.r _ k) = _
  rw [z76 x,z76 y,za7,zxc,zxc]
  rfl
 |.block id c,h,s,k=>by
  show execK P G E M N c h.c s _ = zLa P G E M N c h.c s _
  rw [z76 c]
  congr 1
  funext e s'
  cases e with
  |exit i =>
   show zNj (Nat.beq i id) _ _ = _
   dsimp only
   cases Nat.beq i id <;> rfl
  |normal=>rfl
  |goto l=>rfl
  |ret=>rfl
  |panic ch=>rfl
  |outgrown=>rfl
 |.loop c,h,s,k=>by
  show zF2 _ h.rows s = zA1 h.rows s _
  rw [rowsK_eq]
  congr 1
  funext s
  rw [zl8]
  rfl
 |.rangeFunc ..,h,s,k=>rfl
 |.scope _,h,s,k=>rfl
 |.label _,h,s,k=>rfl
 |.goto _,h,s,k=>rfl
 |.refuse _,h,s,k=>rfl
 |.exit id,h,s,k=>rfl
 |.ret,h,s,k=>rfl
theorem z03 (P : Program) (G : Gl) (E : Env) (M : Nat) (N : FS) (c : Code) (h : Hint) (s : ASt) (k : KO R) : z11 P G E M N c h s k = execK P G E M N c h s k := (z76 c h s k).symm
theorem z0F (P : Program) (G : Gl) (E : Env) (M : Nat) (N : FS) (c : Code) (h : Hint) (L Lo : List Nat) (s : ASt) (kc : ASt → Option R) (kx : KO R) : z8G P G E M N c h L Lo s kc kx = execK P G E M N c h s (zym s.H.length L Lo kc kx) := by
 rw [z76,zrj];rfl
abbrev zoM (P : Program) (H : List AObj) (T : Tm) (rs : List ResultVar) : (List AV → RO) → RO :=
 List.rec (motive := fun _=>(List AV → RO) → RO) (fun K=>K [])
  (fun r _ ih K=>ResultVar.rec (motive := fun _=>RO) (fun t=>ih fun ds=>K (gt T t :: ds)) (fun b t=>z04 (z1T P t) H (gt T b) fun d=>ih fun ds=>K (d :: ds)) r) rs
theorem zht {P : Program} {H : List AObj} {T : Tm} : ∀ (rs : List ResultVar) (K : List AV → RO),zoM P H T rs K = zLU P H T rs K
 |[],K=>rfl
 |.tmp t :: rs,K=>by
  have ih : ∀ K,zoM P H T rs K = _ := fun K=>zht rs K
  show zoM P H T rs (fun ds=>K (gt T t :: ds)) = zLU P H T rs (fun ds=>K (get T t :: ds))
  rw [ih,zwH]
 |.cell b t :: rs,K=>by
  have ih : ∀ K,zoM P H T rs K = _ := fun K=>zht rs K
  show z04 (z1T P t) H (gt T b) (fun d=>zoM P H T rs fun ds=>K (d :: ds)) = z04 (z1T P t) H (get T b) (fun d=>zLU P H T rs fun ds=>K (d :: ds))
  rw [zwH]
  exact congrArg (z04 _ _ _) (funext fun d=>ih _)
abbrev z1L (P : Program) (rs : List ResultVar) : KO (AV × List AObj) := fun e s=>match e with
 |.normal=>zoM P s.H s.T rs fun ds=>z1Z s.H (ro s.H (zaR ds))
 |.ret=>zoM P s.H s.T rs fun ds=>z1Z s.H (ro s.H (zaR ds))
 |_=>none
theorem zuu (P : Program) (rs : List ResultVar) : z1L P rs = zIJ P rs := by
 funext e s
 cases e <;> first|rfl|exact zht rs _
abbrev z5e (P : Program) (n : Nat) (rs : List ResultVar) : KO (AV × List AObj) := fun e s=>match e with
 |.normal=>zoM P s.H s.T rs fun ds=>z4f n s.H (ro s.H (zaR ds))
 |.ret=>zoM P s.H s.T rs fun ds=>z4f n s.H (ro s.H (zaR ds))
 |_=>none
theorem zvJ (P : Program) (n : Nat) (rs : List ResultVar) : z5e P n rs = zIr P n rs := by
 funext e s
 cases e <;> first|rfl|exact zht rs _
theorem z8O (P : Program) (G : Gl) (E : Env) (M : Nat) (N : FS) (c : Code) (h : Hint) (s : ASt) (rs : List ResultVar) : zLa P G E M N c h s (z1L P rs) = execK P G E M N c h s (z1L P rs) := (z76 c h s _).symm
theorem zhw (P : Program) (G : Gl) (E : Env) (M : Nat) (N : FS) (n : Nat) (c : Code) (h : Hint) (s : ASt) (rs : List ResultVar) : zLa P G E M N c h s (z5e P n rs) = execK P G E M N c h s (z5e P n rs) := (z76 c h s _).symm
theorem z0B {G : Gl} {E : Env} {M : Nat} {P : Program} {N : Nat} (hm : P.follows .mixedOrders = true) (hE : zaL P G E) {f : FuncId} {fn : Func} {c : Code} {args : List AV} (hf : P.funcs[f]? = some fn) (hb : fn.body = some c) (hc : zey P f = true) (rs : List ResultVar) (hrs : fn.results.toList = rs) (hN : fn.ntmps = N) (hargs : args.length ≤ N) (h : Hint)
  {X : AV} {H' : List AObj} (hx : zLa P G E M (F0 N) c h ⟨[],z14 0 args⟩ (z1L P rs) = some (X,H')) : ACp P G f args X :=
 zEN hm hE hf hb hc rs hrs hN hargs h (by rw [← zuu];exact hx)
theorem z1p {G : Gl} {E : Env} {M : Nat} {P : Program} {N : Nat} {H : List AObj} (hm : P.follows .mixedOrders = true) (hE : zaL P G E) {f : FuncId} {fn : Func} {c : Code} {args : List AV} (hf : P.funcs[f]? = some fn) (hb : fn.body = some c) (hc : zey P f = true) (rs : List ResultVar) (hrs : fn.results.toList = rs) (hN : fn.ntmps = N) (hargs : args.length ≤ N) (h : Hint)
  {X : AV} {H' : List AObj} (hx : zLa P G E M (F0 N) c h ⟨H,z14 0 args⟩ (z5e P H.length rs) = some (X,H')) : AC P G f args H (Is X H') :=
 zCM hm hE hf hb hc rs hrs hN hargs h (by rw [← zvJ];exact hx)
end
end Go.Proofs.Ytaaogcnjfkgnoaa

namespace Go.Proofs.Ytaaogcnjfkgnoaa
open Go.RowKit
section
variable {P : Program} {G : Gl} {E : Env} {M n : Nat} {H : List AObj}
theorem HLe.refl : ∀ (H : List AObj),HLe H H
 |[]=>trivial
 |o :: r=>⟨.inl rfl,HLe.refl r⟩
def zKf (n : Nat) (H : List AObj) (u : Value) : RO := z0C (decide (n ≤ H.length) && (H.take n).all (ltO n)) (some (PN u,H.take n))
abbrev chE (ch : List PanicEntry) (K : Value → RO) : RO := match ch with|[⟨u,false,false⟩]=>K u|_=>none
def zq3 (H : List AObj) (X : AV) : RO := z0C (H.all (ltO H.length) && ltT H.length X) (some (X,H))
abbrev zqd (P : Program) (n : Nat) (rs : List ResultVar) : KO (AV × List AObj) := fun e s=>match e with
 |.normal=>zoM P s.H s.T rs fun ds=>zq3 s.H (ro s.H (zaR ds))
 |.ret=>zoM P s.H s.T rs fun ds=>zq3 s.H (ro s.H (zaR ds))
 |_=>none
theorem zFe (P : Program) (G : Gl) (E : Env) (M : Nat) (N : FS) (n : Nat) (c : Code) (h : Hint) (s : ASt) (rs : List ResultVar) : zLa P G E M N c h s (zqd P n rs) = execK P G E M N c h s (zqd P n rs) := (z76 c h s _).symm
theorem zre {N : Nat} (hm : P.follows .mixedOrders = true) (hE : zaL P G E) {f : FuncId} {fn : Func} {c : Code} {args : List AV} (hf : P.funcs[f]? = some fn) (hb : fn.body = some c) (hc : zey P f = true) (rs : List ResultVar) (hrs : fn.results.toList = rs) (hN : fn.ntmps = N) (hargs : args.length ≤ N) (h : Hint)
  {X : AV} {H' : List AObj} (hx : zLa P G E M (F0 N) c h ⟨H,z14 0 args⟩ (zqd P n rs) = some (X,H')) : AC P G f args H (Is X H') := by
 have key := AWp.len (zae (n := H.length) hm hE c h ⟨H,z14 0 args⟩ _ (Nat.le_refl _) hx) (Nat.le_refl _)
 have fin : ∀ s : ASt,(zoM P s.H s.T rs fun ds=>zq3 s.H (ro s.H (zaR ds))) = some (X,H') → H.length ≤ s.H.length →
   zNt P s.H s.T rs fun ds=>∃ X' H'',(X' = zaR ds ∨ X' = ro s.H (zaR ds)) ∧ HLe s.H H'' ∧ H''.all (ltO H''.length) = true ∧ H.length ≤ H''.length ∧ ltT H''.length X' = true ∧ Is X H' X' H'' := by
  intro s q hl
  rw [zht] at q
  refine z8h (fun ds w=>?_) (zlP q)
  obtain ⟨h1,h2⟩ := z05 w
  simp only [Bool.and_eq_true] at h1
  cases h2
  exact ⟨_,_, .inr rfl,HLe.refl _,h1.1,hl,h1.2,rfl,rfl⟩
 refine zo6 hf hb hc rs hrs N hN hargs (AWp.mono key fun e s q=>?_)
 obtain ⟨q,hl⟩ := q
 cases e with
 |normal=>exact fin s q hl
 |ret=>exact fin s q hl
 |exit id=>cases q
 |goto l=>cases q
 |panic ch=>cases q
 |outgrown=>cases q
abbrev zDc (P : Program) (n : Nat) (rs : List ResultVar) : KO (AV × List AObj) := fun e s=>match e with
 |.normal=>zoM P s.H s.T rs fun ds=>some (ro s.H (zaR ds),s.H)
 |.ret=>zoM P s.H s.T rs fun ds=>some (ro s.H (zaR ds),s.H)
 |.panic ch=>chE ch fun u=>some (PN u,s.H)
 |_=>none
theorem zMa (P : Program) (G : Gl) (E : Env) (M : Nat) (N : FS) (n : Nat) (c : Code) (h : Hint) (s : ASt) (rs : List ResultVar) : zLa P G E M N c h s (zDc P n rs) = execK P G E M N c h s (zDc P n rs) := (z76 c h s _).symm
def zNr : Nat → Code → Code
 |0,c=>c
 |m + 1, .seq _ b=>zNr m b
 |_ + 1,c=>c
end
def zML : Nat → Code → Code → Code
 |0,_,t=>t
 |m + 1, .seq a b,t=>.seq a (zML m b t)
 |_ + 1,c,_=>c
def zIQ : Nat → Code → Bool
 |0,_=>true
 |m + 1, .seq _ b=>zIQ m b
 |_ + 1,_=>false
section
variable {P : Program} {G : Gl} {N : FS} {n : Nat} {E : Env} {M : Nat} {R : Type}
end
end Go.Proofs.Ytaaogcnjfkgnoaa

namespace Go.Proofs.Ytaaogcnjfkgnoaa
open Go.RowKit
abbrev nA (n : Int) : AV := V (.int .i64 n)
abbrev bA (b : Bool) : AV := V (.bool b)
abbrev sA (s : List UInt8) : AV := V (.string ⟨s.toArray⟩)
section
variable {R : Type} {K : AV → Option R} {ks : Option (List CK)} {isB sl : Bool} {k k' : IntKind} {a b : Int} {A B : Option R} {H : List AObj} {T : Tm} {x y z : AV} {i j n m o : Nat} {cs es : List AV}
theorem zHs : zMe ks isB sl .add (V (.int k a)) (V (.int k b)) K = K (V (.int k (k.wrap (a + b)))) := by simp [zMe,zKO,z0C]
theorem zHY : zMe ks isB sl .sub (V (.int k a)) (V (.int k b)) K = K (V (.int k (k.wrap (a - b)))) := by simp [zMe,zKO,z0C]
theorem zIx : zMe ks isB sl .mul (V (.int k a)) (V (.int k b)) K = K (V (.int k (k.wrap (a * b)))) := by simp [zMe,zKO,z0C]
theorem zID : zMe ks isB sl .quo (V (.int k a)) (V (.int k b)) K = z0C (decide (¬ b = 0)) (K (V (.int k (k.wrap (a.tdiv b))))) := by simp [zMe,zKO,z0C]
theorem zJc : zMe ks isB sl .rem (V (.int k a)) (V (.int k b)) K = z0C (decide (¬ b = 0)) (K (V (.int k (a.tmod b)))) := by simp [zMe,zKO,z0C]
theorem zF0 : zMe ks isB sl .and (V (.int k a)) (V (.int k b)) K = K (V (.int k (bits .and k a b))) := by simp [zMe,zKO,z0C]
theorem zMS : zMe ks isB sl .or (V (.int k a)) (V (.int k b)) K = K (V (.int k (bits .or k a b))) := by simp [zMe,zKO,z0C]
theorem zJg : zMe ks isB sl .xor (V (.int k a)) (V (.int k b)) K = K (V (.int k (bits .xor k a b))) := by simp [zMe,zKO,z0C]
theorem ztP : zMe ks isB sl .andNot (V (.int k a)) (V (.int k b)) K = K (V (.int k (bits .andNot k a b))) := by simp [zMe,zKO,z0C]
theorem zFz : zMe ks isB sl .shl (V (.int k a)) (V (.int k' b)) K = z0C (decide (0 ≤ b)) (K (V (.int k (k.wrap (a * 2 ^ (min b.toNat k.bits)))))) := by simp [zMe,zKO,z0C]
theorem zHA : zMe ks isB sl .shr (V (.int k a)) (V (.int k' b)) K = z0C (decide (0 ≤ b)) (K (V (.int k (a.fdiv (2 ^ (min b.toNat k.bits)))))) := by simp [zMe,zKO,z0C]
theorem zIK : zMe ks isB sl .eql (V (.int k a)) (V (.int k b)) K = K (V (.bool (decide (a = b)))) := by simp [zMe,zKO,z0C]
theorem zIT : zMe ks isB sl .neq (V (.int k a)) (V (.int k b)) K = K (V (.bool (!decide (a = b)))) := by simp [zMe,zKO,z0C]
theorem zAu : zMe ks isB sl .lss (V (.int k a)) (V (.int k b)) K = K (V (.bool (decide (a < b)))) := by simp [zMe,zKO,z0C]
theorem zIn : zMe ks isB sl .leq (V (.int k a)) (V (.int k b)) K = K (V (.bool (decide (a ≤ b)))) := by simp [zMe,zKO,z0C]
theorem zAK : zMe ks isB sl .gtr (V (.int k a)) (V (.int k b)) K = K (V (.bool (decide (b < a)))) := by simp [zMe,zKO,z0C]
theorem zJ9 : zMe ks isB sl .geq (V (.int k a)) (V (.int k b)) K = K (V (.bool (decide (b ≤ a)))) := by simp [zMe,zKO,z0C]
section
variable {s t : List UInt8}
theorem zD4 : zMe ks isB sl .add (V (.string ⟨s.toArray⟩)) (V (.string ⟨t.toArray⟩)) K = z0C (decide ((((s.length + t.length : Nat) : Int)) ≤ 9223372036854775807)) (K (V (.string ⟨(s ++ t).toArray⟩))) := _root_.id rfl
theorem zDd : zMe ks isB sl .eql (V (.string ⟨s.toArray⟩)) (V (.string ⟨t.toArray⟩)) K = K (V (.bool (decide (s = t)))) := _root_.id rfl
theorem zBN : zMe ks isB sl .neq (V (.string ⟨s.toArray⟩)) (V (.string ⟨t.toArray⟩)) K = K (V (.bool (!decide (s = t)))) := _root_.id rfl
theorem zDN : zMe ks isB sl .lss (V (.string ⟨s.toArray⟩)) (V (.string ⟨t.toArray⟩)) K = K (V (.bool (Op.bytesLess s t))) := _root_.id rfl
theorem zCk : zMe ks isB sl .leq (V (.string ⟨s.toArray⟩)) (V (.string ⟨t.toArray⟩)) K = K (V (.bool (Op.bytesLess s t || decide (s = t)))) := _root_.id rfl
theorem zEK : zMe ks isB sl .gtr (V (.string ⟨s.toArray⟩)) (V (.string ⟨t.toArray⟩)) K = K (V (.bool (!(Op.bytesLess s t || decide (s = t))))) := _root_.id rfl
theorem zCr : zMe ks isB sl .geq (V (.string ⟨s.toArray⟩)) (V (.string ⟨t.toArray⟩)) K = K (V (.bool (!Op.bytesLess s t))) := _root_.id rfl
theorem zAZ {isS isL : Bool} : zLZ isS isL H (V (.string ⟨s.toArray⟩)) K = z0C isS (K (V (.int .i64 s.length))) := _root_.id rfl
theorem zDa {isS : Bool} {at_ : Option (Nat × Nat)} : zA8 isS at_ (V (.string ⟨s.toArray⟩)) (V (.int k a)) K = z0C (isS && decide (0 ≤ a) && decide (a < s.length)) (K (V (.int .u8 ((s.getD a.toNat 0).toNat : Int)))) := _root_.id rfl
theorem zCd {isS : Bool} {st : Option (TypeId × Nat)} {lo hi : Option AV} : zhk isS st H (V (.string ⟨s.toArray⟩)) lo hi K = z0C isS (zMn lo 0 fun l=>zMn hi s.length fun h=>z0C (decide (0 ≤ l) && decide (l ≤ h) && decide (h ≤ s.length)) (K (V (.string ⟨((s.take h.toNat).drop l.toNat).toArray⟩)))) := _root_.id rfl
theorem zxZ {isS so ib : Bool} {dk : Option IntKind} {q : ByteArray} : zsa isS dk so ib false (V (.string q)) K = z0C isS (K (V (.string q))) := _root_.id rfl
end
theorem zBp {p q : Bool} : zMe ks isB sl .eql (V (.bool p)) (V (.bool q)) K = z0C isB (K (V (.bool (decide (p = q))))) := _root_.id rfl
theorem zD5 {p q : Bool} : zMe ks isB sl .neq (V (.bool p)) (V (.bool q)) K = z0C isB (K (V (.bool (!decide (p = q))))) := _root_.id rfl
theorem zrk {isS ib it : Bool} : zsa isS (some k) true ib it (V (.int k' a)) K = K (V (.int k (k.wrap a))) := _root_.id rfl
theorem zEv {p : Bool} : z0o (V (.bool p)) A B = if p = true then A else B := by cases p <;> rfl
theorem znl : z0o (V (.bool true)) A B = A := _root_.id rfl
theorem zlV : z0o (V (.bool false)) A B = B := _root_.id rfl
theorem zCs {p : Bool} : unE .not (V (.bool p)) K = K (V (.bool (!p))) := _root_.id rfl
theorem zAY : unE .neg (V (.int k a)) K = K (V (.int k (k.wrap (0 - a)))) := _root_.id rfl
theorem zBj {p : Bool} : zH2 (V (.bool p)) x y K = if p = true then K x else K y := by cases p <;> rfl
theorem zJe {ds : List AV} : zLC (TU ds) i K = zLl ds i K := _root_.id rfl
theorem zBO : zLl (x :: es) 0 K = K x := _root_.id rfl
theorem zBT : zLl (x :: es) (i + 1) K = zLl es i K := _root_.id rfl
theorem zqn {α : Type} {f : α → AV} {l : List α} (h : i < l.length) : zLl (l.map f) i K = K (f l[i]) := by simp [zLl,h]
theorem zxK {q : AObj} {K : AObj → Option R} : z2Q (q :: H) 0 K = K q := _root_.id rfl
theorem zy3 {q : AObj} {K : AObj → Option R} : z2Q (q :: H) (i + 1) K = z2Q H i K := _root_.id rfl
theorem zIp : z04 n H (.ptr (.agg cs)) K = z0C (decide (n = cs.length + 2)) (K (.agg cs)) := _root_.id rfl
theorem zI8 {v : Value} : z04 n H (.ptr (V v)) K = z0C (decide (n = 1)) (K (V v)) := _root_.id rfl
theorem zIl {sp : List AV} : z04 n H (.ptr (.slice es sp)) K = z0C (decide (n = 1)) (K (.slice es sp)) := _root_.id rfl
theorem zHG : z04 n H (OP i o) K = z2Q H i fun ob=>zjw ob fun l=>z7K n l o K := by unfold z04;rfl
theorem zz9 {e : TypeId} {z : Nat} {K : List AV → Option R} : zjw ⟨1,e,z,cs⟩ K = K cs := by unfold zjw;rfl
theorem zJa {e : TypeId} {z : Nat} {K : List AV → Option R} : zjw ⟨4,e,z,cs⟩ K = z0C (decide (0 < cs.length)) (K (zN0 cs)) := by unfold zjw;rfl
theorem zIE : z7K 1 cs o K = zLl cs o K := _root_.id rfl
theorem zIg : z7K (n + 2) cs o K = z0C (decide (o + n ≤ cs.length)) (K (.agg ((cs.drop o).take n))) := _root_.id rfl
theorem zI4 {K : List AObj → Option R} : z0I n H (OP i o) x K = z2Q H i fun ob=>zKS ob n o x fun ob'=>K (H.set i ob') := by unfold z0I;rfl
theorem zud {e : TypeId} {z : Nat} {K : AObj → Option R} : zKS ⟨1,e,z,cs⟩ n o x K = z0C (decide (¬ n = 0) && decide ((cellsOf x).length = zMH n) && (cellsOf x).all zN7) (z0C (decide (o + zMH n ≤ cs.length)) (K ⟨1,e,z,z09 cs o (cellsOf x)⟩)) := by unfold zKS;rfl
theorem zIu {e : TypeId} {z : Nat} {K : AObj → Option R} : zKS ⟨4,e,z,cs⟩ n o x K = z0C (decide (¬ n = 0) && decide ((cellsOf x).length = zMH n) && (cellsOf x).all zN7) (z0C (decide (0 < z) && decide (zMH n = z) && decide (o % z = 0) && decide (o / z < cs.length)) (K ⟨4,e,z,cs.set (o / z) x⟩)) := by unfold zKS;rfl
theorem zJi {q : Nat} : z3H n H (PR q m) (V (.int k a)) K = z0C (decide (0 ≤ a)) (z0C (decide (a < m)) (z2Q H q fun ob=>z0C (decide (ob.k = 4) && decide (ob.z = zMH n) && decide (m = ob.c.length)) (K (OP q (a.toNat * zMH n))))) := _root_.id rfl
theorem zDQ {isS isL : Bool} : zLZ isS isL H (PR i m) K = z0C isL (K (V (.int .i64 m))) := _root_.id rfl
theorem zEk {isS isL : Bool} : zLZ isS isL H ZV K = z0C isL (K (V (.int .i64 0))) := _root_.id rfl
theorem zJd {K : List AV → Option R} : zbK H ZV K = K [] := _root_.id rfl
theorem zIe : z3H n H ZV (V (.int k a)) K = z0C (decide (0 ≤ a)) (zLl [] a.toNat fun d=>z0C (decide ((cellsOf d).length = zMH n)) (K (.ptr d))) := _root_.id rfl
theorem zKZ : z02 (some (o,n)) (.ptr (.agg cs)) K = z7K n cs o fun d=>K (.ptr d) := _root_.id rfl
theorem zNv : z02 (some (o,n)) (OP i j) K = K (OP i (j + o)) := _root_.id rfl
theorem zLH : zpE (some (o,n)) (.agg cs) K = z7K n cs o K := _root_.id rfl
theorem zIt : z3H n H (SL es) (V (.int k a)) K = z0C (decide (0 ≤ a)) (zLl es a.toNat fun d=>z0C (decide ((cellsOf d).length = zMH n)) (K (.ptr d))) := _root_.id rfl
theorem zIf : z3H n H (OW i m) (V (.int k a)) K = z0C (decide (0 ≤ a)) (z2Q H i fun ob=>z0C (decide (ob.k = 2) && decide (m = ob.c.length)) (zLl ob.c a.toNat fun d=>z0C (decide ((cellsOf d).length = zMH n)) (K (.ptr d)))) := _root_.id rfl
theorem zIZ : z3H n H (V (.slice none 0 0)) (V (.int k a)) K = z0C (decide (0 ≤ a)) (zLl [] a.toNat fun d=>z0C (decide ((cellsOf d).length = zMH n)) (K (.ptr d))) := _root_.id rfl
theorem zJj : zx3 m n (.ptr (.agg cs)) (V (.int k a)) K = z0C (decide (0 ≤ a) && decide (a < m)) (z7K n cs (a.toNat * zMH n) fun d=>K (.ptr d)) := _root_.id rfl
theorem zJ2 : zx3 m n (OP i j) (V (.int k a)) K = z0C (decide (0 ≤ a) && decide (a < m)) (K (OP i (j + a.toNat * zMH n))) := _root_.id rfl
theorem zI1 {isS : Bool} : zA8 isS (some (m,n)) (.agg cs) (V (.int k a)) K = z0C (decide (0 ≤ a) && decide (a < m)) (z7K n cs (a.toNat * zMH n) K) := _root_.id rfl
theorem zBE {isS isL : Bool} : zLZ isS isL H (SL es) K = z0C isL (K (V (.int .i64 es.length))) := _root_.id rfl
theorem zAV {isS isL : Bool} : zLZ isS isL H (OW i m) K = z0C isL (K (V (.int .i64 m))) := _root_.id rfl
theorem zD1 {isS isL : Bool} : zLZ isS isL H (V (.slice none 0 0)) K = z0C isL (K (V (.int .i64 0))) := _root_.id rfl
theorem zIm {K : List AV → Option R} : zbK H (SL es) K = K es := _root_.id rfl
theorem zIc {K : List AV → Option R} : zbK H (V (.slice none 0 0)) K = K [] := _root_.id rfl
theorem zIU {K : List AV → Option R} : zbK H (OW i m) K = z2Q H i fun ob=>z0C (decide (ob.k = 2) && decide (m = ob.c.length)) (K ob.c) := _root_.id rfl
section
variable {e : TypeId} {K : AV → List AObj → Option R} {K1 : AV → Option R} {lo hi : Option AV} {isS : Bool}
theorem zAT : zNh (some (e,n)) H ZV y K = zbK H y fun es=>z0C (zs3 n es) (z0C (decide (es.length ≤ 34359738368)) (K (OW H.length es.length) (H ++ [⟨2,e,n,es⟩]))) := _root_.id rfl
theorem zBS : zNh (some (e,n)) H (V (.slice none 0 0)) y K = zbK H y fun es=>z0C (zs3 n es) (z0C (decide (es.length ≤ 34359738368)) (K (OW H.length es.length) (H ++ [⟨2,e,n,es⟩]))) := _root_.id rfl
theorem zC9 : zNh (some (e,n)) H (OW i m) y K = zbK H y fun es=>z0C (zs3 n es) (z2Q H i fun ob=>z0C (decide (ob.k = 2) && decide (ob.e = e) && decide (ob.z = n) && decide (m = ob.c.length) && decide (m + es.length ≤ 34359738368)) (K (OW i (m + es.length)) (H.set i { ob with c := ob.c ++ es }))) := _root_.id rfl
theorem z5I {q : ByteArray} {at_ : Option (TypeId × Nat)} : zxA at_ H x (V (.string q)) K = zNh at_ H x (SL (zNu q)) K := _root_.id rfl
theorem zDM {n : Nat} : zs3 n es = es.all fun d=>decide ((cellsOf d).length = n) := _root_.id rfl
theorem zC6 : zhk isS (some (e,n)) H (SL es) lo hi K1 = z0C (zs3 (zMH n) es) (zMn lo 0 fun l=>zMn hi es.length fun h=>z0C (decide (0 ≤ l) && decide (l ≤ h) && decide (h ≤ es.length)) (K1 (SL (zL8 es l h)))) := _root_.id rfl
theorem zC3 : zhk isS (some (e,n)) H (OW i m) lo hi K1 = z2Q H i fun ob=>z0C (decide (ob.k = 2) && decide (m = ob.c.length)) (z0C (zs3 (zMH n) ob.c) (zMn lo 0 fun l=>zMn hi ob.c.length fun h=>z0C (decide (0 ≤ l) && decide (l ≤ h) && decide (h ≤ ob.c.length)) (K1 (SL (zL8 ob.c l h))))) := _root_.id rfl
theorem zDH : zhk isS (some (e,n)) H (V (.slice none 0 0)) lo hi K1 = zMn lo 0 fun l=>zMn hi 0 fun h=>z0C (decide (0 ≤ l) && decide (l ≤ h) && decide (h ≤ 0)) (K1 (SL (zL8 [] l h))) := _root_.id rfl
theorem zxt : z2f (some cs) e H K = K (OP H.length 0) (H ++ [⟨1,e,0,cs⟩]) := _root_.id rfl
theorem zFv : zN2 e H x K = z0C ((cellsOf x).all zN7) (K (OP H.length 0) (H ++ [⟨1,e,0,cellsOf x⟩])) := _root_.id rfl
theorem zu3 {X : AV} {H' : List AObj} : z4O (some (X,H')) K = K X H' := _root_.id rfl
theorem zEY : zNf (V (.slice none 0 0)) e n H K = K (OW H.length 0) (H ++ [⟨2,e,n,[]⟩]) := _root_.id rfl
theorem zCT {sp : List AV} : zNf (.slice es sp) e n H K = K (.slice es sp) H := _root_.id rfl
theorem zEA : zNf (OW i m) e n H K = K (OW i m) H := _root_.id rfl
end
theorem zI2 {K : Int → Option R} : zMn none a K = K a := _root_.id rfl
theorem zI7 {K : Int → Option R} : zMn (some (V (.int k b))) a K = K b := _root_.id rfl
theorem zC0 : zMC (OP i o) K = K (OP i o) := _root_.id rfl
theorem zDp : zMC (.ptr x) K = K (.ptr x) := _root_.id rfl
theorem zyI {X : AV} {H' : List AObj} {args : List AV} : z1D (some (X,H')) args K = z0C (args.all (ltT 0)) (K X) := _root_.id rfl
theorem zxq {X : AV} : z1Z H X = cbE (ltT 0 X) (some (X,[])) (zIh H X) := _root_.id rfl
theorem zIj {x y : R} : cbE true x y = x := _root_.id rfl
theorem zIw {x y : R} : cbE false x y = y := _root_.id rfl
theorem zsM {X : AV} : z4f n H X = z0C (decide (n ≤ H.length) && (H.take n).all (ltO n) && ltT n X) (some (X,H.take n)) := _root_.id rfl
section
variable {next : ASt → Option R} {kk kx : KO R} {s : ASt} {e : Exit} {kc : ASt → Option R} {L Lo : List Nat} {Bd : ASt → (ASt → Option R) → KO R → Option R}
theorem zCE : zM3 next kk .normal s = next s := _root_.id rfl
theorem zC2 : zM3 next kk .ret s = kk .ret s := _root_.id rfl
theorem zCg : zM3 next kk (.exit i) s = kk (.exit i) s := _root_.id rfl
theorem zCp : z0P j kk .normal s = kk .normal s := _root_.id rfl
theorem zD9 : z0P j kk .ret s = kk .ret s := _root_.id rfl
theorem zDJ : z0P j kk (.exit i) s = if i = j then kk .normal s else kk (.exit i) s := by
 show (match Nat.beq i j with|true=>kk .normal s|false=>kk (.exit i) s) = _
 by_cases e : i = j
 ·rw [if_pos e,Nat.beq_eq.mpr e]
 ·rw [if_neg e]
  cases hb : Nat.beq i j with
  |false=>rfl
  |true=>exact absurd (Nat.eq_of_beq_eq_true hb) e
theorem zDx : zvs n L Lo kc kx .normal s = zzs n L s kc := _root_.id rfl
theorem zDk : zvs n L Lo kc kx .ret s = kx .ret ⟨s.H,zba Lo s.T⟩ := _root_.id rfl
theorem zDl : zvs n L Lo kc kx (.exit i) s = kx (.exit i) ⟨s.H,zba Lo s.T⟩ := _root_.id rfl
theorem zKs : z5s n L Lo kc kx .normal s = z7z n s.H (zba L s.T) kc := by rw [zqM];show zzs n L s kc = _;unfold zzs z7z;rw [znp]
theorem zJw : z5s n L Lo kc kx .ret s = kx .ret ⟨s.H,zba Lo s.T⟩ := by rw [zqM];rfl
theorem zKF : z5s n L Lo kc kx (.exit i) s = kx (.exit i) ⟨s.H,zba Lo s.T⟩ := by rw [zqM];rfl
theorem zIL : zba [] T = [] := _root_.id rfl
theorem zIs : zba (i :: L) T = (i,get T i) :: zba L T := _root_.id rfl
theorem zAX {L : Tm} : z7z n H L kc = z0C (decide (n ≤ H.length) && (H.take n).all (ltO n) && L.all fun p=>ltT n p.2) (kc ⟨H.take n,L⟩) := _root_.id rfl
theorem zDg : zzs n L s kc = z0C (decide (n ≤ s.H.length) && (s.H.take n).all (ltO n) && L.all fun i=>ltT n (get s.T i)) (kc ⟨s.H.take n,zba L s.T⟩) := _root_.id rfl
theorem zqK {ι : Type} {kx : KO R} {Bd : ASt → (ASt → Option R) → KO R → Option R} (I : ι → ASt) (M : ι → Nat) (A : ι → Option R) (hs : ∀ i (kc : ASt → Option R),(∀ j,M j < M i → kc (I j) = A j) → Bd (I i) kc kx = A i) (i : ι) {m : Nat} (hm : M i < m) : z7c m Bd (I i) kx = A i := by
 induction m generalizing i with
 |zero=>omega
 |succ m ih=>exact hs i _ fun j hj=>ih j (by omega)
theorem z13 {ι : Type} {kxr : KO R} {Bd : ASt → (ASt → Option R) → KO R → Option R} (I : ι → ASt) (M : ι → Nat) (A : ι → Option R) (hs : ∀ (kx : KO R),(∀ e s,kx e s = kxr e s) → ∀ i (kc : ASt → Option R),(∀ j,M j < M i → kc (I j) = A j) → Bd (I i) kc kx = A i) (i : ι) {m : Nat} (hm : M i < m) : z7c m Bd (I i) kxr = A i :=
 zqK I M A (fun i kc h=>hs kxr (fun _ _=>rfl) i kc h) i hm
end
end
attribute [go_sem] zHs zHY zIx zID zJc zF0 zMS zJg ztP zFz zHA zIK zIT zAu zIn zAK zJ9 zD4 zDd zBN zDN zCk zEK zCr zAZ zDa zCd zxZ zBp zD5 zrk zEv znl zlV zCs zAY zBj zJe zBO zBT zxK zy3 zIp zI8 zIl zHG zIE zIg zI4 zKZ zNv zLH zIt zIf zIZ zJj zJ2 zI1 zBE zAV zD1 zIm zIc zIU zBS zC9 zDM zC6 zC3 zDH zxt zFv zu3 zEY zCT zEA zI2 zI7 zC0 zDp zyI zxq zIj zIw zsM zCE zC2 zCg zCp zD9 zDJ zDx zDk zDl zIL zIs zAX zDg zcp zxR zz9 zJa zud zIu zJi zDQ zEk zJd zIe zAT
attribute [go_sem ↓] zHs zHY zIx zID zJc zF0 zMS zJg ztP zFz zHA zIK zIT zAu zIn zAK zJ9 zD4 zDd zBN zDN zCk zEK zCr zAZ zDa zCd zxZ zBp zD5 zrk zEv znl zlV zCs zAY zBj zJe zBO zBT zxK zy3 zIp zI8 zIl zHG zIE zIg zI4 zKZ zNv zLH zIt zIf zIZ zJj zJ2 zI1 zBE zAV zD1 zIm zIc zIU zBS zC9 zDM zC6 zC3 zDH zxt zFv zu3 zEY zCT zEA zI2 zI7 zC0 zDp zyI zxq zIj zIw zsM zCE zC2 zCg zCp zD9 zDJ zDx zDk zDl zIL zIs zAX zDg zcp zxR zz9 zJa zud zIu zJi zDQ zEk zJd zIe zAT
attribute [go_sem] zD2 zyU zKG zJs zK5 zKD zK1 zHz zHJ zE2 zzx zyP zzP zzI zCy zGe zzN zGb co_V zyp zK0 zJU zFE zHR zuc zCP zEt zAj zA0 zHH zBu
theorem zE6 {R : Type} {K : AV → Option R} {ks : Option (List CK)} {isB : Bool} {x : AV} {es : List AV} : zMe ks isB true .eql (SL (x :: es)) (V (.slice none 0 0)) K = K (V (.bool false)) := _root_.id rfl
theorem zBd {R : Type} {K : AV → Option R} {ks : Option (List CK)} {isB : Bool} {x : AV} {es : List AV} : zMe ks isB true .neq (SL (x :: es)) (V (.slice none 0 0)) K = K (V (.bool true)) := _root_.id rfl
theorem zK3 {R : Type} {K : AV → Option R} {k : IntKind} {a b : Int} : mmE true (V (.int k a)) (V (.int k b)) K = K (V (.int k (if b > a then b else a))) := by simp [mmE,z0C]
theorem zJX {R : Type} {K : AV → Option R} {k : IntKind} {a b : Int} : mmE false (V (.int k a)) (V (.int k b)) K = K (V (.int k (if b < a then b else a))) := by simp [mmE,z0C]
theorem u_bs {R : Type} {K : AV → Option R} {e : TypeId} {z : Nat} {d : AV} : z0O (some (e,z)) 1 [(0,d)] K = z0C (decide ((cellsOf d).length = z) && zvt d && decide (z ≤ 16777216)) (K (SL [d])) := by
 simp [z0O,zs3,bsV,List.range,List.range.loop]
theorem p1_V {v : Value} : zvt (V v) = true := _root_.id rfl
theorem zJJ {es : List AV} : zvt (SL es) = true := _root_.id rfl
theorem zFu {cs : List AV} : zvt (.agg cs) = cs.all fun y=>zN7 y && lt1 0 y := _root_.id rfl
section
variable {R : Type} {E : Env} {H : List AObj} {args caps : List AV} {K : AV → List AObj → Option R} {f k z n : Nat} {fn : Fn} {a b : Array Value} {g : List AV → RO} {gk : List AV → List AObj → RO}
theorem zgt : ro H (V (.func fn a b)) = V (.func fn a b) := _root_.id rfl
theorem zgL : zfn E (V (.func (.func f) #[] #[])) args H K = zq4 (zj9 E f) (args.map (ro H)) H K := _root_.id rfl
theorem zgT : zfn E (.slice caps [.held (.inl (.func (.func f) a b)), .held (.inr (.inl (k,z)))]) args H K = zq4 (zj9 E f) ((caps.take k ++ args ++ caps.drop k).map (ro H)) H K := _root_.id rfl
theorem zgD : zq4 (some (.tell g)) args H K = z1D (g args) args fun X=>K X H := _root_.id rfl
theorem zgN : zq4 (some (.keep gk)) args H K = z4O (gk args H) K := _root_.id rfl
end
theorem zFk {α : Type} {l : List α} : (l.all fun _=>true) = true := by simp
attribute [go_sem] zE6 zBd zK3 zJX u_bs p1_V zJJ zFu zFk
theorem zAL {R : Type} {d : AV} {K : Option R} : eqE d d K = K := zyQ
section
variable {R : Type} {K : AV → List AObj → Option R} {KP : Value → List AObj → Option R} {H H' : List AObj} {K2 : AV → Option R}
theorem zCx {v : Value} : zMQ (some (V v,H')) K KP = K (V v) H' := _root_.id rfl
theorem zBo {cs : List AV} : zMQ (some (.agg cs,H')) K KP = K (.agg cs) H' := _root_.id rfl
theorem zDC {es sp : List AV} : zMQ (some (.slice es sp,H')) K KP = K (.slice es sp) H' := _root_.id rfl
theorem zDn {ds : List AV} : zMQ (some (TU ds,H')) K KP = K (TU ds) H' := _root_.id rfl
theorem zEE {i n : Nat} : zMQ (some (OW i n,H')) K KP = K (OW i n) H' := _root_.id rfl
theorem zEB {u : Value} : zMQ (some (PN u,H')) K KP = KP u H' := _root_.id rfl
theorem zwQ {t : TypeId} {v : Value} : zs4 (V (.iface t v)) H KP = KP (.iface t v) H := _root_.id rfl
theorem zJ4 {t : TypeId} {v : Value} : ifE t (V v) K2 = K2 (V (.iface t v)) := _root_.id rfl
theorem zC5 {t : TypeId} {v w : Value} : ifE t (.agg [V v,V w]) K2 = K2 (V (.iface t (.agg #[v,w]))) := _root_.id rfl
theorem zEr {n : Nat} {u : Value} : zKf n H u = z0C (decide (n ≤ H.length) && (H.take n).all (ltO n)) (some (PN u,H.take n)) := _root_.id rfl
theorem zpD {X : AV} : zq3 H X = z0C (H.all (ltO H.length) && ltT H.length X) (some (X,H)) := _root_.id rfl
end
attribute [go_sem] zAL zCx zBo zDC zDn zEE zEB zwQ zJ4 zC5 zEr zpD
attribute [go_sem ↓] zCx zBo zDC zDn zEE zEB zwQ zJ4 zC5
attribute [go_sem] zwH zKs zJw zKF
attribute [go_sem] zFm zEV zGS zCv zAm zGJ zKi zGi zKI zBw zKz zvQ zFG zB3 zGP zCX zGK zEC zya zFL zJy zKm zCH zvI zGD zHx zC4 zEn
attribute [go_sem] tT_V zKy zGL zJB zKN zHm zKA tA_V zJO zHL zJt zKJ zHh t1_V zKh zGv zJv zKk zJL zHq zHp zyt zGG
end Go.Proofs.Ytaaogcnjfkgnoaa

namespace Go.Proofs.Ytaaogcnjfkgnoaa
open Go.RowKit
section
variable {P : Program} {G : Gl} {ι : Type}
def zL7 (A : ι → List AV) (X : ι → AV) (D : ι → Prop) (args : List AV) : RO :=
 open Classical in if h : ∃ i,D i ∧ args = A i then some (X h.choose,[]) else none
theorem ztH {A : ι → List AV} {X : ι → AV} {D : ι → Prop} {f : FuncId} (h : ∀ i,D i → ACp P G f (A i) (X i)) : ∀ args X' H',zL7 A X D args = some (X',H') → ACp P G f args X' := by
 intro args X' H' hx
 unfold zL7 at hx
 split at hx
 ·rename_i hh
  obtain ⟨h1,h2⟩ := hh.choose_spec
  cases hx
  have h3 := h _ h1
  rwa [← h2] at h3
 ·cases hx
theorem zsQ {A : ι → List AV} {X : ι → AV} {D : ι → Prop} (inj : ∀ i j,A i = A j → X i = X j) {i : ι} (hi : D i) : zL7 A X D (A i) = some (X i,[]) := by
 have hh : ∃ j,D j ∧ A i = A j := ⟨i,hi,rfl⟩
 unfold zL7
 rw [dif_pos hh]
 rw [inj i _ hh.choose_spec.2]
end
theorem zFO {a b : List UInt8} (h : sA a = sA b) : a = b := by
 injection h with h;injection h with h;injection h with h;injection h with h
 simpa using h
theorem zjl {a b : Int} (h : nA a = nA b) : a = b := by
 injection h with h;injection h with h;injection h with h
end Go.Proofs.Ytaaogcnjfkgnoaa

namespace Go.Proofs.Ytaaogcnjfkgnoaa
open Go.RowKit
def GG : Gl := []
theorem MIX : Try.prog.follows .mixedOrders = true := by kernel_rfl
end Go.Proofs.Ytaaogcnjfkgnoaa

namespace Go.Proofs.Ytaaogcnjfkgnoaa
open Go.RowKit
theorem zEf {S : SS} : GOk [] S := by
 intro g d hg
 simp at hg
theorem zE5 {t : TypeId} {d : AV} (h : zMk Try.prog t = false) : mkA Try.prog t [d] = d := by
 unfold mkA
 rw [if_neg (by rw [h];decide)]
 rfl
theorem zwX {t : TypeId} {ds : List AV} (h : zMk Try.prog t = true) : mkA Try.prog t ds = .agg ds := by
 unfold mkA
 rw [if_pos h]
theorem zD3 {W : World} {v : Value} (h : Arg Try.prog W 3 v) : ∃ i : Int,(-9223372036854775808 ≤ i ∧ i < 9223372036854775808) ∧ rep (SW W) [] (nA i) v := by
 obtain ⟨n,ds,h1,h2⟩ := h
 obtain ⟨t,rfl,ht⟩ := z6q Try.underlying3 h1
 rw [zE5 (by kernel_rfl)] at h2
 exact ⟨t,ht,h2⟩
theorem zKg {S : SS} {d0 d1 d2 : AV} {v0 v1 v2 : Value} (h0 : rep S [] d0 v0) (h1 : rep S [] d1 v1) (h2 : rep S [] d2 v2) : ∀ (j : Nat) (d : AV) (v : Value),[d0,d1,d2][j]? = some d → [v0,v1,v2][j]? = some v → rep S [] d v := by
 intro j d v hd hv
 match j with
 |0=>simp at hd hv;subst hd hv;exact h0
 |1=>simp at hd hv;subst hd hv;exact h1
 |2=>simp at hd hv;subst hd hv;exact h2
 |j + 3=>simp at hd
end Go.Proofs.Ytaaogcnjfkgnoaa

namespace Go.Proofs.Ytaaogcnjfkgnoaa
open Go.RowKit
def put (v : Nat) : List UInt8 := if v < 128 then [UInt8.ofNat v] else UInt8.ofNat (v % 128 + 128) :: put (v / 128)
termination_by v
decreasing_by omega
theorem zsr (v : Nat) (h : v < 128) : put v = [UInt8.ofNat v] := by rw [put,if_pos h]
theorem zzj (v : Nat) (h : 128 ≤ v) : put v = UInt8.ofNat (v % 128 + 128) :: put (v / 128) := by rw [put,if_neg (by omega)]
theorem ztz (v : Nat) : 0 < (put v).length := by rw [put];split <;> simp
theorem ztI (k : Nat) : ∀ v,v < 128 ^ (k + 1) → (put v).length ≤ k + 1 := by
 induction k with
 |zero=>intro v h;rw [zsr v (by simpa using h)];simp
 |succ k ih =>
  intro v h
  by_cases hv : v < 128
  ·rw [zsr v hv];simp
  ·rw [zzj v (by omega)]
   have := ih (v / 128) (by rw [Nat.pow_succ] at h;omega)
   simp only [List.length_cons];omega
theorem zci (v : Nat) (h : v < 18446744073709551616) : (put v).length ≤ 10 := by
 refine ztI 9 v ?_
 have e : (128 : Nat) ^ (9 + 1) = 1180591620717411303424 := by decide
 omega
end Go.Proofs.Ytaaogcnjfkgnoaa

namespace Go.Proofs.Ytaaogcnjfkgnoaa
open Go.RowKit
theorem zrp : (Try.prog.info? 5).map (fun i=>(i.zero,i.size,i.bytes)) = some (some (.int .u8 0),1,1) := by kernel_rfl
theorem zKt (n : Nat) (h : n < 256) : n ||| 128 = n % 128 + 128 := by
 rcases (show n / 128 = 0 ∨ n / 128 = 1 from by omega) with h0|h0
 ·rw [Nat.or_comm]
  have := nat_join 7 128 n (by decide) (by omega)
  omega
 ·have hh := nat_join 7 128 (n % 128) (by decide) (by omega)
  have hn : n = 128 ||| (n % 128) := by omega
  rw [Nat.or_comm]
  conv=>lhs;rw [hn]
  rw [← Nat.or_assoc,Nat.or_self,hh]
  omega
theorem zy2 (k : Int) (h0 : 0 ≤ k) (h1 : k < 128) : [Value.int .u8 k] = (put k.toNat).map cB := by
 obtain ⟨n,rfl⟩ := Int.eq_ofNat_of_zero_le h0
 rw [Int.toNat_natCast,zsr n (by omega)]
 simp [cB]
 omega
theorem zEh (k : Int) (h0 : 0 ≤ k) : Value.int .u8 (bits .or .u8 (k % 256) 128) = cB (UInt8.ofNat (k.toNat % 128 + 128)) := by
 obtain ⟨n,rfl⟩ := Int.eq_ofNat_of_zero_le h0
 have e := u8_or_nat (n % 256) 128 (by omega) (by omega)
 rw [zKt _ (by omega)] at e
 have e2 : ((n % 256 : Nat) : Int) = (n : Int) % 256 := by omega
 rw [e2] at e
 rw [show ((128 : Nat) : Int) = 128 from rfl] at e
 rw [e]
 simp [cB]
 omega
set_option maxHeartbeats 400000 in
theorem zBC (v : Int) (hv0 : 0 ≤ v) (hv : v < 18446744073709551616) (w : World) :
  Calls Try.prog 95 #[.int .u64 v] w fun e w'=>∃ g cap,e = .returned (.slice (some ⟨g,0,none⟩) (put v.toNat).length cap) ∧ w'.ownsRow w.heap.size 5 1 (.slice (some ⟨g,0,none⟩) (put v.toNat).length cap) (put v.toNat).length ((put v.toNat).map cB) ∧ Below w.heap.size w w' := by
 go_enter Try.func95,Try.ntmps95
 go_wp2
 go_loopw [0,3] (fun n o wr=>∃ (k : Int) (xs : List UInt8),0 ≤ k ∧ k < 18446744073709551616 ∧ n = .int .u64 k ∧ wr.ownsRow w.heap.size 5 1 o xs.length (xs.map cB) ∧ Below w.heap.size w wr ∧ xs ++ put k.toNat = put v.toNat) (fun n _ _=>(intOf n).toNat)
 case atStart=>exact ⟨v,[],hv0,hv,rfl,World.ownsRow_nil _ _ _ _,Below.refl _ _,rfl⟩
 case round =>
  obtain ⟨k,xs,hk0,hk1,rfl,hown,hbel,hput⟩ := hrel
  have hlen : xs.length + 1 ≤ 10 := by
   have h1 := congrArg List.length hput
   have h2 := zci v.toNat (by omega)
   have h3 := ztz k.toNat
   simp only [List.length_append] at h1
   omega
  have HP := zMK hput;clear hput
  have hb := hbel.size
  by_cases hlt : k < 128
  ·go_wp2_with (at_builtin;refine zfT _ rfl (.tmp 14) (.tmp 17) _ rfl w w.heap.size 5 _ _ 1 Try.underlying90 zrp rfl (by omega) _ _ _ (.int .u8 k) rfl rfl rfl hown hbel hb (by omega) ?_;intro g cap w1 hown1 hbel1)
   go_ret
   have hl : (put v.toNat).length = xs.length + 1 := by rw [← HP.out,List.length_append,zsr _ (by omega)];rfl
   have hm : (put v.toNat).map cB = xs.map cB ++ [Value.int .u8 k] := by rw [← HP.out,List.map_append,zy2 k hk0 hlt]
   rw [hl,hm]
   exact ⟨g,cap,rfl,hown1,hbel1⟩
  ·have hge : 128 ≤ k := by omega
   go_wp2_with (at_builtin;refine zfT _ rfl (.tmp 8) (.tmp 12) _ rfl w w.heap.size 5 _ _ 1 Try.underlying90 zrp rfl (by omega) _ _ _ (.int .u8 (bits .or .u8 (k % 256) 128)) rfl rfl rfl hown hbel hb (by omega) ?_;intro g cap w1 hown1 hbel1)
   go_roundw
   case rel =>
    refine ⟨k / 128,xs ++ [UInt8.ofNat (k.toNat % 128 + 128)],by omega,by omega,?_,?_,hbel1,?_⟩
    ·rfl
    ·rw [zEh k hk0] at hown1;simpa using hown1
    ·rw [List.append_assoc,← HP.out,zzj k.toNat (by omega),show (k / 128).toNat = k.toNat / 128 from by omega];rfl
   case measure=>simp [intOf];omega
end Go.Proofs.Ytaaogcnjfkgnoaa

namespace Go.Proofs.Ytaaogcnjfkgnoaa
open Go.RowKit
end Go.Proofs.Ytaaogcnjfkgnoaa

namespace Go.Proofs.Ytaaogcnjfkgnoaa
open Go.RowKit
theorem zEd (w : World) (A : Option Addr) (c : Nat) (l : List UInt8) (hb : Bs w A l) : (_root_.Go.convert 90 9 (.slice A l.length c)).run Try.prog w = .ok (.string ⟨l.toArray⟩) w :=
 zpL _ _ 5 Try.underlying90 Try.underlying5 Try.underlying9 w A c l hb
end Go.Proofs.Ytaaogcnjfkgnoaa

namespace Go.Proofs.Ytaaogcnjfkgnoaa
open Go.RowKit
def zGo (w : World) (l : List UInt8) (e : Ending) (w' : World) : Prop := e = .returned (.string ⟨l.toArray⟩) ∧ Below w.heap.size w w'
set_option maxHeartbeats 400000 in
theorem zzF (v : Int) (hv0 : 0 ≤ v) (hv : v < 18446744073709551616) (w : World) :
  Calls Try.prog 92 #[.int .u64 v] w (zGo w (put v.toNat)) := by
 go_enter Try.func92,Try.ntmps92
 go_wp2
 go_loopw [0,3] (fun n o wr=>∃ (k : Int) (xs : List UInt8),0 ≤ k ∧ k < 18446744073709551616 ∧ n = .int .u64 k ∧ wr.ownsRow w.heap.size 5 1 o xs.length (xs.map cB) ∧ Below w.heap.size w wr ∧ xs ++ put k.toNat = put v.toNat) (fun n _ _=>(intOf n).toNat)
 case atStart=>exact ⟨v,[],hv0,hv,rfl,World.ownsRow_nil _ _ _ _,Below.refl _ _,rfl⟩
 case round =>
  obtain ⟨k,xs,hk0,hk1,rfl,hown,hbel,hput⟩ := hrel
  have hlen : xs.length + 1 ≤ 10 := by
   have h1 := congrArg List.length hput
   have h2 := zci v.toNat (by omega)
   have h3 := ztz k.toNat
   simp only [List.length_append] at h1
   omega
  have HP := zMK hput;clear hput
  have hb := hbel.size
  by_cases hlt : k < 128
  ·have hm : xs.map cB ++ [Value.int .u8 k] = (put v.toNat).map cB := by rw [← HP.out,List.map_append,zy2 k hk0 hlt]
   have hl : xs.length + 1 = (put v.toNat).length := by rw [← HP.out,List.length_append,zsr _ (by omega)];rfl
   have HM := zMK hm;have HL := zMK hl;clear hm hl
   have hcv := zEd
   go_wp2_with (at_builtin;refine zfT _ rfl (.tmp 15) (.tmp 18) _ rfl w w.heap.size 5 _ _ 1 Try.underlying90 zrp rfl (by omega) _ _ _ (.int .u8 k) rfl rfl rfl hown hbel hb (by omega) ?_;rw [HM.out,HL.out];intro g cap w1 hown1 hbel1;have hbs := Bs.of_own hown1)
   go_ret
   exact ⟨rfl,hbel1⟩
  ·have hge : 128 ≤ k := by omega
   go_wp2_with (at_builtin;refine zfT _ rfl (.tmp 6) (.tmp 11) _ rfl w w.heap.size 5 _ _ 1 Try.underlying90 zrp rfl (by omega) _ _ _ _ rfl rfl rfl hown hbel hb (by omega) ?_;intro g cap w1 hown1 hbel1)
   go_roundw
   case rel =>
    refine ⟨k / 128,xs ++ [UInt8.ofNat (k.toNat % 128 + 128)],by omega,by omega,?_,?_,hbel1,?_⟩
    ·rfl
    ·rw [show Value.int .u8 (k % 128 + 128) = cB (UInt8.ofNat (k.toNat % 128 + 128)) from by rw [zK7 _ (by omega)];congr 1;omega] at hown1
     simpa using hown1
    ·rw [List.append_assoc,← HP.out,zzj k.toNat (by omega),show (k / 128).toNat = k.toNat / 128 from by omega];rfl
   case measure=>simp [intOf];omega
end Go.Proofs.Ytaaogcnjfkgnoaa

namespace Go.Proofs.Ytaaogcnjfkgnoaa
open Go.RowKit
section
variable {P : Program}
theorem zys {w : World} {g : Nat} {cur : Array Value} {t : TypeId} {fr : Nat × Nat} {m : Nat} {us : List Value} (hg : w.heap[g]? = some (.cells cur t fr)) (htk : cur.toList.take m = us) {j : Nat} {u : Value} (h : us[j]? = some u) : w.cell? ⟨g,j,none⟩ = some u := by
 rw [cell_of_row w g j cur t fr hg,← Array.getElem?_toList]
 rw [← htk,List.getElem?_take] at h
 split at h
 ·exact h
 ·cases h
end
end Go.Proofs.Ytaaogcnjfkgnoaa

namespace Go.Proofs.Ytaaogcnjfkgnoaa
open Go.RowKit
theorem zye {w : World} {base base' : Nat} {e : TypeId} {z : Nat} {v : Value} {n : Nat} {xs : List Value} (h : w.ownsRow base e z v n xs) (hb : base' ≤ base) : w.ownsRow base' e z v n xs := by
 refine ⟨h.1,?_⟩
 rcases h.2 with q|⟨g,cap,cur,q1,q2,r⟩
 ·exact .inl q
 ·exact .inr ⟨g,cap,cur,q1,Nat.le_trans hb q2,r⟩
theorem zvv {w : World} {S : SS} {μ : List Value} {H : List AObj} (hr : Rel w S μ H) {w' : World} (hb : Below w.heap.size w w') {e : TypeId} {z : Nat} {es : List AV} (hall : allC z es) {us : List Value} (hus : reps S [] (zN0 es) us) {A : Option Addr} {cap : Nat}
  (hown : w'.ownsRow w.heap.size e z (.slice A es.length cap) es.length us) : zAC w S μ H (Is (OW H.length es.length) (H ++ [⟨2,e,z,es⟩])) (.returned (.slice A es.length cap)) w' := by
 obtain ⟨A',c',e1,hc1,hc2⟩ := zAq hown
 injection e1 with e1 e2 e3
 subst e1 e3
 have hown0 := zye hown (Nat.zero_le _)
 let S' : SS := fun b j d=>S b j d ∨ (w.heap.size ≤ b ∧ (∃ q,A = some ⟨b,q,none⟩) ∧ cap ≠ 0 ∧ (zN0 es)[j]? = some d)
 have hcell : ∀ b j d,w.heap.size ≤ b → (∃ q,A = some ⟨b,q,none⟩) → (zN0 es)[j]? = some d → ∃ u,w'.cell? ⟨b,j,none⟩ = some u ∧ u.oneCell' = true ∧ rep1 S [] d u := by
  rintro b j d hbb ⟨q,rfl⟩ hd
  rcases hown.2 with ⟨q1,_⟩|⟨g,cp,cur,q1,_,hg,h1,h2,h3,h4⟩
  ·cases q1
  ·injection q1 with q1 q2 q3
   injection q1 with q1
   injection q1 with q1 _ _
   subst q1 q3
   have hj : j < us.length := by rw [hus.1];exact (List.getElem?_eq_some_iff.1 hd).1
   obtain ⟨k1,k2⟩ := hus.2 j d _ hd (List.getElem?_eq_getElem hj)
   exact ⟨_,zys hg h4 (List.getElem?_eq_getElem hj),k1,k2⟩
 obtain ⟨q1,q2⟩ := hr.grow (S' := S') hb (fun _ _ _ q=>.inl q) (fun b j d q=>q.imp id fun k=>k.1) (fun b j d q hb'=>by
  rcases q with q|⟨k1,k2,_,k3⟩
  ·have := hr.still_lt q;omega
  ·obtain ⟨u,h1,h2,h3⟩ := hcell b j d k1 k2 k3
   exact ⟨u,h1,h2,h3.ext ⟨fun _ _ _ q=>.inl q,fun i x hx=>by simp at hx⟩⟩)
 have hbl : ∀ b,z60 (.slice A es.length cap) = some b → w.heap.size ≤ b ∧ cap ≠ 0 := by
  intro b hbk
  cases A with
  |none=>simp [z60] at hbk
  |some a =>
   simp only [z60] at hbk
   split at hbk
   ·cases hbk
   ·rename_i hc
    injection hbk with hbk
    subst hbk
    rcases hown.2 with ⟨q1,_⟩|⟨g,cp,cur,q1,hbg,_⟩
    ·cases q1
    ·injection q1 with q1;injection q1 with q1;subst q1
     exact ⟨hbg,hc⟩
 have q3 : Rel w' S' (μ ++ [.slice A es.length cap]) (H ++ [⟨2,e,z,es⟩]) := by
  refine q1.add (.inr (.inr (.inl rfl))) ⟨fun h=>by simp at h,fun _=>⟨us,A,cap,rfl,hc1,hc2,fun _=>hown0,fun hne=>?_⟩,fun h=>(by simp at h),fun h=>by simp at h⟩ fun b hbk=>?_
  ·have hpos : 0 < es.length := List.length_pos_iff.2 hne
   rcases hown.2 with ⟨q1,_⟩|⟨g,cp,cur,q1,hbg,_⟩
   ·injection q1 with _ q1;omega
   ·injection q1 with q1
    refine ⟨g,q1,zlu hall fun j y hy=>.inr ⟨hbg,⟨0,q1⟩,by have : es.length ≤ cap := hc1;omega,by simpa using hy⟩⟩
  ·obtain ⟨k1,k2⟩ := hbl b hbk
   refine ⟨?_,fun j d hs=>⟨rfl,?_⟩⟩
   ·rintro ⟨k,y,o,hy,ho,hk,hb'⟩
    have := hr.own_lt hy ho hk hb';omega
   ·rcases hs with hs|⟨_,_,_,hd⟩
    ·have := hr.still_lt hs;omega
    ·have := (List.getElem?_eq_some_iff.1 hd).1
     rw [z3Y hall] at this
     exact this
 refine ⟨_,_,_,S',_,rfl,⟨rfl,rfl⟩,q3,⟨A,es.length,cap,A,cap,by rw [← hr.len];simp,Nat.le_refl _,rfl,fun _=>⟨rfl,rfl⟩⟩,q2.add hr.len fun b hbk=>?_⟩
 exact (hbl b hbk).1
end Go.Proofs.Ytaaogcnjfkgnoaa

namespace Go.Proofs.Ytaaogcnjfkgnoaa
open Go.RowKit
theorem zn4 {α : Type} {f : α → List Value} {s : Nat} (hf : ∀ x,(f x).length = s) : ∀ l : List α,(l.flatMap f).length = l.length * s
 |[]=>by simp
 |x :: l=>by rw [List.flatMap_cons,List.length_append,hf,zn4 hf l,List.length_cons,Nat.succ_mul];omega
theorem ztD {α : Type} {f : α → List Value} {s : Nat} (hf : ∀ x,(f x).length = s) : ∀ (l : List α) (i : Nat) (h : i < l.length) (j : Nat),j < s → (l.flatMap f)[i * s + j]? = (f l[i])[j]?
 |[],i,h,_,_=>by simp at h
 |x :: l,0,_,j,hj=>by rw [List.flatMap_cons,Nat.zero_mul,Nat.zero_add,List.getElem?_append_left (by rw [hf];exact hj)];rfl
 |x :: l,i + 1,h,j,hj=>by
  have hx := hf x
  rw [List.flatMap_cons,List.getElem?_append_right (by rw [hx,Nat.succ_mul];omega),hx]
  rw [show (i + 1) * s + j - s = i * s + j from by rw [Nat.succ_mul];omega]
  rw [ztD hf l i (by simpa using h) j hj]
  rfl
theorem zuO {α : Type} {f : α → List Value} {s : Nat} (hf : ∀ x,(f x).length = s) (l : List α) (k : Nat) : (l.take k).flatMap f = (l.flatMap f).take (k * s) := by
 induction l generalizing k with
 |nil=>simp
 |cons x l ih =>
  cases k with
  |zero=>simp
  |succ k=>rw [List.take_succ_cons,List.flatMap_cons,List.flatMap_cons,ih,List.take_append,hf,Nat.succ_mul,List.take_of_length_le (l := f x) (by rw [hf];omega),Nat.add_sub_cancel]
def Fs {α : Type} (f : α → List Value) (s : Nat) (w : World) (A : Option Addr) (l : List α) : Prop := Rd w A s l.length (l.flatMap f)
section
variable {α : Type} {f : α → List Value} {s : Nat} {w w' : World} {A : Option Addr} {l : List α}
theorem Fs.below (h : Fs f s w A l) (hb : Below w.heap.size w w') : Fs f s w' A l := Rd.below h hb
theorem Fs.alloc (h : Fs f s w A l) (o : Obj) : Fs f s (w.alloc o) A l := Rd.alloc h o
theorem Fs.cell (h : Fs f s w A l) (hf : ∀ x,(f x).length = s) (hn : 0 < l.length) : ∃ b off,A = some ⟨b,off,none⟩ ∧ b < w.heap.size ∧ ∀ i (hi : i < l.length) j u,j < s → (f l[i])[j]? = some u → w.cell? ⟨b,off + i * s + j,none⟩ = some u := by
 obtain ⟨b,off,e,hb,hc⟩ := h.2 hn
 refine ⟨b,off,e,hb,fun i hi j u hj hu=>?_⟩
 rw [Nat.add_assoc]
 exact hc (i * s + j) u (by rw [ztD hf l i hi j hj];exact hu)
theorem Fs.take (h : Fs f s w A l) (hf : ∀ x,(f x).length = s) (k : Nat) : Fs f s w A (l.take k) := by
 unfold Fs
 rw [zuO hf]
 by_cases hk : k ≤ l.length
 ·rw [List.length_take,Nat.min_eq_left hk];exact Rd.less h hk
 ·rw [List.length_take,Nat.min_eq_right (by omega),List.take_of_length_le (by rw [zn4 hf];exact Nat.mul_le_mul_right _ (by omega))];exact h
theorem Fs.of_own {base : Nat} {e : TypeId} {n c : Nat} (hn : n = l.length) (h : w.ownsRow base e s (.slice A n c) n (l.flatMap f)) : Fs f s w A l := by subst hn;exact Rd.of_own h
end
end Go.Proofs.Ytaaogcnjfkgnoaa

namespace Go.Proofs.Ytaaogcnjfkgnoaa
open Go.RowKit
section
variable {P : Program} {G : Gl}
theorem acp_of {f : FuncId} {args : List AV} {X : AV} (hc : zey    P f = true)
    (h : ∀ w S (vs : List Value), Rel w S [] [] → GOk G S → vs.length = args.length → (∀ (j : Nat) (d : AV) (v : Value), args[j]? = some d → vs[j]? = some v → rep S [] d v) →
      Calls P f vs.toArray w fun e w' => ∃ v, e = .returned v ∧ Below w.heap.size w w' ∧ ∃ N : SS, (∀ b j d, N b j d → w.heap.size ≤ b ∧ ∃ u, w'.cell? ⟨b, j, none⟩ = some u ∧ d = V u ∧ u.oneCell' = true) ∧ rep (fun b j d => S b j d ∨ N b j d) [] X v) : ACp P G f args X := by
  refine ⟨hc, fun w S μ vs hr hg hl hv => ?_⟩
  have hμ : μ = [] := List.eq_nil_of_length_eq_zero hr.len
  subst hμ
  refine (h w S vs hr hg hl hv).mono ?_
  rintro e w' ⟨v, rfl, hb, N, hN, hrep⟩
  obtain ⟨h1, h2⟩ := hr.grow (S' := fun b j d => S b j d ∨ N b j d) hb (fun _ _ _ q => .inl q) (fun b j d q => q.imp id fun k => (hN b j d k).1) (fun b j d q hb' => by
    rcases q with q | q
    · have := hr.still_lt q; omega
    · obtain ⟨_, u, h3, rfl, h4⟩ := hN b j d q
      exact ⟨u, h3, h4, rfl, h4⟩)
  exact ⟨v, X, [], _, [], rfl, ⟨rfl, rfl⟩, h1, hrep, h2⟩
theorem acp_of_tells {f : FuncId} {args : List AV} {X : AV} (hc : zey    P f = true)
    (h : ∀ w S (vs : List Value), Rel w S [] [] → GOk G S → vs.length = args.length → (∀ (j : Nat) (d : AV) (v : Value), args[j]? = some d → vs[j]? = some v → rep S [] d v) →
      Calls P f vs.toArray w fun e w' => ∃ v, e = .returned v ∧ Below w.heap.size w w' ∧ rep S [] X v) : ACp P G f args X :=
  acp_of hc fun w S vs hr hg hl hv => (h w S vs hr hg hl hv).mono fun e w' ⟨v, he, hb, k⟩ => ⟨v, he, hb, fun _ _ _ => False, fun _ _ _ q => q.elim, k.ext ⟨fun _ _ _ q => .inl q, fun i x hx => ⟨x, hx, .inl rfl⟩⟩⟩
end
section
variable {α : Type} {f : α → List Value} {s : Nat} {w w' : World} {S : SS} {A : Option Addr} {l : List α}
end
end Go.Proofs.Ytaaogcnjfkgnoaa

namespace Go.Proofs.Ytaaogcnjfkgnoaa
open Go.RowKit
def bC (l : List UInt8) : List AV := l.map fun b=>V (cB b)
theorem z3r (l : List UInt8) : (bC l).length = l.length := by simp [bC]
theorem z4q (a b : List UInt8) : bC (a ++ b) = bC a ++ bC b := by simp [bC]
theorem zER (s : List UInt8) : zNu ⟨s.toArray⟩ = bC s := by simp [zNu,bC,cB]
theorem zt7 (l : List UInt8) : zgA (bC l) = some l := zn3 l
abbrev zH9 := List UInt8
theorem zDD (l : zH9) : zN0 (l.map fun b=>V (cB b)) = l.map fun b=>V (cB b) := by
 unfold zN0
 induction l with
 |nil=>rfl
 |cons b l ih=>rw [List.map_cons,List.flatMap_cons,ih];rfl
theorem zEo (l : zH9) : allC 1 (l.map fun b=>V (cB b)) := fun d hd=>by
 obtain ⟨b,_,rfl⟩ := List.mem_map.1 hd
 rfl
theorem zDe (S : SS) (μ : List Value) (l : zH9) : reps S μ (zN0 (l.map fun b=>V (cB b))) (l.map cB) := by
 rw [zDD]
 refine ⟨by simp,fun j d u hd hu=>?_⟩
 rw [List.getElem?_map] at hd hu
 obtain ⟨b,hb,rfl⟩ := Option.map_eq_some_iff.1 hd
 rw [hb] at hu
 simp at hu;subst hu
 exact ⟨rfl,rfl,rfl⟩
theorem zFM (v : Nat) (hv : v < 18446744073709551616) (H : List AObj) : AC Try.prog GG 95 [V (.int .u64 v)] H (Is (OW H.length (put v).length) (H ++ [⟨2,5,1,bC (put v)⟩])) := by
 refine ⟨by kernel_rfl,fun w S μ vs hr hg hl hv'=>?_⟩
 obtain ⟨v0,rfl⟩ : ∃ v,vs = [v] := by
  match vs,hl with
  |[v],_=>exact ⟨v,rfl⟩
 obtain ⟨rfl,_⟩ := hv' 0 _ _ rfl rfl
 refine (zBC (v : Int) (by omega) (by omega) w).mono ?_
 rintro e w' ⟨g,cap,rfl,hown,hb⟩
 rw [Int.toNat_natCast] at hown ⊢
 have hl : (bC (put v)).length = (put v).length := z3r _
 rw [← hl] at hown ⊢
 exact zvv hr hb (zEo _) (zDe S [] (put v)) hown
def z4W (m : Nat) : List AV → Nat → RO
 |[.held (.inl (.int .u64 v))],n=>z0C (decide (0 ≤ v) && decide (v < 18446744073709551616)) (some (OW n (put v.toNat).length,[⟨2,5,1,bC (put v.toNat)⟩]))
 |_,_=>none
theorem zoZ (m : Nat) : ∀ args H X Y,z4W m args H.length = some (X,Y) → AC Try.prog GG 95 args H (Is X (H ++ Y)) := by
 intro args H X Y h
 unfold z4W at h
 split at h
 ·rename_i v
  obtain ⟨h1,h2⟩ := z05 h
  rw [Bool.and_eq_true,decide_eq_true_eq,decide_eq_true_eq] at h1
  obtain ⟨n,rfl⟩ : ∃ n : Nat,v = n := ⟨v.toNat,by omega⟩
  cases h2
  exact zFM n (by omega) H
 ·cases h
theorem zqj (m n v : Nat) (hv : v < 18446744073709551616) : z4W m [V (.int .u64 v)] n = some (OW n (put v).length,[⟨2,5,1,bC (put v)⟩]) := by
 have h1 : decide (0 ≤ (v : Int)) = true := decide_eq_true (by omega)
 have h2 : decide ((v : Int) < 18446744073709551616) = true := decide_eq_true (by omega)
 have e : z4W m [V (.int .u64 v)] n = z0C (decide (0 ≤ (v : Int)) && decide ((v : Int) < 18446744073709551616)) (some (OW n (put (v : Int).toNat).length,[⟨2,5,1,bC (put (v : Int).toNat)⟩])) := by
  unfold z4W
  rfl
 rw [e,h1,h2,Int.toNat_natCast]
 exact zcp
theorem zz7 (v : Nat) (hv : v < 18446744073709551616) : ACp Try.prog GG 92 [V (.int .u64 v)] (sA (put v)) := by
 refine acp_of_tells (by kernel_rfl) fun w S vs hr hg hv' hrep=>?_
 obtain ⟨v0,rfl⟩ : ∃ v,vs = [v] := by
  match vs,hv' with
  |[v],_=>exact ⟨v,rfl⟩
 obtain ⟨rfl,_⟩ := hrep 0 _ _ rfl rfl
 refine (zzF (v : Int) (by omega) (by omega) w).mono ?_
 rintro e w' ⟨rfl,hb⟩
 rw [Int.toNat_natCast]
 exact ⟨_,rfl,hb,rfl,rfl⟩
def z46 (m : Nat) : List AV → RO := zL7 (ι := Nat) (fun v=>[V (.int .u64 v)]) (fun v=>sA (put v)) (fun v=>v < 18446744073709551616)
theorem zjC (m : Nat) : ∀ args X H',z46 m args = some (X,H') → ACp Try.prog GG 92 args X := ztH zz7
theorem zl4 (m : Nat) (v : Nat) (hv : v < 18446744073709551616) : z46 m [V (.int .u64 v)] = some (sA (put v),[]) := zsQ (ι := Nat) (fun a b h=>by
 have : a = b := by
  injection h with h
  injection h with h;injection h with h;injection h with h1 h2
  omega
 rw [this]) (i := v) hv
end Go.Proofs.Ytaaogcnjfkgnoaa

namespace Go.Proofs.Ytaaogcnjfkgnoaa
open Go.RowKit
def z7t : Code := (Try.f68.body).getD .skip
def z7v : Hint := (.two .n (.two .n (.two .n (.two .n (.two .n (.two .n (.two .n (.two .n .n))))))))
def zcg (m : Nat) : Env := []
abbrev zc1 : KO (AV × List AObj) := z1L Try.prog [.tmp 2]
def z3u (m : Nat) (t0 : AV) : RO := zLa Try.prog GG (zcg m) m ⟨35,[]⟩ z7t z7v ⟨[],z14 0 [t0]⟩ (zc1)
theorem zdg (m : Nat) (t0 : AV) : z3u m t0 =
 zMe none false false .shr t0 (V (.int .u64 1)) fun t4 =>
 zMe none false false .and t4 (V (.int .u64 6148914691236517205)) fun t5 =>
 zMe none false false .and t0 (V (.int .u64 6148914691236517205)) fun t7 =>
 zMe none false false .add t5 t7 fun t8 =>
 zMe none false false .shr t8 (V (.int .u64 2)) fun t10 =>
 zMe none false false .and t10 (V (.int .u64 3689348814741910323)) fun t11 =>
 zMe none false false .and t8 (V (.int .u64 3689348814741910323)) fun t13 =>
 zMe none false false .add t11 t13 fun t14 =>
 zMe none false false .shr t14 (V (.int .u64 4)) fun t16 =>
 zMe none false false .add t16 t14 fun t18 =>
 zMe none false false .and t18 (V (.int .u64 1085102592571150095)) fun t19 =>
 zMe none false false .shr t19 (V (.int .u64 8)) fun t22 =>
 zMe none false false .add t19 t22 fun t23 =>
 zMe none false false .shr t23 (V (.int .u64 16)) fun t26 =>
 zMe none false false .add t23 t26 fun t27 =>
 zMe none false false .shr t27 (V (.int .u64 32)) fun t30 =>
 zMe none false false .add t27 t30 fun t31 =>
 zsa false (some .i64) true false false (ro [] t31) fun t33 =>
 zMe none false false .and t33 (V (.int .i64 127)) fun t34 =>
 z1Z [] (ro [] t34) := by
 refine (z8O _ _ _ _ _ _ _ _ _).trans ?_
 kernel_rfl
def z4j (m : Nat) : List AV → RO|[t0]=>z3u m t0|_=>none
theorem zdi (m : Nat) : ∀ args X H',z4j m args = some (X,H') → ACp Try.prog GG 68 args X := by
 intro args X H' h
 unfold z4j at h
 split at h
 ·exact z0B MIX (by intro f e h;cases h) (f := 68) (c := z7t) Try.func68 rfl (by kernel_rfl) _ rfl Try.ntmps68 (Nat.le_of_ble_eq_true rfl) z7v h
 ·cases h
def zlH : Code := (Try.f64.body).getD .skip
def zlZ : Hint := (.two .n (.two (.two .n (.two (.two .n .n) .n)) (.two .n .n)))
def zo5 (m : Nat) : Env := []
abbrev zof : KO (AV × List AObj) := z1L Try.prog [.tmp 2]
def zam (m : Nat) (t0 : AV) : RO := zLa Try.prog GG (zo5 m) m ⟨12,[]⟩ zlH zlZ ⟨[],z14 0 [t0]⟩ (zof)
theorem zpu (m : Nat) (t0 : AV) : zam m t0 =
 zMe none false false .lss t0 (V (.int .i64 0)) fun t4 =>
 z0o t4 (
  z1Z [] (ro [] (V (.int .u64 0)))) (
  zMe none false false .gtr t0 (V (.int .i64 63)) fun t7 =>
  z0o t7 (
  z1Z [] (ro [] (V (.int .u64 0)))) (
  zsa false (some .u64) true false false (ro [] t0) fun t10 =>
  zMe none false false .shl (V (.int .u64 1)) t10 fun t11 =>
  z1Z [] (ro [] t11))) := by
 refine (z8O _ _ _ _ _ _ _ _ _).trans ?_
 kernel_rfl
def z7F (m : Nat) : List AV → RO|[t0]=>zam m t0|_=>none
theorem zaW (m : Nat) : ∀ args X H',z7F m args = some (X,H') → ACp Try.prog GG 64 args X := by
 intro args X H' h
 unfold z7F at h
 split at h
 ·exact z0B MIX (by intro f e h;cases h) (f := 64) (c := zlH) Try.func64 rfl (by kernel_rfl) _ rfl Try.ntmps64 (Nat.le_of_ble_eq_true rfl) zlZ h
 ·cases h
def zkd : Code := (Try.f75.body).getD .skip
def zkb : Hint := (.two .n (.two .n .n))
def zgJ (m : Nat) : Env := [(64, .tell (z7F m))]
abbrev zmq : KO (AV × List AObj) := z1L Try.prog [.tmp 4]
def zc4 (m : Nat) (t0 t1 : AV) : RO := zLa Try.prog GG (zgJ m) m ⟨9,[]⟩ zkd zkb ⟨[],z14 0 [t0,t1]⟩ (zmq)
theorem znP (m : Nat) (t0 t1 : AV) : zc4 m t0 t1 =
 z1D (zam m (ro [] t1)) [(ro [] t1)] fun t7 =>
 zMe none false false .or t0 t7 fun t8 =>
 z1Z [] (ro [] t8) := by
 refine (z8O _ _ _ _ _ _ _ _ _).trans ?_
 kernel_rfl
def zaU (m : Nat) : List AV → RO|[t0,t1]=>zc4 m t0 t1|_=>none
theorem ziL (m : Nat) : ∀ args X H',zaU m args = some (X,H') → ACp Try.prog GG 75 args X := by
 intro args X H' h
 unfold zaU at h
 split at h
 ·exact z0B MIX (by
  intro f e h
  simp only [zgJ,Prod.mk.injEq,List.mem_cons,List.not_mem_nil,or_false] at h
  obtain ⟨rfl,rfl⟩ := h
  ·exact zaW m) (f := 75) (c := zkd) Try.func75 rfl (by kernel_rfl) _ rfl Try.ntmps75 (Nat.le_of_ble_eq_true rfl) zkb h
 ·cases h
def zfI : Code := (Try.f40.body).getD .skip
def zeS : Hint := (.two .n (.two .n .n))
def zbY (m : Nat) : Env := [(64, .tell (z7F m))]
abbrev zk8 : KO (AV × List AObj) := z1L Try.prog [.tmp 4]
def z9W (m : Nat) (t0 t1 : AV) : RO := zLa Try.prog GG (zbY m) m ⟨9,[]⟩ zfI zeS ⟨[],z14 0 [t0,t1]⟩ (zk8)
theorem zkL (m : Nat) (t0 t1 : AV) : z9W m t0 t1 =
 z1D (zam m (ro [] t1)) [(ro [] t1)] fun t7 =>
 zMe none false false .andNot t0 t7 fun t8 =>
 z1Z [] (ro [] t8) := by
 refine (z8O _ _ _ _ _ _ _ _ _).trans ?_
 kernel_rfl
def zad (m : Nat) : List AV → RO|[t0,t1]=>z9W m t0 t1|_=>none
theorem zkC (m : Nat) : ∀ args X H',zad m args = some (X,H') → ACp Try.prog GG 40 args X := by
 intro args X H' h
 unfold zad at h
 split at h
 ·exact z0B MIX (by
  intro f e h
  simp only [zbY,Prod.mk.injEq,List.mem_cons,List.not_mem_nil,or_false] at h
  obtain ⟨rfl,rfl⟩ := h
  ·exact zaW m) (f := 40) (c := zfI) Try.func40 rfl (by kernel_rfl) _ rfl Try.ntmps40 (Nat.le_of_ble_eq_true rfl) zeS h
 ·cases h
def zi5 : Code := (Try.f41.body).getD .skip
def zj0 : Hint := (.two .n (.two .n .n))
def zf5 (m : Nat) : Env := [(68, .tell (z4j m))]
abbrev zm2 : KO (AV × List AObj) := z1L Try.prog [.tmp 2]
def zao (m : Nat) (t0 : AV) : RO := zLa Try.prog GG (zf5 m) m ⟨5,[]⟩ zi5 zj0 ⟨[],z14 0 [t0]⟩ (zm2)
theorem zmC (m : Nat) (t0 : AV) : zao m t0 =
 z1D (z3u m (ro [] t0)) [(ro [] t0)] fun t4 =>
 z1Z [] (ro [] t4) := by
 refine (z8O _ _ _ _ _ _ _ _ _).trans ?_
 kernel_rfl
def z9V (m : Nat) : List AV → RO|[t0]=>zao m t0|_=>none
theorem zgE (m : Nat) : ∀ args X H',z9V m args = some (X,H') → ACp Try.prog GG 41 args X := by
 intro args X H' h
 unfold z9V at h
 split at h
 ·exact z0B MIX (by
  intro f e h
  simp only [zf5,Prod.mk.injEq,List.mem_cons,List.not_mem_nil,or_false] at h
  obtain ⟨rfl,rfl⟩ := h
  ·exact zdi m) (f := 41) (c := zi5) Try.func41 rfl (by kernel_rfl) _ rfl Try.ntmps41 (Nat.le_of_ble_eq_true rfl) zj0 h
 ·cases h
def zly : Code := (Try.f67.body).getD .skip
def zm8 : Hint := (.two .n (.two (.one (.two .n (.two (.two .n .n) (.two .n (.two (.two .n .n) .n))))) (.two .n .n)))
def zhZ (m : Nat) : Env := [(64, .tell (z7F m))]
abbrev zo1 : KO (AV × List AObj) := z1L Try.prog [.tmp 2]
def zfw (m : Nat) (t0 : AV) : RO := zLa Try.prog GG (zhZ m) m ⟨12,[]⟩ zly zm8 ⟨[],z14 0 [t0]⟩ (zo1)
theorem zp4 (m : Nat) (t0 : AV) : zfw m t0 =
 zMe none false false .lss t0 (V (.int .i64 1)) fun t5 =>
 z0o t5 (
  z1Z [] (ro [] (V (.int .u64 0)))) (
  zMe none false false .gtr t0 (V (.int .i64 63)) fun t8 =>
  z0o t8 (
   z1Z [] (ro [] (V (.int .u64 18446744073709551615)))) (
   z1D (zam m (ro [] t0)) [(ro [] t0)] fun t10 =>
   zMe none false false .sub t10 (V (.int .u64 1)) fun t11 =>
   z1Z [] (ro [] t11))) := by
 refine (z8O _ _ _ _ _ _ _ _ _).trans ?_
 kernel_rfl
def zcT (m : Nat) : List AV → RO|[t0]=>zfw m t0|_=>none
theorem zki (m : Nat) : ∀ args X H',zcT m args = some (X,H') → ACp Try.prog GG 67 args X := by
 intro args X H' h
 unfold zcT at h
 split at h
 ·exact z0B MIX (by
  intro f e h
  simp only [zhZ,Prod.mk.injEq,List.mem_cons,List.not_mem_nil,or_false] at h
  obtain ⟨rfl,rfl⟩ := h
  ·exact zaW m) (f := 67) (c := zly) Try.func67 rfl (by kernel_rfl) _ rfl Try.ntmps67 (Nat.le_of_ble_eq_true rfl) zm8 h
 ·cases h
def zgU : Code := (Try.f32.body).getD .skip
def zgS : Hint := (.two .n (.two (.two .n (.two (.two .n .n) .n)) (.two .n .n)))
def zkT (m : Nat) : Env := []
abbrev zkQ : KO (AV × List AObj) := z1L Try.prog [.tmp 2, .tmp 3]
def z3L (m : Nat) (t0 : AV) : RO := zLa Try.prog GG (zkT m) m ⟨17,[]⟩ zgU zgS ⟨[],z14 0 [t0]⟩ (zkQ)
theorem zls (m : Nat) (t0 : AV) : z3L m t0 =
 zMe none false false .rem t0 (V (.int .i64 3)) fun t5 =>
 zMe none false false .neq t5 (V (.int .i64 1)) fun t6 =>
 z0o t6 (
  z1Z [] (ro [] (TU [noT (V (.int .i64 0)),noT (V (.int .i64 1))]))) (
  zMe none false false .lss t0 (V (.int .i64 4)) fun t9 =>
  z0o t9 (
  z1Z [] (ro [] (TU [noT (V (.int .i64 0)),noT (V (.int .i64 1))]))) (
  zMe none false false .gtr t0 (V (.int .i64 16)) fun t13 =>
  z0o t13 (
  z1Z [] (ro [] (TU [noT (V (.int .i64 0)),noT (V (.int .i64 1))]))) (
  zMe none false false .quo t0 (V (.int .i64 3)) fun t16 =>
  z1Z [] (ro [] (TU [noT t16,noT (V (.int .i64 0))]))))) := by
 refine (z8O _ _ _ _ _ _ _ _ _).trans ?_
 kernel_rfl
def z3n (m : Nat) : List AV → RO|[t0]=>z3L m t0|_=>none
theorem z53 (m : Nat) : ∀ args X H',z3n m args = some (X,H') → ACp Try.prog GG 32 args X := by
 intro args X H' h
 unfold z3n at h
 split at h
 ·exact z0B MIX (by intro f e h;cases h) (f := 32) (c := zgU) Try.func32 rfl (by kernel_rfl) _ rfl Try.ntmps32 (Nat.le_of_ble_eq_true rfl) zgS h
 ·cases h
def zgI : Code := (Try.f91.body).getD .skip
def zgG : Hint := (.two .n (.two .n (.two (.two .n (.two (.two .n .n) .n)) (.two .n .n))))
def zeg (m : Nat) : Env := [(32, .tell (z3n m))]
abbrev zkH : KO (AV × List AObj) := z1L Try.prog [.tmp 2]
def zaS (m : Nat) (t0 : AV) : RO := zLa Try.prog GG (zeg m) m ⟨15,[]⟩ zgI zgG ⟨[],z14 0 [t0]⟩ (zkH)
theorem zlY (m : Nat) (t0 : AV) : zaS m t0 =
 z1D (z3L m (ro [] t0)) [(ro [] t0)] fun t7 =>
 zLC t7 0 fun t8 =>
 zLC t7 1 fun t9 =>
 zMe none false false .neq t9 (V (.int .i64 0)) fun t11 =>
 z0o t11 (
  z1Z [] (ro [] (V (.int .i64 0)))) (
  zMe none false false .mul (V (.int .i64 2)) t8 fun t13 =>
  zMe none false false .add t13 (V (.int .i64 1)) fun t14 =>
  z1Z [] (ro [] t14)) := by
 refine (z8O _ _ _ _ _ _ _ _ _).trans ?_
 kernel_rfl
def zbe (m : Nat) : List AV → RO|[t0]=>zaS m t0|_=>none
theorem zlp (m : Nat) : ∀ args X H',zbe m args = some (X,H') → ACp Try.prog GG 91 args X := by
 intro args X H' h
 unfold zbe at h
 split at h
 ·exact z0B MIX (by
  intro f e h
  simp only [zeg,Prod.mk.injEq,List.mem_cons,List.not_mem_nil,or_false] at h
  obtain ⟨rfl,rfl⟩ := h
  ·exact z53 m) (f := 91) (c := zgI) Try.func91 rfl (by kernel_rfl) _ rfl Try.ntmps91 (Nat.le_of_ble_eq_true rfl) zgG h
 ·cases h
def zgO : Code := (Try.f90.body).getD .skip
def zgx : Hint := (.two .n (.two .n .n))
def zei (m : Nat) : Env := [(67, .tell (zcT m)),(41, .tell (z9V m))]
abbrev zkG : KO (AV × List AObj) := z1L Try.prog [.tmp 6]
def zaX (m : Nat) (t0 t1 t2 : AV) : RO := zLa Try.prog GG (zei m) m ⟨18,[]⟩ zgO zgx ⟨[],z14 0 [t0,t1,t2]⟩ (zkG)
theorem zm0 (m : Nat) (t0 t1 t2 : AV) : zaX m t0 t1 t2 =
 zMe none false false .gtr t2 (V (.int .i64 0)) fun t8 =>
 z0o t8 (
  z1D (zfw m (ro [] t1)) [(ro [] t1)] fun t12 =>
  zMe none false false .and t0 t12 fun t13 =>
  z1D (zao m (ro [] t13)) [(ro [] t13)] fun t14 =>
  zMe none false false .geq t14 t2 fun t16 =>
  z1Z [] (ro [] t16)) (
  z1Z [] (ro [] (V (.bool false)))) := by
 refine (z8O _ _ _ _ _ _ _ _ _).trans ?_
 kernel_rfl
def zb8 (m : Nat) : List AV → RO|[t0,t1,t2]=>zaX m t0 t1 t2|_=>none
theorem zlv (m : Nat) : ∀ args X H',zb8 m args = some (X,H') → ACp Try.prog GG 90 args X := by
 intro args X H' h
 unfold zb8 at h
 split at h
 ·exact z0B MIX (by
  intro f e h
  simp only [zei,Prod.mk.injEq,List.mem_cons,List.not_mem_nil,or_false] at h
  rcases h with ⟨rfl,rfl⟩|⟨rfl,rfl⟩
  ·exact zki m
  ·exact zgE m) (f := 90) (c := zgO) Try.func90 rfl (by kernel_rfl) _ rfl Try.ntmps90 (Nat.le_of_ble_eq_true rfl) zgx h
 ·cases h
def zea : Code := (Try.f63.body).getD .skip
def zen : Hint := (.two .n (.two .n .n))
def zb5 (m : Nat) : Env := [(91, .tell (zbe m)),(90, .tell (zb8 m))]
abbrev zhV : KO (AV × List AObj) := z1L Try.prog [.tmp 4]
def z5N (m : Nat) (t0 t1 : AV) : RO := zLa Try.prog GG (zb5 m) m ⟨10,[]⟩ zea zen ⟨[],z14 0 [t0,t1]⟩ (zhV)
theorem zjx (m : Nat) (t0 t1 : AV) : z5N m t0 t1 =
 z1D (zaS m (ro [] t1)) [(ro [] t1)] fun t8 =>
 z1D (zaX m (ro [] t0) (ro [] t1) (ro [] t8)) [(ro [] t0),(ro [] t1),(ro [] t8)] fun t9 =>
 z1Z [] (ro [] t9) := by
 refine (z8O _ _ _ _ _ _ _ _ _).trans ?_
 kernel_rfl
def z5V (m : Nat) : List AV → RO|[t0,t1]=>z5N m t0 t1|_=>none
theorem zcA (m : Nat) : ∀ args X H',z5V m args = some (X,H') → ACp Try.prog GG 63 args X := by
 intro args X H' h
 unfold z5V at h
 split at h
 ·exact z0B MIX (by
  intro f e h
  simp only [zb5,Prod.mk.injEq,List.mem_cons,List.not_mem_nil,or_false] at h
  rcases h with ⟨rfl,rfl⟩|⟨rfl,rfl⟩
  ·exact zlp m
  ·exact zlv m) (f := 63) (c := zea) Try.func63 rfl (by kernel_rfl) _ rfl Try.ntmps63 (Nat.le_of_ble_eq_true rfl) zen h
 ·cases h
def zlo : Code := (Try.f38.body).getD .skip
def zmf : Hint := (.two .n (.two .n .n))
def zie (m : Nat) : Env := [(64, .tell (z7F m))]
abbrev zol : KO (AV × List AObj) := z1L Try.prog [.tmp 4]
def zfA (m : Nat) (t0 t1 : AV) : RO := zLa Try.prog GG (zie m) m ⟨10,[]⟩ zlo zmf ⟨[],z14 0 [t0,t1]⟩ (zol)
theorem zq1 (m : Nat) (t0 t1 : AV) : zfA m t0 t1 =
 z1D (zam m (ro [] t1)) [(ro [] t1)] fun t7 =>
 zMe none false false .and t0 t7 fun t8 =>
 zMe none false false .neq t8 (V (.int .u64 0)) fun t9 =>
 z1Z [] (ro [] t9) := by
 refine (z8O _ _ _ _ _ _ _ _ _).trans ?_
 kernel_rfl
def zds (m : Nat) : List AV → RO|[t0,t1]=>zfA m t0 t1|_=>none
theorem zkr (m : Nat) : ∀ args X H',zds m args = some (X,H') → ACp Try.prog GG 38 args X := by
 intro args X H' h
 unfold zds at h
 split at h
 ·exact z0B MIX (by
  intro f e h
  simp only [zie,Prod.mk.injEq,List.mem_cons,List.not_mem_nil,or_false] at h
  obtain ⟨rfl,rfl⟩ := h
  ·exact zaW m) (f := 38) (c := zlo) Try.func38 rfl (by kernel_rfl) _ rfl Try.ntmps38 (Nat.le_of_ble_eq_true rfl) zmf h
 ·cases h
def zfM : Code := (Try.f65.body).getD .skip
def quorum_Of_h : Hint := (.two .n (.two .n (.join [3] (.two .n (.one (.lp [] [3,6,7,8] [3] (.two .n (.two (.two .n .n) (.two (.one (.two .n .n)) .n)))))) (.two .n .n))))
def zaY (m : Nat) : Env := [(75, .tell (zaU m))]
abbrev zeU : KO (AV × List AObj) := z1L Try.prog [.tmp 2]
def zlK (m : Nat) (s : ASt) : RO := z11 Try.prog GG (zaY m) m ⟨17,[]⟩ (cdR (cdR (cdR zfM))) quorum_Of_h.r.r.r s (zeU)
def zlA (m : Nat) (s : ASt) (kc : ASt → RO) (kx : KO (AV × List AObj)) : RO := z8G Try.prog GG (zaY m) m ⟨17,[]⟩ (cdL (cdL (cdR (cdL (cdR (cdR zfM)))))) quorum_Of_h.r.r.l.r.c.c [3,6,7,8] [3] s kc kx
def zlc (m : Nat) (t0 : AV) : RO := zLa Try.prog GG (zaY m) m ⟨17,[]⟩ zfM quorum_Of_h ⟨[],z14 0 [t0]⟩ (zeU)
theorem zmD (m : Nat) (H : List AObj) (t3 : AV) : zlK m ⟨H,[(3,t3)]⟩ =
 z1Z H (ro H t3) := by
 refine (z03 _ _ _ _ _ _ _ _ _).trans ?_
 kernel_rfl
theorem zmz (m : Nat) (H : List AObj) (t3 t6 t7 t8 : AV) (kc : ASt → RO) (kx : KO (AV × List AObj)) : zlA m ⟨H,[(3,t3),(6,t6),(7,t7),(8,t8)]⟩ kc kx =
 zMe none false false .lss t8 t7 fun t9 =>
 z0o t9 (
  z3H 1 H t6 t8 fun t10 =>
  z04 1 H t10 fun t11 =>
  z1D (zc4 m (ro H t3) (ro H t11)) [(ro H t3),(ro H t11)] fun t14 =>
  zMe none false false .add t8 (V (.int .i64 1)) fun t15 =>
  z7z H.length H [(3,t14),(6,t6),(7,t7),(8,t15)] kc) (
  kx (.exit 0) ⟨H,[(3,t3)]⟩) := by
 refine (z0F _ _ _ _ _ _ _ _ _ _ _ _).trans ?_
 kernel_rfl
theorem zq8 (m : Nat) (t0 : AV) : zlc m t0 =
 zLZ false true [] t0 fun t7 =>
 z7c m (zlA m) ⟨[],[(3,(V (.int .u64 0))),(6,t0),(7,t7),(8,(V (.int .i64 0)))]⟩ (z0P 0 (zM3 (fun s=>zlK m ⟨s.H,[(3,gt s.T 3)]⟩) (zeU))) := by
 refine (z8O _ _ _ _ _ _ _ _ _).trans ?_
 kernel_rfl
def zjD (m : Nat) : List AV → RO|[t0]=>zlc m t0|_=>none
theorem zqk (m : Nat) : ∀ args X H',zjD m args = some (X,H') → ACp Try.prog GG 65 args X := by
 intro args X H' h
 unfold zjD at h
 split at h
 ·exact z0B MIX (by
  intro f e h
  simp only [zaY,Prod.mk.injEq,List.mem_cons,List.not_mem_nil,or_false] at h
  obtain ⟨rfl,rfl⟩ := h
  ·exact ziL m) (f := 65) (c := zfM) Try.func65 rfl (by kernel_rfl) _ rfl Try.ntmps65 (Nat.le_of_ble_eq_true rfl) quorum_Of_h h
 ·cases h
def zfb : Code := (Try.f37.body).getD .skip
def zfo : Hint := (.two .n (.two (.two .n (.two (.two .n .n) .n)) (.two .n (.two (.two .n (.two .n .n)) (.two .n .n)))))
def zk0 (m : Nat) : Env := []
abbrev zjq : KO (AV × List AObj) := z1L Try.prog [.tmp 4]
def z7o (m : Nat) (t0 t1 : AV) : RO := zLa Try.prog GG (zk0 m) m ⟨17,[]⟩ zfb zfo ⟨[],z14 0 [t0,t1]⟩ (zjq)
theorem zkY (m : Nat) (t0 t1 : AV) : z7o m t0 t1 =
 zMe none false false .lss t1 (V (.int .i64 1)) fun t7 =>
 z0o t7 (
  z1Z [] (ro [] (V (.int .i64 0)))) (
  zMe none false false .rem t0 t1 fun t10 =>
  zMe none false false .lss t10 (V (.int .i64 0)) fun t12 =>
  z0o t12 (
   zMe none false false .add t10 t1 fun t15 =>
   z1Z [] (ro [] t15)) (
   z1Z [] (ro [] t10))) := by
 refine (z8O _ _ _ _ _ _ _ _ _).trans ?_
 kernel_rfl
def z6S (m : Nat) : List AV → RO|[t0,t1]=>z7o m t0 t1|_=>none
theorem zer (m : Nat) : ∀ args X H',z6S m args = some (X,H') → ACp Try.prog GG 37 args X := by
 intro args X H' h
 unfold z6S at h
 split at h
 ·exact z0B MIX (by intro f e h;cases h) (f := 37) (c := zfb) Try.func37 rfl (by kernel_rfl) _ rfl Try.ntmps37 (Nat.le_of_ble_eq_true rfl) zfo h
 ·cases h
def z3P : Code := (Try.f42.body).getD .skip
def plenumref05_Faults_h : Hint := (.two .n (.join [] (.two .n (.one (.lp [] [0,3] [2] (.two (.two .n (.two .n .n)) (.two (.one (.two .n (.two (.two .n .n) .n))) .n))))) (.two .n .n)))
def z51 (m : Nat) : Env := []
abbrev z4P : KO (AV × List AObj) := z1L Try.prog [.tmp 2]
def z9c (m : Nat) (s : ASt) : RO := z11 Try.prog GG (z51 m) m ⟨14,[]⟩ (cdR (cdR z3P)) plenumref05_Faults_h.r.r s (z4P)
def z9g (m : Nat) (s : ASt) (kc : ASt → RO) (kx : KO (AV × List AObj)) : RO := z8G Try.prog GG (z51 m) m ⟨14,[]⟩ (cdL (cdL (cdR (cdL (cdR z3P))))) plenumref05_Faults_h.r.l.r.c.c [0,3] [2] s kc kx
def z1P (m : Nat) (t0 : AV) : RO := zLa Try.prog GG (z51 m) m ⟨14,[]⟩ z3P plenumref05_Faults_h ⟨[],z14 0 [t0]⟩ (z4P)
theorem zdC (m : Nat) (H : List AObj) : z9c m ⟨H,[]⟩ =
 z1Z H (ro H (V (.int .i64 0))) := by
 refine (z03 _ _ _ _ _ _ _ _ _).trans ?_
 kernel_rfl
theorem zdj (m : Nat) (H : List AObj) (t0 t3 : AV) (kc : ASt → RO) (kx : KO (AV × List AObj)) : z9g m ⟨H,[(0,t0),(3,t3)]⟩ kc kx =
 zMe none false false .leq t3 (V (.int .i64 5)) fun t5 =>
 z0o t5 (
  zMe none false false .mul (V (.int .i64 3)) t3 fun t10 =>
  zMe none false false .add t10 (V (.int .i64 1)) fun t11 =>
  zMe none false false .eql t0 t11 fun t12 =>
  z0o t12 (
   kx .ret ⟨H,[(2,t3)]⟩) (
   zMe none false false .add t3 (V (.int .i64 1)) fun t7 =>
   z7z H.length H [(0,t0),(3,t7)] kc)) (
  kx (.exit 0) ⟨H,[(2, .nil)]⟩) := by
 refine (z0F _ _ _ _ _ _ _ _ _ _ _ _).trans ?_
 kernel_rfl
theorem zgi (m : Nat) (t0 : AV) : z1P m t0 =
 z7c m (z9g m) ⟨[],[(0,t0),(3,(V (.int .i64 1)))]⟩ (z0P 0 (zM3 (fun s=>z9c m ⟨s.H,[]⟩) (z4P))) := by
 refine (z8O _ _ _ _ _ _ _ _ _).trans ?_
 kernel_rfl
def z1R (m : Nat) : List AV → RO|[t0]=>z1P m t0|_=>none
theorem z3q (m : Nat) : ∀ args X H',z1R m args = some (X,H') → ACp Try.prog GG 42 args X := by
 intro args X H' h
 unfold z1R at h
 split at h
 ·exact z0B MIX (by intro f e h;cases h) (f := 42) (c := z3P) Try.func42 rfl (by kernel_rfl) _ rfl Try.ntmps42 (Nat.le_of_ble_eq_true rfl) plenumref05_Faults_h h
 ·cases h
def z9k : Code := (Try.f44.body).getD .skip
def z9b : Hint := (.two .n (.two (.two .n (.two (.two .n .n) .n)) (.two .n (.two (.two .n (.two .n .n)) (.two .n .n)))))
def zew (m : Nat) : Env := []
abbrev zeC : KO (AV × List AObj) := z1L Try.prog [.tmp 4]
def z3f (m : Nat) (t0 t1 : AV) : RO := zLa Try.prog GG (zew m) m ⟨17,[]⟩ z9k z9b ⟨[],z14 0 [t0,t1]⟩ (zeC)
theorem zf7 (m : Nat) (t0 t1 : AV) : z3f m t0 t1 =
 zMe none false false .lss t1 (V (.int .i64 1)) fun t7 =>
 z0o t7 (
  z1Z [] (ro [] (V (.int .i64 0)))) (
  zMe none false false .rem t0 t1 fun t10 =>
  zMe none false false .lss t10 (V (.int .i64 0)) fun t12 =>
  z0o t12 (
   zMe none false false .add t10 t1 fun t15 =>
   z1Z [] (ro [] t15)) (
   z1Z [] (ro [] t10))) := by
 refine (z8O _ _ _ _ _ _ _ _ _).trans ?_
 kernel_rfl
def z3p (m : Nat) : List AV → RO|[t0,t1]=>z3f m t0 t1|_=>none
theorem z8z (m : Nat) : ∀ args X H',z3p m args = some (X,H') → ACp Try.prog GG 44 args X := by
 intro args X H' h
 unfold z3p at h
 split at h
 ·exact z0B MIX (by intro f e h;cases h) (f := 44) (c := z9k) Try.func44 rfl (by kernel_rfl) _ rfl Try.ntmps44 (Nat.le_of_ble_eq_true rfl) z9b h
 ·cases h
def zmX : Code := (Try.f62.body).getD .skip
def zn2 : Hint := (.two .n (.two .n .n))
def zpx (m : Nat) : Env := []
abbrev zoU : KO (AV × List AObj) := z1L Try.prog [.tmp 2]
def zj6 (m : Nat) (t0 : AV) : RO := zLa Try.prog GG (zpx m) m ⟨10,[]⟩ zmX zn2 ⟨[],z14 0 [t0]⟩ (zoU)
theorem zq6 (m : Nat) (t0 : AV) : zj6 m t0 =
 zMe none false false .gtr t0 (V (.int .i64 0)) fun t4 =>
 z0o t4 (
  zMe none false false .rem t0 (V (.int .i64 4)) fun t7 =>
  zMe none false false .eql t7 (V (.int .i64 0)) fun t8 =>
  z1Z [] (ro [] t8)) (
  z1Z [] (ro [] (V (.bool false)))) := by
 refine (z8O _ _ _ _ _ _ _ _ _).trans ?_
 kernel_rfl
def zfX (m : Nat) : List AV → RO|[t0]=>zj6 m t0|_=>none
theorem zlU (m : Nat) : ∀ args X H',zfX m args = some (X,H') → ACp Try.prog GG 62 args X := by
 intro args X H' h
 unfold zfX at h
 split at h
 ·exact z0B MIX (by intro f e h;cases h) (f := 62) (c := zmX) Try.func62 rfl (by kernel_rfl) _ rfl Try.ntmps62 (Nat.le_of_ble_eq_true rfl) zn2 h
 ·cases h
def zep : Code := (Try.f48.body).getD .skip
def zeb : Hint := (.two .n (.two .n .n))
def ziN (m : Nat) : Env := []
abbrev zin : KO (AV × List AObj) := z1L Try.prog [.tmp 2]
def z5G (m : Nat) (t0 : AV) : RO := zLa Try.prog GG (ziN m) m ⟨10,[]⟩ zep zeb ⟨[],z14 0 [t0]⟩ (zin)
theorem zjb (m : Nat) (t0 : AV) : z5G m t0 =
 zMe none false false .gtr t0 (V (.int .i64 0)) fun t4 =>
 z0o t4 (
  zMe none false false .rem t0 (V (.int .i64 4)) fun t7 =>
  zMe none false false .eql t7 (V (.int .i64 0)) fun t8 =>
  z1Z [] (ro [] t8)) (
  z1Z [] (ro [] (V (.bool false)))) := by
 refine (z8O _ _ _ _ _ _ _ _ _).trans ?_
 kernel_rfl
def z5X (m : Nat) : List AV → RO|[t0]=>z5G m t0|_=>none
theorem zc0 (m : Nat) : ∀ args X H',z5X m args = some (X,H') → ACp Try.prog GG 48 args X := by
 intro args X H' h
 unfold z5X at h
 split at h
 ·exact z0B MIX (by intro f e h;cases h) (f := 48) (c := zep) Try.func48 rfl (by kernel_rfl) _ rfl Try.ntmps48 (Nat.le_of_ble_eq_true rfl) zeb h
 ·cases h
end Go.Proofs.Ytaaogcnjfkgnoaa

namespace Go.Proofs.Ytaaogcnjfkgnoaa
open Go.RowKit
end Go.Proofs.Ytaaogcnjfkgnoaa

namespace Go.Proofs.Ytaaogcnjfkgnoaa
open Go.RowKit
abbrev zN5 (T : Tm) (l : List Tmp) : List AV := List.rec (motive := fun _=>List AV) [] (fun t _ ih=>zpn T t :: ih) l
theorem zxX (T : Tm) : ∀ l,zN5 T l = l.map (get T)
 |[]=>rfl
 |t :: r=>by
  have ih := zxX T r
  show zpn T t :: zN5 T r = get T t :: r.map (get T)
  rw [ih,slotK_eq]
abbrev zl7 (rs : List Tmp) : KO (AV × List AObj) := fun e s=>match e with
 |.normal=>some (TU (zN5 s.T rs),s.H)
 |_=>none
theorem zLX (P : Program) (G : Gl) (E : Env) (M : Nat) (N : FS) (c : Code) (h : Hint) (s : ASt) (rs : List Tmp) : zLa P G E M N c h s (zl7 rs) = execK P G E M N c h s (zl7 rs) := (z76 c h s _).symm
section
variable {P : Program} {G : Gl} {E : Env} {M n : Nat} {H : List AObj}
abbrev zF9 (P : Program) (n : Nat) (rs : List ResultVar) : KO (AV × List AObj) := fun e s=>match e with
 |.normal=>zoM P s.H s.T rs fun ds=>zq3 s.H (zaR ds)
 |.ret=>zoM P s.H s.T rs fun ds=>zq3 s.H (zaR ds)
 |_=>none
theorem orwX (P : Program) (G : Gl) (E : Env) (M : Nat) (N : FS) (n : Nat) (c : Code) (h : Hint) (s : ASt) (rs : List ResultVar) : zLa P G E M N c h s (zF9 P n rs) = execK P G E M N c h s (zF9 P n rs) := (z76 c h s _).symm
theorem zGA {N : Nat} (hm : P.follows .mixedOrders = true) (hE : zaL P G E) {f : FuncId} {fn : Func} {c : Code} {args : List AV} (hf : P.funcs[f]? = some fn) (hb : fn.body = some c) (hc : zey P f = true) (rs : List ResultVar) (hrs : fn.results.toList = rs) (hN : fn.ntmps = N) (hargs : args.length ≤ N) (h : Hint)
  {X : AV} {H' : List AObj} (hx : zLa P G E M (F0 N) c h ⟨H,z14 0 args⟩ (zF9 P n rs) = some (X,H')) : AC P G f args H (Is X H') := by
 have key := AWp.len (zae (n := H.length) hm hE c h ⟨H,z14 0 args⟩ _ (Nat.le_refl _) hx) (Nat.le_refl _)
 have fin : ∀ s : ASt,(zoM P s.H s.T rs fun ds=>zq3 s.H (zaR ds)) = some (X,H') → H.length ≤ s.H.length →
   zNt P s.H s.T rs fun ds=>∃ X' H'',(X' = zaR ds ∨ X' = ro s.H (zaR ds)) ∧ HLe s.H H'' ∧ H''.all (ltO H''.length) = true ∧ H.length ≤ H''.length ∧ ltT H''.length X' = true ∧ Is X H' X' H'' := by
  intro s q hl
  rw [zht] at q
  refine z8h (fun ds w=>?_) (zlP q)
  obtain ⟨h1,h2⟩ := z05 w
  simp only [Bool.and_eq_true] at h1
  cases h2
  exact ⟨_,_, .inl rfl,HLe.refl _,h1.1,hl,h1.2,rfl,rfl⟩
 refine zo6 hf hb hc rs hrs N hN hargs (AWp.mono key fun e s q=>?_)
 obtain ⟨q,hl⟩ := q
 cases e with
 |normal=>exact fin s q hl
 |ret=>exact fin s q hl
 |exit id=>cases q
 |goto l=>cases q
 |panic ch=>cases q
 |outgrown=>cases q
end
end Go.Proofs.Ytaaogcnjfkgnoaa

namespace Go.Proofs.Ytaaogcnjfkgnoaa
open Go.RowKit
abbrev FL (lo : Option Nat) : Fence := { Fence.wide with round := lo }
section
variable {lo : Option Nat} {d : Nat} {P : Program} {G : Gl} {N : FS} {n : Nat}
theorem zt2 {f : FuncId} {args : Array Value} {w : World} {R : Ending → World → Prop} (h : Calls P f args w R) : CallsIn (FL lo) d P f args w R := callsIn_wide.2 h
theorem zwr {row : String} {args : Array Value} {w : World} {R : Value → World → Prop} (h : Rows P row args w R) : RowsIn (FL lo) d P row args w R := fun c cs _ =>
 let ⟨v,w',r,s⟩ := h c cs;⟨v,w',r,stepsIn_wide.2 s⟩
theorem zIX {o : Oper} {a : Act} {w : World} {next : Act → World → Prop} {Q : Exit → Act → World → Prop} (hd : ∀ c,o.op ≠ .defer c) (h : o.wp P a w next Q) : o.wpIn (FL lo) d P a w next Q := by
 refine ⟨fun _ _=>trivial,?_⟩
 have e : Oper.semAt (FL lo).round a.eval o = execOp a.eval o := by
  cases lo with
  |none=>exact Oper.semAt_none _ _
  |some l=>exact Oper.semAt_some _ _ _ hd
 rw [e]
 unfold Oper.wp at h
 generalize (execOp a.eval o).run P w = r at h ⊢
 cases r with
 |ok x w' =>
  cases x <;> simp only [Oper.upon,Oper.uponIn] at h ⊢ <;>
   first
    |exact h
    |exact h.elim
    |exact ⟨fun q=>(by cases q),(zt2 h).mono fun e w'' he=>by cases e <;> exact he⟩
    |exact ⟨fun q=>(by cases q),zwr h⟩
 |halt x w'=>cases x <;> simp only [Oper.upon,Oper.uponIn] at h ⊢ <;> first|exact h|exact h.elim
theorem zmj {o : Oper} {s : ASt} {K : AV → List AObj → Prop} (h : z0A P G o s K) : ∀ c,o.op ≠ .defer c := by
 intro c e
 unfold z0A at h
 rw [e] at h
 exact h
theorem zl6 {ops : List Oper} {K : ASt → Prop} {Q : Exit → ASt → Prop} (hK : ∀ s,K s → Q .normal s) {w0 : World} {S0 : SS} {μ0 : List Value} {H0 : List AObj} (hn : n ≤ H0.length) (hl0 : μ0.length = H0.length) : ∀ (l : List Oper) (s : ASt),zbL P G ops l s K → zNp N l = true →
  ∀ w S μ a,Rel w S μ s.H → Fr S μ N s.T a → GOk G S → Step n w0 S0 μ0 H0 w S μ s.H → wpListIn (FL lo) d P ops.toArray (Lift N n w0 S0 μ0 H0 Q) l a w
 |[],s,h,_,w,S,μ,a,hr,hf,hg,hs=>⟨s,S,μ,hK s h,hr,hf,hs⟩
 |o :: r,s,h,hfit,w,S,μ,a,hr,hf,hg,hs=>by
  have hfit' := hfit
  simp only [zNp,List.all_cons,Bool.and_eq_true] at hfit'
  have hd : ∀ i,o.dst = some i → i < N := fun i e=>by have := hfit'.1;rw [e] at this;simpa using this
  have hgo : ∀ (hw : Region.wanted o (yielded ops.toArray a.tmps) = true),z0A P G o s (fun d H=>zbL P G ops r (s.set H o.dst d) K) → wpListIn (FL lo) d P ops.toArray (Lift N n w0 S0 μ0 H0 Q) (o :: r) a w := by
   intro hw hstep
   unfold wpListIn
   rw [if_pos hw]
   have hop := zfK hstep hr hf hg (Lift N n w0 S0 μ0 H0 Q)
   refine zIX (zmj hstep) (_root_.Go.Proofs.Ytaaogcnjfkgnoaa.Oper.wp_next hop fun a' w'=>?_)
   rintro ⟨d,u,H',S',μ',hrest,rfl,hrep,hr',hs',_⟩
   have hst := (hf.ext (hs'.toExt hr)).put o.dst hd hrep
   have hn' : n ≤ s.H.length := by
    have := hs.objs
    rcases Nat.lt_or_ge s.H.length n with hlt|hge
    ·have hlm : s.H.length < μ0.length := by omega
     obtain ⟨x',hx',_⟩ := hs.objs s.H.length μ0[s.H.length] hlt (List.getElem?_eq_getElem hlm)
     have := (List.getElem?_eq_some_iff.1 hx').1
     rw [hr.len] at this;omega
    ·exact hge
   exact zl6 hK hn hl0 r _ hrest hfit'.2 w' S' μ' _ hr' hst (hg.ext hs'.still) (hs.trans (hs'.less hn'))
  have hno : Region.wanted o (yielded ops.toArray a.tmps) = false → wpListIn (FL lo) d P ops.toArray (Lift N n w0 S0 μ0 H0 Q) r (a.put o.dst undef) w → wpListIn (FL lo) d P ops.toArray (Lift N n w0 S0 μ0 H0 Q) (o :: r) a w := by
   intro hw hrest
   unfold wpListIn
   rw [if_neg (by rw [hw];exact Bool.false_ne_true)]
   exact ⟨fun _ _=>trivial,hrest⟩
  unfold zbL at h
  split at h
  ·rename_i hgd
   exact hgo (by simp [Region.wanted,hgd]) h
  ·rename_i j want hgd
   split at h
   ·rename_i t ht
    unfold zkX at h
    split at h
    ·rename_i b hb
     have hy := za4 hf ht hb
     by_cases e : b = want
     ·exact hgo (by simp [Region.wanted,hgd,hy,e]) (h.1 e)
     ·have hrest := h.2 (by cases b <;> cases want <;> simp_all)
      have hst := hf.put o.dst hd (zqv S μ)
      exact hno (by simp [Region.wanted,hgd,hy,e]) (zl6 hK hn hl0 r _ hrest hfit'.2 w S μ _ hr hst hg hs)
    ·rename_i q hb
     have hy := zhB hf ht hb
     have hst := hf.put o.dst hd (zqv S μ)
     exact hno (by simp [Region.wanted,hgd,hy]) (zl6 hK hn hl0 r _ h hfit'.2 w S μ _ hr hst hg hs)
    ·exact h.elim
   ·exact h.elim
def AWi (lo : Option Nat) (d : Nat) (P : Program) (G : Gl) (N : FS) (n : Nat) (c : Code) (Q : Exit → ASt → Prop) (s : ASt) : Prop :=
 ∀ w S μ a,Rel w S μ s.H → Fr S μ N s.T a → GOk G S → c.wpIn (FL lo) d P (Lift N n w S μ s.H Q) a w
variable {Q : Exit → ASt → Prop} {s : ASt} {H : List AObj} {T T' : Tm}
theorem AWi.mono {c : Code} {Q' : Exit → ASt → Prop} (h : AWi lo d P G N n c Q s) (k : ∀ e s,Q e s → Q' e s) : AWi lo d P G N n c Q' s :=
 fun w S μ a hr hf hg=>wpIn_mono (h w S μ a hr hf hg) fun _ _ _ ⟨s',S',μ',hq,r⟩=>⟨s',S',μ',k _ _ hq,r⟩
theorem AWi.text {c : Code} (h : TEq T T') (k : AWi lo d P G N n c Q ⟨H,T'⟩) : AWi lo d P G N n c Q ⟨H,T⟩ :=
 fun w S μ a hr hf hg=>k w S μ a hr ⟨hf.size,hf.nodef,fun i=>by rw [← h i];exact hf.slot i⟩ hg
theorem AWi.forget {c : Code} (h : ∀ i,get T' i = get T i ∨ get T' i = .nil) (k : AWi lo d P G N n c Q ⟨H,T'⟩) : AWi lo d P G N n c Q ⟨H,T⟩ := by
 intro w S μ a hr hf hg
 refine k w S μ a hr ⟨hf.size,hf.nodef,fun i=>?_⟩ hg
 rcases h i with e|e
 ·rw [e];exact hf.slot i
 ·rw [e];exact zp6 _ _ _
theorem AWi.len {c : Code} (h : AWi lo d P G N n c Q s) (hn : n ≤ s.H.length) : AWi lo d P G N n c (fun e s'=>Q e s' ∧ n ≤ s'.H.length) s := by
 intro w S μ a hr hf hg
 refine wpIn_mono (h w S μ a hr hf hg) ?_
 rintro e a' w' ⟨s',S',μ',hq,hr',hf',hst⟩
 refine ⟨s',S',μ',⟨hq,?_⟩,hr',hf',hst⟩
 rw [← hr'.len]
 cases n with
 |zero=>exact Nat.zero_le _
 |succ m =>
  have hm : m < μ.length := by rw [hr.len];omega
  obtain ⟨x',hx',_⟩ := hst.objs m _ (Nat.lt_succ_self m) (List.getElem?_eq_getElem hm)
  exact (List.getElem?_eq_some_iff.1 hx').1
theorem AWi.post {c : Code} {Q' : Exit → ASt → Prop} (h : AWi lo d P G N n c Q s) (q : ∀ e s',Q e s' → ∃ T2,(∀ i,get T2 i = get s'.T i ∨ get T2 i = .nil) ∧ Q' e ⟨s'.H,T2⟩) : AWi lo d P G N n c Q' s := by
 intro w S μ a hr hf hg
 refine wpIn_mono (h w S μ a hr hf hg) ?_
 rintro e a' w' ⟨s',S',μ',hq,hr',hf',hst⟩
 obtain ⟨T2,ht,q'⟩ := q e s' hq
 refine ⟨⟨s'.H,T2⟩,S',μ',q',hr',⟨hf'.size,hf'.nodef,fun i=>?_⟩,hst⟩
 rcases ht i with e|e
 ·rw [e];exact hf'.slot i
 ·rw [e];exact zp6 _ _ _
theorem zzh (h : Q .normal s) : AWi lo d P G N n .skip Q s := fun w S μ _ hr hf _=>wpIn_skip ⟨s,S,μ,h,hr,hf,Step.refl _ _ _ _ _⟩
theorem zDF (h : Q .ret s) : AWi lo d P G N n .ret Q s := fun w S μ _ hr hf _=>wpIn_ret ⟨s,S,μ,h,hr,hf,Step.refl _ _ _ _ _⟩
theorem zzC {id : Nat} (h : Q (.exit id) s) : AWi lo d P G N n (.exit id) Q s := fun w S μ _ hr hf _=>wpIn_exit ⟨s,S,μ,h,hr,hf,Step.refl _ _ _ _ _⟩
theorem zDq {x y : Code} (h : AWi lo d P G N n x (zFq (AWi lo d P G N n y Q) Q) s) : AWi lo d P G N n (.seq x y) Q s := by
 intro w S μ a hr hf hg
 refine wpIn_seq (wpIn_mono (h w S μ a hr hf hg) ?_)
 rintro e a' w' ⟨s',S',μ',hq,hr',hf',hst⟩
 cases e with
 |normal=>exact wpIn_mono (hq w' S' μ' a' hr' hf' (hg.ext hst.still)) fun _ _ _ k=>Lift.trans hst k
 |exit id=>exact ⟨s',S',μ',hq,hr',hf',hst⟩
 |goto l=>exact ⟨s',S',μ',hq,hr',hf',hst⟩
 |ret=>exact ⟨s',S',μ',hq,hr',hf',hst⟩
 |panic ch=>exact ⟨s',S',μ',hq,hr',hf',hst⟩
 |outgrown=>exact ⟨s',S',μ',hq,hr',hf',hst⟩
theorem zv3 {id : Nat} {c : Code} (h : AWi lo d P G N n c (zjc id Q) s) : AWi lo d P G N n (.block id c) Q s := by
 intro w S μ a hr hf hg
 refine wpIn_block (wpIn_mono (h w S μ a hr hf hg) ?_)
 rintro e a' w' ⟨s',S',μ',hq,r⟩
 cases e with
 |exit id' =>
  simp only [zjc] at hq
  simp only [Exit.inBlock]
  split
  ·rename_i e;rw [if_pos e] at hq;exact ⟨s',S',μ',hq,r⟩
  ·rename_i e;rw [if_neg e] at hq;exact ⟨s',S',μ',hq,r⟩
 |normal=>exact ⟨s',S',μ',hq,r⟩
 |goto l=>exact ⟨s',S',μ',hq,r⟩
 |ret=>exact ⟨s',S',μ',hq,r⟩
 |panic ch=>exact ⟨s',S',μ',hq,r⟩
 |outgrown=>exact ⟨s',S',μ',hq,r⟩
theorem zt3 {c : Operand} {x y : Code} {t : Bool} (hc : ev G s.T c = V (.bool t)) (h1 : t = true → AWi lo d P G N n x Q s) (h2 : t = false → AWi lo d P G N n y Q s) : AWi lo d P G N n (.cond c x y) Q s := by
 intro w S μ a hr hf hg
 have h := hf.ev hg c
 rw [hc] at h
 exact wpIn_cond_split h.1 (fun e=>h1 e w S μ a hr hf hg) (fun e=>h2 e w S μ a hr hf hg)
theorem zpH {id : Nat} {ops : List Oper} (hfit : zNp N ops = true) (hn : n ≤ s.H.length) (h : zbL P G ops ops s fun s=>Q .normal s) : AWi lo d P G N n (.region id ops.toArray false) Q s :=
 fun w S μ a hr hf hg=>wpIn_region_lit (zl6 (K := fun s=>Q .normal s) (fun s h=>h) hn hr.len ops s h hfit w S μ a hr hf hg (Step.refl _ _ _ _ _))
theorem zGT {c : Code} (i off : Nat) (e : TypeId) (z : Nat) (hn : n ≤ s.H.length) (h : AWi lo d P G N n c Q (ghS i off e z s)) : AWi lo d P G N n c Q s := by
 unfold ghS at h
 split at h
 ·rename_i j hi
  split at h
  ·rename_i ob hj
   split at h
   ·rename_i hk hc
    intro w S μ a hr hf hg
    obtain ⟨h1,h2⟩ := hr.nilRow none e z
    have hjl : j < s.H.length := (List.getElem?_eq_some_iff.1 hj).1
    obtain ⟨h3,h4⟩ := h1.recell (off := off) (d' := OW s.H.length 0) (by rw [List.getElem?_append_left hjl];exact hj) hk hc (fun u hu=>⟨none,0,0,none,0,by rw [← hr.len];simp,Nat.le_refl _,hu.1,fun _=>⟨rfl,rfl⟩⟩)
    rw [List.set_append_left _ _ hjl] at h3 h4
    have hx : Ext S μ S (μ ++ [.slice none 0 0]) := zmL S μ _
    have hf' : Fr S (μ ++ [.slice none 0 0]) N s.T a := ⟨hf.size,hf.nodef,fun k=>(hf.slot k).ext hx⟩
    refine wpIn_mono (h w S _ a h3 hf' hg) fun _ _ _ k=>Lift.trans ((h2.less hn).trans (h4.less ?_)) k
    simp only [List.length_append];omega
   ·exact h
  ·exact h
 ·exact h
theorem zxi {c : Code} (g : Option (Nat × Nat × TypeId × Nat)) (hn : n ≤ s.H.length) (h : AWi lo d P G N n c Q (ghJ g s)) : AWi lo d P G N n c Q s := by
 cases g with
 |none=>exact h
 |some q=>exact zGT _ _ _ _ hn h
def ztt : Code → Bool
 |.skip=>true
 |.region _ _ dr=>!dr
 |.seq a b=>ztt a && ztt b
 |.cond _ x y=>ztt x && ztt y
 |.block _ c=>ztt c
 |.exit _=>true
 |.ret=>true
 |_=>false
theorem zlr {R : Type} {E : Env} {M : Nat} (hE : zaL P G E) (hp : E.any zyl = false) {r : R} : ∀ (c : Code) (h : Hint) (s : ASt) (k : KO R),ztt c = true → n ≤ s.H.length → zLa P G E M N c h s k = some r → AWi lo d P G N n c (fun e s'=>k e s' = some r) s
 |.skip,h,s,k,hc,hn,hx=>zzh hx
 |.region id ops draw,h,s,k,hc,hn,hx=>by
  cases draw with
  |true=>cases hc
  |false =>
   obtain ⟨h1,h2⟩ := z05 (show z0C (zNp N ops.toList) (match zMb E ops.toList with
    |true=>zLI P G E ops.toList s (fun s=>k .normal s) (fun u s=>k (.panic (pch u)) s)
    |false=>runE P G E false ops.toList [] ops.toList s fun s=>k .normal s) = some r from hx)
   have hq : zMb E ops.toList = false := by unfold zMb;rw [hp];rfl
   rw [hq] at h2
   have := zpH (lo := lo) (d := d) (n := n) (id := id) (s := s) (G := G) (Q := fun e s'=>e = .normal ∧ Aft (fun s=>k .normal s) r s') h1 hn (za5 (fun s q=>⟨rfl,q⟩) (zir hE (TEq.refl s.T) SkOk.nil h2))
   rw [Array.toArray_toList] at this
   refine this.post fun e s' q=>?_
   obtain ⟨rfl,T2,ht,q⟩ := q
   exact ⟨T2,fun i=>.inl (ht i).symm,q⟩
 |.seq a b,h,s,k,hc,hn,hx=>by
  simp only [ztt,Bool.and_eq_true] at hc
  refine zDq (AWi.mono (AWi.len (zlr hE hp a h.l s _ hc.1 hn hx) hn) fun e s' q=>?_)
  obtain ⟨q,hl⟩ := q
  cases e with
  |normal =>
   have q : zLa P G E M N b h.r (ghJ h.gho (zAB h.J s')) k = some r := q
   cases hj : h.J with
   |none=>rw [hj] at q;exact zxi h.gho hl (zlr hE hp b h.r (ghJ h.gho s') k hc.2 (Nat.le_trans hl (zpd _ _)) q)
   |some L=>rw [hj] at q;exact AWi.forget (zfU L s'.T) (zxi (s := ⟨s'.H,zba L s'.T⟩) h.gho hl (zlr hE hp b h.r (ghJ h.gho ⟨s'.H,zba L s'.T⟩) k hc.2 (Nat.le_trans hl (zpd h.gho ⟨s'.H,zba L s'.T⟩)) q))
  |exit id=>exact q
  |goto l=>exact q
  |ret=>exact q
  |panic ch=>exact q
  |outgrown=>exact q
 |.cond c x y,h,s,k,hc,hn,hx=>by
  simp only [ztt,Bool.and_eq_true] at hc
  have lit : ∀ b,ev G s.T c = V (.bool b) → TEq s.T (zMs c b s.T) := by
   intro b hb
   cases c with
   |tmp t=>exact TEq.lit (TEq.refl _) hb
   |const v=>exact TEq.refl _
   |global g=>exact TEq.refl _
   |func f=>exact TEq.refl _
  rcases zf8 (show z0o (ev G s.T c) _ _ = some r from hx) with ⟨h1,h2⟩|⟨h1,h2⟩
  ·exact zt3 h1 (fun _=>AWi.text (lit _ h1) (zlr hE hp x h.l ⟨s.H,_⟩ k hc.1 hn h2)) (fun q=>by cases q)
  ·exact zt3 h1 (fun q=>by cases q) (fun _=>AWi.text (lit _ h1) (zlr hE hp y h.r ⟨s.H,_⟩ k hc.2 hn h2))
 |.block id c,h,s,k,hc,hn,hx=>by
  refine zv3 (AWi.mono (zlr hE hp c h.c s _ hc hn hx) fun e s' q=>?_)
  cases e with
  |normal=>exact q
  |exit i =>
   simp only [zjc]
   split
   ·rename_i e
    have hb : Nat.beq i id = true := Nat.beq_eq.mpr e
    dsimp only at q
    rw [hb] at q;exact q
   ·rename_i e
    have hb : Nat.beq i id = false := by
     cases hb : Nat.beq i id with
     |false=>rfl
     |true=>exact absurd (Nat.eq_of_beq_eq_true hb) e
    dsimp only at q
    rw [hb] at q;exact q
  |goto l=>exact q
  |ret=>exact q
  |panic ch=>exact q
  |outgrown=>exact q
 |.loop c,h,s,k,hc,hn,hx=>by cases hc
 |.rangeFunc ..,h,s,k,hc,hn,hx=>by cases hc
 |.scope _,h,s,k,hc,hn,hx=>by cases hc
 |.label _,h,s,k,hc,hn,hx=>by cases hc
 |.goto _,h,s,k,hc,hn,hx=>by cases hc
 |.refuse _,h,s,k,hc,hn,hx=>by cases hc
 |.exit id,h,s,k,hc,hn,hx=>zzC hx
 |.ret,h,s,k,hc,hn,hx=>zDF hx
end
end Go.Proofs.Ytaaogcnjfkgnoaa

namespace Go.Proofs.Ytaaogcnjfkgnoaa
open Go.RowKit
section
variable {P : Program} {G : Gl} {n d : Nat} {w w' w0 : World} {S S' S0 : SS} {μ μ' μ0 : List Value} {H H' H0 : List AObj}
def NoCells (w : World) (l : Nat) : Prop := (∀ cs t p,w.heap[l]? ≠ some (.cells cs t p)) ∧ ∀ es c,w.heap[l]? ≠ some (.map es c)
theorem NoCells.of {o : Obj} {l : Nat} (h : w.heap[l]? = some o) (ho : ∀ cs t p,o ≠ .cells cs t p) (ho2 : ∀ es c,o ≠ .map es c := by intro _ _ e;cases e) : NoCells w l := ⟨fun cs t p e=>by rw [h] at e;cases e;exact ho cs t p rfl,fun es c e=>by rw [h] at e;cases e;exact ho2 es c rfl⟩
theorem ztK (hr : Rel w S μ H) {b : Nat} (h : zLD μ H b) : (∃ cs t p,w.heap[b]? = some (.cells cs t p)) ∨ ∃ es c,w.heap[b]? = some (.map es c) := by
 obtain ⟨i,x,o,hx,ho,hk,hb⟩ := h
 have ho' := hr.objs i x o hx ho
 rcases hr.kinds i x o hx ho with h|h|h|h|h
 ·exact absurd h hk
 ·obtain ⟨b',cs,e,hc,_⟩ := ho'.1 h
  subst e;simp [z60] at hb;subst hb
  exact .inl ⟨_,_,_,hc⟩
 ·obtain ⟨us,A,c,e,_,_,hc,_⟩ := ho'.2.1 h
  subst e
  cases A with
  |none=>simp [z60] at hb
  |some a =>
   simp only [z60] at hb
   split at hb
   ·cases hb
   ·rename_i h0
    injection hb with hb;subst hb
    rcases (hc h0).2 with ⟨q,_⟩|⟨g,cap,cur,hv,_,hh,_⟩
    ·cases q
    ·injection hv with hv1 _ _
     injection hv1 with hv1
     subst hv1
     exact .inl ⟨_,_,_,hh⟩
 ·obtain ⟨A,c,e,_,_,_,hc⟩ := ho'.2.2.1 h
  subst e
  cases A with
  |none=>simp [z60] at hb
  |some a =>
   simp only [z60] at hb
   split at hb
   ·cases hb
   ·rename_i h0
    injection hb with hb;subst hb
    obtain ⟨b,cs,q1,q2,_⟩ := hc h0
    injection q1 with q1;subst q1
    exact .inl ⟨_,_,_,q2⟩
 ·obtain ⟨b',e,es,clock,hc,_⟩ := ho'.2.2.2 h
  subst e;simp [z60] at hb;subst hb
  exact .inr ⟨_,_,hc⟩
theorem NoCells.own {l : Nat} (hl : NoCells w l) (hr : Rel w S μ H) : ¬ zLD μ H l := fun q=>by
 rcases ztK hr q with ⟨cs,t,p,e⟩|⟨es,c,e⟩
 ·exact hl.1 cs t p e
 ·exact hl.2 es c e
theorem NoCells.still {l : Nat} (hl : NoCells w l) (hr : Rel w S μ H) {j : Nat} {x : AV} (h : S l j x) : False := by
 obtain ⟨u,hu,_⟩ := hr.still l j x h
 unfold World.cell? at hu
 split at hu
 ·rename_i cs t p e;exact hl.1 _ _ _ e
 ·cases hu
theorem Rel.touch (hr : Rel w S μ H) (l : Nat) (hl : NoCells w l) (hb : ∀ b,b ≠ l → b < w.heap.size → w'.heap[b]? = w.heap[b]?) : Rel w' S μ H := by
 refine ⟨hr.len,fun b j x hs=>?_,hr.kinds,fun i x o hx ho=>?_,hr.sep,hr.apart⟩
 ·obtain ⟨u,hu,h1,h2⟩ := hr.still b j x hs
  refine ⟨u,?_,h1,h2⟩
  have hne : b ≠ l := fun e=>by subst e;exact hl.still hr hs
  have hlt : b < w.heap.size := by
   apply Nat.lt_of_not_le
   intro q
   unfold World.cell? at hu
   rw [Array.getElem?_eq_none q] at hu
   cases hu
  unfold World.cell? at hu ⊢
  rw [hb b hne hlt];exact hu
 ·by_cases hk : o.k = 0
  ·exact objRep.zero hk
  ·exact (hr.objs i x o hx ho).move (Ext.refl _ _) fun b hbk=>hb b (fun e=>by subst e;exact hl.own hr ⟨i,x,o,hx,ho,hk,hbk⟩) (hr.own_lt hx ho hk hbk)
theorem Step.touch (h : Step n w0 S0 μ0 H0 w S μ H) {l : Nat} (hl : w0.heap.size ≤ l) (h1 : w'.os = w.os) (h2 : w'.tape = w.tape) (h3 : w'.output = w.output) (h4 : w.heap.size ≤ w'.heap.size) (hb : ∀ b,b ≠ l → b < w.heap.size → w'.heap[b]? = w.heap[b]?) : Step n w0 S0 μ0 H0 w' S μ H :=
 ⟨h1.trans h.os,h2.trans h.tape,h3.trans h.output,Nat.le_trans h.size h4,fun b hb1 hn=>(hb b (by omega) (Nat.lt_of_lt_of_le hb1 h.size)).trans (h.block b hb1 hn),h.still,h.objs,h.old,h.mine⟩
theorem Step.keeps (h : Step n w S μ H w' S' μ' H') (hr : Rel w S μ H) {b : Nat} {o : Obj} (hb : w.heap[b]? = some o) (ho : ∀ cs t p,o ≠ .cells cs t p) (ho2 : ∀ es c,o ≠ .map es c := by intro _ _ e;cases e) : w'.heap[b]? = some o :=
 (h.block b (Array.getElem?_eq_some_iff.1 hb).1 ((NoCells.of hb ho ho2).own hr)).trans hb
theorem z7H (w : World) (l : Nat) (o : Obj) : ∀ b,b ≠ l → b < w.heap.size → (w.putObj l o).heap[b]? = w.heap[b]? := fun b hb _=>World.putObj_heap_other hb
theorem z6k (w : World) (l : Nat) (o : Obj) : (w.putObj l o).heap.size = w.heap.size := by simp [World.putObj]
theorem zcq (w : World) (o : Obj) : ∀ b,b ≠ w.heap.size → b < w.heap.size → (w.alloc o).heap[b]? = w.heap[b]? := fun b _ hb=>Below.heap_alloc _ _ _ hb
theorem ztR (w : World) : NoCells w w.heap.size := ⟨fun cs t p e=>(by rw [Array.getElem?_eq_none (Nat.le_refl _)] at e;cases e),fun es c e=>(by rw [Array.getElem?_eq_none (Nat.le_refl _)] at e;cases e)⟩
theorem Step.swap {l : Nat} {A o : Obj} (hr : Rel w S μ H) (h : Step n (w.putObj l A) S μ H w' S' μ' H') (hl : w.heap[l]? = some o) (ho : ∀ cs t p,o ≠ .cells cs t p) (ho2 : ∀ es c,o ≠ .map es c := by intro _ _ e;cases e) : Step n w S μ H (w'.putObj l o) S' μ' H' := by
 have hs := h.size
 rw [z6k] at hs
 have hll := (Array.getElem?_eq_some_iff.1 hl).1
 refine ⟨h.os,h.tape,h.output,by rw [z6k];exact hs,fun b hb hn=>?_,h.still,h.objs,fun b j x q hb=>h.old b j x q (by rw [z6k];exact hb),fun b q hb=>h.mine b q (by rw [z6k];exact hb)⟩
 rcases Nat.decEq b l with e|e
 ·rw [World.putObj_heap_other e,h.block b (by rw [z6k];exact hb) hn,World.putObj_heap_other e]
 ·subst e
  rw [World.putObj_heap_same (Nat.lt_of_lt_of_le hll hs),hl]
def zw3 : Exit → Option Code
 |.ret=>some .ret
 |.exit id=>some (.exit id)
 |_=>none
def zzH : List Nat → List AV → Tm → Tm
 |p :: ps,x :: xs,T=>zzH ps xs ((p,x) :: T)
 |_,_,T=>T
theorem zuU {xs : List AV} {T : Tm} : zzH [] xs T = T := by cases xs <;> rfl
theorem zt8 {N : FS} {df : List Deferred} : ∀ {ps : List Nat} {xs : List AV} {vs : List Value} {T : Tm} {tm : Array Value},Fr S μ N T ⟨tm,df⟩ → (∀ p ∈ ps,p < N.n) → vs.length = xs.length → (∀ (j : Nat) (x : AV) (v : Value),xs[j]? = some x → vs[j]? = some v → rep S μ x v) →
  Fr S μ N (zzH ps xs T) ⟨(ps.zip vs).foldl (fun tmps p=>tmps.setIfInBounds p.1 p.2) tm,df⟩
 |[],xs,vs,T,tm,h,_,_,_=>by rw [zuU];exact h
 |p :: ps,[],vs,T,tm,h,_,hl,_=>by
  have : vs = [] := List.eq_nil_of_length_eq_zero hl
  subst this
  exact h
 |p :: ps,x :: xs,[],T,tm,h,_,hl,_=>by cases hl
 |p :: ps,x :: xs,v :: vs,T,tm,h,hp,hl,hv=>by
  have h1 := h.put (some p) (fun i e=>by cases e;exact hp p (List.mem_cons_self ..)) (hv 0 x v rfl rfl)
  exact zt8 (ps := ps) h1 (fun q hq=>hp q (List.mem_cons_of_mem _ hq)) (by simpa using hl) fun j y u hy hu=>hv (j + 1) y u hy hu
def zxW (l : Nat) (r : Loop) (w : World) (S : SS) (μ : List Value) (H : List AObj) (Q : Exit → List AObj → Prop) (e : Ending) (w' : World) : Prop :=
 ∃ w2 S' μ' H' x,Q x H' ∧ Rel w2 S' μ' H' ∧ Step H.length w S μ H w2 S' μ' H' ∧ w2.heap[l]? = some (.loop r) ∧ ((x = .normal ∧ e = .returned (.bool true) ∧ w' = w2) ∨ (∃ c,zw3 x = some c ∧ e = .returned (.bool false) ∧ w' = w2.putObj l (.loop { r with state := .done,pending := some c })))
theorem zAa {l fn D N : Nat} {tm : Array Value} {ps : List Nat} {assign body : Code} {T : Tm} {xs : List AV} {vs : List Value} {Q : Exit → ASt → Prop} {Q' : Exit → List AObj → Prop}
  (hr : Rel w S μ H) (hf : Fr S μ (F0 N) T ⟨tm,[]⟩) (hg : GOk G S) (hp : ∀ p ∈ ps,p < N) (hl : w.heap[l]? = some (.loop ⟨.ready,none,fn,tm,ps.toArray,assign,body,D⟩)) (h1 : vs.length = xs.length) (h2 : xs.length = ps.length)
  (hv : ∀ (j : Nat) (x : AV) (v : Value),xs[j]? = some x → vs[j]? = some v → rep S μ x v)
  (ha : AWi (some l) d P G (F0 N) H.length assign (zFq (AWi (some l) d P G (F0 N) H.length body Q) fun _ _=>False) ⟨H,zzH ps xs T⟩)
  (hQ : ∀ x s,Q x s → (x = .normal ∨ ∃ c,zw3 x = some c) ∧ ∃ H',HLe s.H H' ∧ H'.all (ltO H'.length) = true ∧ H.length ≤ H'.length ∧ Q' x H') :
  YieldAt Fence.wide d P l vs.toArray w (zxW l ⟨.ready,none,fn,tm,ps.toArray,assign,body,D⟩ w S μ H Q') := by
 have hnl : ∀ r cs t p,(Obj.loop r) ≠ .cells cs t p := fun _ _ _ _ e=>by cases e
 refine ⟨fn,(ps.zip vs).foldl (fun tmps p=>tmps.setIfInBounds p.1 p.2) tm,assign,body,?_,roundIn_of_wpIn trivial ?_⟩
 ·have := run_yield (P := P) (args := vs.toArray) hl (by simp [h1,h2])
  rw [this]
  simp [← Array.foldl_toList,Array.toList_zip]
 ·have hfr := zt8 hf hp h1 hv
  refine wpIn_mono (ha w S μ _ hr hfr hg) ?_
  rintro e a1 w1 ⟨s1,S1,μ1,hq1,hr1,hf1,hs1⟩
  cases e with
  |normal =>
   have hl1 := hs1.keeps hr hl (hnl _)
   have hll1 := (Array.getElem?_eq_some_iff.1 hl1).1
   refine ⟨_,run_beginRound hl1 rfl,?_⟩
   have hr1' : Rel (w1.putObj l (.loop ⟨.busy,none,fn,tm,ps.toArray,assign,body,D⟩)) S1 μ1 s1.H := hr1.touch l (NoCells.of hl1 (hnl _)) (z7H _ _ _)
   have hq1 : AWi (some l) d P G (F0 N) H.length body Q s1 := hq1
   refine wpIn_mono (hq1 _ S1 μ1 a1 hr1' hf1 (hg.ext hs1.still)) ?_
   rintro e2 a2 w3 ⟨s3,S3,μ3,hq3,hr3,hf3,hs3⟩
   obtain ⟨hx,H',hle,hlt,hn,hQ'⟩ := hQ e2 s3 hq3
   have hlb : (w1.putObj l (.loop ⟨.busy,none,fn,tm,ps.toArray,assign,body,D⟩)).heap[l]? = some (.loop ⟨.busy,none,fn,tm,ps.toArray,assign,body,D⟩) := World.putObj_heap_same hll1
   have hl3 := hs3.keeps hr1' hlb (hnl _)
   have hll3 := (Array.getElem?_eq_some_iff.1 hl3).1
   have hst : Step H.length w S μ H (w3.putObj l (.loop ⟨.ready,none,fn,tm,ps.toArray,assign,body,D⟩)) S3 (μ3.take H'.length) H' :=
    (hs1.trans (Step.swap hr1 hs3 hl1 (hnl _))).trans (Le.step (s := s3) (s' := ⟨H',[]⟩) ⟨hle,hlt,trivial⟩ hn _ _ _)
   have hrl : Rel (w3.putObj l (.loop ⟨.ready,none,fn,tm,ps.toArray,assign,body,D⟩)) S3 (μ3.take H'.length) H' :=
    (hr3.touch l (NoCells.of hl3 (hnl _)) (z7H _ _ _)).le hle hlt
   have hpp : ∀ o o' : Obj,(w3.putObj l o).putObj l o' = w3.putObj l o' := fun o o'=>by
    unfold World.putObj
    simp [Array.setIfInBounds_setIfInBounds]
   cases e2 with
   |normal =>
    refine ⟨_,_,run_endRound none hl3,_,S3,_,H', .normal,hQ',hrl,hst,World.putObj_heap_same hll3, .inl ⟨rfl,rfl,rfl⟩⟩
   |ret =>
    refine ⟨_,_,run_endRound (some .ret) hl3,_,S3,_,H', .ret,hQ',hrl,hst,World.putObj_heap_same hll3, .inr ⟨_,rfl,rfl,?_⟩⟩
    rw [hpp];rfl
   |exit id =>
    refine ⟨_,_,run_endRound (some (.exit id)) hl3,_,S3,_,H', .exit id,hQ',hrl,hst,World.putObj_heap_same hll3, .inr ⟨_,rfl,rfl,?_⟩⟩
    rw [hpp];rfl
   |goto t=>rcases hx with q|⟨c,q⟩ <;> cases q
   |panic ch=>rcases hx with q|⟨c,q⟩ <;> cases q
   |outgrown=>rcases hx with q|⟨c,q⟩ <;> cases q
  |exit id=>exact hq1.elim
  |goto l=>exact hq1.elim
  |ret=>exact hq1.elim
  |panic ch=>exact hq1.elim
  |outgrown=>exact hq1.elim
end
end Go.Proofs.Ytaaogcnjfkgnoaa

