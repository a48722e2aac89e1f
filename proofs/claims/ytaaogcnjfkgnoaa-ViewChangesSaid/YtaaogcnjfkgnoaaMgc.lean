/-
  Texts laid together, part 3 of 7: laws of a walk over data, contracts of functions, each whole by itself.
-/
import Derived.Test.YtaaogcnjfkgnoaaMgb
import Derived.Test.YtaaogcnjfkgnoaaProg
import Derived.KernelRfl
import Derived.Test.YtaaogcnjfkgnoaaMga
import Derived.Lib.Zigzag
import Derived.WalkSmall
import Derived.Test.YtaaogcnjfkgnoaaRows
import Derived.Shelf.Spec.SlicesInsert
import Derived.Lib.AppendZerosOnto
import Derived.Laws.CopyRow
import Derived.RangeFuncLeaves
import Derived.RangeFuncRecord
import Derived.RangeFuncCalls
import Derived.RangeFuncSeq
import Derived.TacticsIn
set_option maxRecDepth 100000
set_option linter.unusedVariables false
set_option linter.unusedSimpArgs false
namespace Go.Proofs.Ytaaogcnjfkgnoaa
open Go.RowKit
def pnK (K : AV → List AObj → Prop) (KP : Value → List AObj → Prop) : AV → List AObj → Prop
 |.iface _ (.held (.inl u)),H=>KP u H
 |d,H=>K d H
theorem zrL {K : AV → List AObj → Prop} {KP : Value → List AObj → Prop} {d : AV} {H : List AObj} {S : SS} {μ : List Value} {v : Value} (h : pnK K KP d H) (hr : rep S μ d v) : K d H := by
 unfold pnK at h
 split at h
 ·exact hr.elim
 ·exact h
def ifv : AV → Option Value
 |.held (.inl u)=>some u
 |.agg cs=>(match znD cs with|some us=>some (.agg us.toArray)|none=>none)
 |_=>none
theorem zuj {d : AV} {u v : Value} {S : SS} {μ : List Value} (h : ifv d = some u) (hr : rep S μ d v) : v = u := by
 unfold ifv at h
 split at h
 ·cases h;exact hr.1
 ·rename_i cs
  split at h
  ·rename_i us hus
   cases h
   obtain ⟨us',rfl,h2⟩ := hr
   have := zeo hus
   subst this
   rw [ziW h2]
  ·cases h
 ·cases h
section
variable {P : Program} {G : Gl} {w : World} {S : SS} {μ : List Value} {H : List AObj} {a : Act} {o : Oper} {K : AV → List AObj → Prop} {KP : Value → List AObj → Prop} {Q : Exit → Act → World → Prop} {T : Tm} {N : FS}
def zoh (w : World) (S : SS) (μ : List Value) (H : List AObj) (a : Act) (KP : Value → List AObj → Prop) (e : Exit) (a' : Act) (w' : World) : Prop :=
 ∃ u H' S' μ',e = .panic [{ v := u,recovered := false }] ∧ a' = a ∧ KP u H' ∧ Rel w' S' μ' H' ∧ Step H.length w S μ H w' S' μ' H'
theorem zt2 {f : FuncId} {args : Array Operand} {ts : Array TypeId} (hrel : Rel w S μ H) (hf : Fr S μ N T a) (hg : GOk G S) (ho : o.op = .call { callee := .value (.func f),args := args,argTypes := ts })
  (h : ACx P G f ((args.toList.map (ev G T)).map (ro H)) H (pnK K KP)) : o.wp P a w (z5l w S μ H a o K) (zoh w S μ H a KP) := by
 unfold Oper.wp
 rw [zjg h.1 ho rfl]
 have hc := h.2 w S μ (args.toList.map a.eval) hrel hg (by rw [List.length_map,List.length_map,List.length_map]) (fun j d v hd hv=>by
  rw [List.getElem?_map,List.getElem?_map] at hd
  rw [List.getElem?_map] at hv
  cases hx : args.toList[j]? with
  |none=>rw [hx] at hd;cases hd
  |some x =>
   rw [hx] at hd hv
   simp only [Option.map_some,Option.some.injEq] at hd hv
   subst hd hv
   exact (hf.ev hg x).toRo hrel)
 have e : (args.toList.map a.eval).toArray = args.map a.eval := by rw [← Array.toList_map,Array.toArray_toList]
 rw [e] at hc
 refine hc.mono fun e w' q=>?_
 rcases q with ⟨v,r,H',S',μ',he,hR,hrel',hrep,hst⟩|⟨u,H',S',μ',he,hR,hrel',hst⟩
 ·subst he
  exact ⟨r,v,H',S',μ',zrL hR hrep,rfl,hrep,hrel',hst,fun q=>by rw [ho] at q;cases q⟩
 ·subst he
  exact ⟨u,H',S',μ',rfl,rfl,hR,hrel',hst⟩
def zly (P : Program) (G : Gl) (x : AV) (args : List AV) (H : List AObj) (K : AV → List AObj → Prop) : Prop :=
 match x with
 |.slice caps [.held (.inl (.func (.func f) _ _)), .held (.inr (.inl (k,_)))]=>ACx P G f ((caps.take k ++ args ++ caps.drop k).map (ro H)) H K
 |_=>False
theorem zpL {t : Tmp} {args : Array Operand} {ts : Array TypeId} (hrel : Rel w S μ H) (hf : Fr S μ N T a) (hg : GOk G S) (ho : o.op = .call { callee := .value (.tmp t),args := args,argTypes := ts })
  (h : zly P G (get T t) (args.toList.map (ev G T)) H (pnK K KP)) : o.wp P a w (z5l w S μ H a o K) (zoh w S μ H a KP) := by
 have hl : loud o.op = true := by rw [ho];rfl
 unfold zly at h
 split at h
 ·rename_i caps f f1 f2 k k2 hT
  have hs := hf.slot t
  rw [hT] at hs
  obtain ⟨us,hu,hul,hur⟩ := hs
  have ht : a.eval (.tmp t) = .func (.func f) (us.take k).toArray (us.drop k).toArray := hu
  unfold Oper.wp
  rw [zgs h.1 ho ht]
  have hrc : ∀ (j : Nat) (d : AV) (v : Value),caps[j]? = some d → us[j]? = some v → rep S μ d v := fun j d v hd hv=>zk5 (hur j d v hd hv)
  have hc := h.2 w S μ (us.take k ++ args.toList.map a.eval ++ us.drop k) hrel hg (by simp [hul]) (fun j d v hd hv=>by
   rw [List.getElem?_map] at hd
   cases hx : (caps.take k ++ args.toList.map (ev G T) ++ caps.drop k)[j]? with
   |none=>rw [hx] at hd;cases hd
   |some x =>
    rw [hx] at hd
    simp only [Option.map_some,Option.some.injEq] at hd
    subst hd
    refine rep.toRo hrel ?_
    have hlt : (us.take k).length = (caps.take k).length := by simp [hul]
    rcases Nat.lt_or_ge j (caps.take k ++ args.toList.map (ev G T)).length with hj|hj
    ·rw [List.getElem?_append_left hj] at hx
     rw [List.getElem?_append_left (by simp only [List.length_append,List.length_map,hlt] at hj ⊢;exact hj)] at hv
     rcases Nat.lt_or_ge j (caps.take k).length with hj2|hj2
     ·rw [List.getElem?_append_left hj2] at hx
      rw [List.getElem?_append_left (by rw [hlt];exact hj2)] at hv
      rw [List.getElem?_take] at hx hv
      split at hx
      ·rw [if_pos (by assumption)] at hv;exact hrc j x v hx hv
      ·cases hx
     ·rw [List.getElem?_append_right hj2] at hx
      rw [List.getElem?_append_right (by rw [hlt];exact hj2),hlt] at hv
      rw [List.getElem?_map] at hx hv
      cases hy : args.toList[j - (caps.take k).length]? with
      |none=>rw [hy] at hx;cases hx
      |some y =>
       rw [hy] at hx hv
       simp only [Option.map_some,Option.some.injEq] at hx hv
       subst hx hv
       exact hf.ev hg y
    ·rw [List.getElem?_append_right hj] at hx
     have hle : (us.take k ++ args.toList.map a.eval).length = (caps.take k ++ args.toList.map (ev G T)).length := by simp [hul]
     rw [List.getElem?_append_right (by rw [hle];exact hj),hle] at hv
     rw [List.getElem?_drop] at hx hv
     exact hrc _ x v hx hv)
  have e : (us.take k ++ args.toList.map a.eval ++ us.drop k).toArray = (us.take k).toArray ++ args.map a.eval ++ (us.drop k).toArray := by
   apply Array.ext'
   simp
  rw [e] at hc
  refine hc.mono fun e w' q=>?_
  rcases q with ⟨v,r,H',S',μ',he,hR,hrel',hrep,hst⟩|⟨u,H',S',μ',he,hR,hrel',hst⟩
  ·subst he
   exact ⟨r,v,H',S',μ',zrL hR hrep,rfl,hrep,hrel',hst,fun q=>by rw [hl] at q;cases q⟩
  ·subst he
   exact ⟨u,H',S',μ',rfl,rfl,hR,hrel',hst⟩
 ·exact h.elim
def zdH (P : Program) (G : Gl) (o : Oper) (s : ASt) (K : AV → List AObj → Prop) (KP : Value → List AObj → Prop) : Prop :=
 match o.op with
 |.panic x=>∃ t v,ev G s.T x = V (.iface t v) ∧ KP (.iface t v) s.H
 |.makeInterface t x=>P.concrete t = true ∧ ∃ u,ifv (ev G s.T x) = some u ∧ K (V (.iface t u)) s.H
 |.call { callee := .value (.func f),args := args,argTypes := _ }=>ACx P G f ((args.toList.map (ev G s.T)).map (ro s.H)) s.H (pnK K KP)
 |.call { callee := .value (.tmp t),args := args,argTypes := _ }=>zly P G (get s.T t) (args.toList.map (ev G s.T)) s.H (pnK K KP)
 |_=>z0w P G o s K
theorem zo3 {s : ASt} (h : zdH P G o s K KP) (hr : Rel w S μ s.H) (hf : Fr S μ N s.T a) (hg : GOk G S) : o.wp P a w (z5l w S μ s.H a o K) (zoh w S μ s.H a KP) := by
 unfold zdH at h
 split at h
 ·rename_i x hx
  obtain ⟨t,v,h1,h2⟩ := h
  have he := hf.ev hg x
  rw [h1] at he
  have he := he.1
  unfold Oper.wp
  have hrun : (execOp a.eval o).run P w = .halt (.panic (.iface t v)) w := by
   unfold execOp
   rw [hx]
   have hp : (Instr.panic (.iface t v)).run P w = .halt (.panic (.iface t v)) w := rfl
   simp [he,hp,Sem.run_bind]
  rw [hrun]
  exact ⟨_,_,_,_,rfl,rfl,h2,hr,Step.refl _ _ _ _ _⟩
 ·rename_i t x hx
  obtain ⟨h1,u,h2,h3⟩ := h
  have he := zuj h2 (hf.ev hg x)
  refine z5C (d := V (.iface t u)) (u := .iface t u) hr ?_ h3 ⟨rfl,rfl⟩
  unfold execOp
  rw [hx]
  have := run_makeInterface (P := P) (w := w) t u h1
  simp [he,Sem.run_bind,this]
 ·rename_i hx;exact zt2 hr hf hg hx h
 ·rename_i hx;exact zpL hr hf hg hx h
 ·exact zeh h hr hf hg _
theorem znz {T T' : Tm} (h : TEq T T') (hs : zdH P G o ⟨H,T'⟩ K KP) : zdH P G o ⟨H,T⟩ K KP := by
 have e : ∀ x,ev G T x = ev G T' x := fun x=>by cases x <;> first|exact h _|rfl
 have e1 : ev G T = ev G T' := funext e
 unfold zdH at hs ⊢
 dsimp only at hs ⊢
 split at hs
 ·rw [e1];exact hs
 ·rw [e1];exact hs
 ·rw [e1];exact hs
 ·rw [e1,h];exact hs
 ·exact zc1 h hs
def zjG (P : Program) (G : Gl) : List Oper → ASt → (ASt → Prop) → (Value → ASt → Prop) → Prop
 |[],s,K,KP=>K s
 |o :: r,s,K,KP=>o.guard = none ∧ zdH P G o s (fun d H=>zjG P G r (s.set H o.dst d) K KP) (fun u H=>KP u ⟨H,s.T⟩)
theorem Oper.wp_both {P : Program} {o : Oper} {a : Act} {w : World} {K K' : Act → World → Prop} {Q Q' : Exit → Act → World → Prop} (hh : o.wp P a w K Q) (h : ∀ a w,K a w → K' a w) (hq : ∀ e a w,Q e a w → Q' e a w) : o.wp P a w K' Q' := by
 unfold Oper.wp at *
 generalize (execOp a.eval o).run P w = r at *
 cases r with
 |ok n w' =>
  cases n <;> simp only [Oper.upon] at hh ⊢ <;>
   first
    |exact h _ _ hh
    |exact Calls.mono hh (fun e w'' he=>by cases e <;> first|exact h _ _ he|exact hq _ _ _ he|(obtain ⟨a1,w1,h1⟩ := he;exact ⟨a1,w1,hq _ _ _ h1⟩))
    |exact Rows.mono hh (fun _ _ he=>h _ _ he)
 |halt x w'=>cases x <;> simp only [Oper.upon] at hh ⊢ <;> first|exact hq _ _ _ hh|(obtain ⟨a1,w1,h1⟩ := hh;exact ⟨a1,w1,hq _ _ _ h1⟩)|exact hh
theorem zl4 {n : Nat} {ops : List Oper} {K : ASt → Prop} {KP : Value → ASt → Prop} {Q : Exit → ASt → Prop} (hK : ∀ s,K s → Q .normal s) (hP : ∀ u s,KP u s → Q (.panic [{ v := u,recovered := false }]) s) {w0 : World} {S0 : SS} {μ0 : List Value} {H0 : List AObj} (hn : n ≤ H0.length) (hl0 : μ0.length = H0.length) : ∀ (l : List Oper) (s : ASt),zjG P G l s K KP → fits N l = true →
  ∀ w S μ a,Rel w S μ s.H → Fr S μ N s.T a → GOk G S → Step n w0 S0 μ0 H0 w S μ s.H → wpList P ops.toArray (Lift N n w0 S0 μ0 H0 Q) l a w
 |[],s,h,_,w,S,μ,a,hr,hf,hg,hs=>⟨s,S,μ,hK s h,hr,hf,hs⟩
 |o :: r,s,h,hfit,w,S,μ,a,hr,hf,hg,hs=>by
  have hfit' := hfit
  simp only [fits,List.all_cons,Bool.and_eq_true] at hfit'
  have hd : ∀ i,o.dst = some i → i < N.n := fun i e=>by have := hfit'.1;rw [e] at this;simpa using this
  obtain ⟨hgd,hstep⟩ := h
  have hn' : n ≤ s.H.length := by
   rcases Nat.lt_or_ge s.H.length n with hlt|hge
   ·have hlm : s.H.length < μ0.length := by omega
    obtain ⟨x',hx',_⟩ := hs.objs s.H.length μ0[s.H.length] hlt (List.getElem?_eq_getElem hlm)
    have := (List.getElem?_eq_some_iff.1 hx').1
    rw [hr.len] at this;omega
   ·exact hge
  unfold wpList
  rw [if_pos (by simp [Region.wanted,hgd])]
  refine .inl ?_
  refine _root_.Go.Proofs.Ytaaogcnjfkgnoaa.Oper.wp_both (zo3 hstep hr hf hg) (fun a' w'=>?_) (fun e a' w'=>?_)
  ·rintro ⟨d,u,H',S',μ',hrest,rfl,hrep,hr',hs',_⟩
   have hst := (hf.ext (hs'.toExt hr)).put o.dst hd hrep
   exact zl4 hK hP hn hl0 r _ hrest hfit'.2 w' S' μ' _ hr' hst (hg.ext hs'.still) (hs.trans (hs'.less hn'))
  ·rintro ⟨u,H',S',μ',rfl,rfl,hk,hr',hs'⟩
   exact ⟨⟨H',s.T⟩,S',μ',hP _ _ hk,hr',hf.ext (hs'.toExt hr),hs.trans (hs'.less hn')⟩
theorem znv {n : Nat} {Q : Exit → ASt → Prop} {s : ASt} {id : Nat} {ops : List Oper} (hfit : fits N ops = true) (hn : n ≤ s.H.length) (h : zjG P G ops s (fun s=>Q .normal s) (fun u s=>Q (.panic [{ v := u,recovered := false }]) s)) : AWp P G N n (.region id ops.toArray false) Q s :=
 fun w S μ a hr hf hg=>wp_region_lit (zl4 (K := fun s=>Q .normal s) (KP := fun u s=>Q (.panic [{ v := u,recovered := false }]) s) (fun s h=>h) (fun u s h=>h) hn hr.len ops s h hfit w S μ a hr hf hg (Step.refl _ _ _ _ _))
end
section
variable {R : Type} {P : Program} {G : Gl} {E : Env} {N : FS} {n : Nat} {o : Oper} {H : List AObj} {T T' : Tm}
def panE (m : RO) (K : AV → List AObj → Option R) (KP : Value → List AObj → Option R) : Option R := match m with
 |some (X,H')=>(match X with|.iface _ (.held (.inl u))=>KP u H'|X=>K X H')
 |none=>none
noncomputable def znA (e : Option Ent) (args : List AV) (H : List AObj) (K : AV → List AObj → Option R) (KP : Value → List AObj → Option R) : Option R :=
 match e with
 |some (.pan g)=>panE (g args H) K KP
 |e=>callE e args H K
theorem zqG {f : FuncId} {args : List AV} {X : AV} {H H0 : List AObj} {Rr : AV → List AObj → Prop} (h : ACx P G f args H (Is X H0)) (k : Rr X H0) : ACx P G f args H Rr :=
 h.mono fun r H' ⟨e1,e2⟩=>by subst e1 e2;exact k
theorem zxX {K : AV → List AObj → Prop} {KP : Value → List AObj → Prop} {d : AV} {H : List AObj} (h : K d H) (hn : ∀ t u,d ≠ .iface t (.held (.inl u))) : pnK K KP d H := by
 unfold pnK
 split
 ·exact (hn _ _ rfl).elim
 ·exact h
theorem AC.pn {f : FuncId} {args : List AV} {H : List AObj} {K : AV → List AObj → Prop} {KP : Value → List AObj → Prop} (h : AC P G f args H K) : ACx P G f args H (pnK K KP) :=
 ⟨h.1,fun w S μ vs hr hg hl hv=>(h.2 w S μ vs hr hg hl hv).mono fun e w' ⟨v,r,H',S',μ',he,hR,hr',hrep,hst⟩ =>
  .inl ⟨v,r,H',S',μ',he,zxX hR (fun t u e=>by subst e;exact hrep.elim),hr',hrep,hst⟩⟩
theorem zn9 (hE : EnvOk P G E) {f : FuncId} {args : List AV} {H : List AObj} {K : AV → List AObj → Option R} {KP : Value → List AObj → Option R} {r : R} (h : znA (findE E f) args H K KP = some r) : ACx P G f args H (pnK (fun d H'=>K d H' = some r) (fun u H'=>KP u H' = some r)) := by
 unfold znA at h
 split at h
 ·rename_i g hg
  unfold panE at h
  split at h
  ·rename_i X H' hx
   refine zqG (hE _ _ (findE_mem hg) _ _ _ _ hx) ?_
   unfold pnK
   split at h
   ·exact h
   ·rename_i hne
    split
    ·exact (hne _ _ rfl).elim
    ·exact h
  ·cases h
 ·exact (zkM hE h).pn
noncomputable def zkU (E : Env) (x : AV) (args : List AV) (H : List AObj) (K : AV → List AObj → Option R) (KP : Value → List AObj → Option R) : Option R :=
 match x with
 |.slice caps [.held (.inl (.func (.func f) _ _)), .held (.inr (.inl (k,_)))]=>znA (findE E f) ((caps.take k ++ args ++ caps.drop k).map (ro H)) H K KP
 |_=>none
def znx (x : AV) (H : List AObj) (KP : Value → List AObj → Option R) : Option R := match x with|.held (.inl (.iface t v))=>KP (.iface t v) H|_=>none
def ifE (t : TypeId) (x : AV) (K : AV → Option R) : Option R := match ifv x with|some u=>K (V (.iface t u))|none=>none
noncomputable def stepP (P : Program) (G : Gl) (E : Env) (o : Oper) (s : ASt) (K : AV → List AObj → Option R) (KP : Value → List AObj → Option R) : Option R :=
 match o.op with
 |.panic x=>znx (ev G s.T x) s.H KP
 |.makeInterface t x=>whenE (P.concrete t) (ifE t (ev G s.T x) fun d=>K d s.H)
 |.call { callee := .value (.func f),args := args,argTypes := _ }=>znA (findE E f) ((args.toList.map (ev G s.T)).map (ro s.H)) s.H K KP
 |.call { callee := .value (.tmp t),args := args,argTypes := _ }=>zkU E (get s.T t) (args.toList.map (ev G s.T)) s.H K KP
 |_=>stepE P G E o s K
theorem ztF (hE : EnvOk P G E) {s : ASt} {K : AV → List AObj → Option R} {KP : Value → List AObj → Option R} {r : R} (h : stepP P G E o s K KP = some r) : zdH P G o s (fun d H'=>K d H' = some r) (fun u H'=>KP u H' = some r) := by
 obtain ⟨dst,op,ty,pos,af,gd⟩ := o
 unfold stepP at h
 unfold zdH
 dsimp only at h ⊢
 split at h
 ·unfold znx at h
  split at h
  ·rename_i t v hv;exact ⟨t,v,hv,h⟩
  ·cases h
 ·obtain ⟨h1,h2⟩ := z03 h
  unfold ifE at h2
  split at h2
  ·rename_i u hu;exact ⟨h1,u,hu,h2⟩
  ·cases h2
 ·exact zn9 hE h
 ·unfold zly
  unfold zkU at h
  split at h
  ·rename_i caps f f1 f2 k k2 hT
   exact zn9 hE h
  ·cases h
 ·exact zgJ hE h
noncomputable def runP (P : Program) (G : Gl) (E : Env) : List Oper → ASt → (ASt → Option R) → (Value → ASt → Option R) → Option R
 |[],s,K,KP=>K s
 |o :: r,s,K,KP=>match o.guard with
  |none=>stepP P G E o s (fun d H=>runP P G E r (s.set H o.dst d) K KP) (fun u H=>KP u ⟨H,s.T⟩)
  |some _=>none
def AftP (KP : Value → ASt → Option R) (r : R) (u : Value) (s1 : ASt) : Prop := ∃ T2,TEq s1.T T2 ∧ KP u ⟨s1.H,T2⟩ = some r
theorem zit {s : ASt} {K K' : AV → List AObj → Prop} {KP KP' : Value → List AObj → Prop} (q1 : ∀ d H,K d H → K' d H) (q2 : ∀ u H,KP u H → KP' u H) (h : zdH P G o s K KP) : zdH P G o s K' KP' := by
 have pk : ∀ d H,pnK K KP d H → pnK K' KP' d H := by
  intro d H h
  unfold pnK at h ⊢
  split at h
  ·exact q2 _ _ h
  ·exact q1 _ _ h
 unfold zdH at h ⊢
 split at h
 ·obtain ⟨t,v,h1,h2⟩ := h;exact ⟨t,v,h1,q2 _ _ h2⟩
 ·obtain ⟨h1,u,h2,h3⟩ := h;exact ⟨h1,u,h2,q1 _ _ h3⟩
 ·exact h.mono pk
 ·unfold zly at h ⊢
  split at h
  ·exact h.mono pk
  ·exact h.elim
 ·exact z6k q1 h
theorem zj4 {K K' : ASt → Prop} {KP KP' : Value → ASt → Prop} (q1 : ∀ s,K s → K' s) (q2 : ∀ u s,KP u s → KP' u s) : ∀ {l : List Oper} {s : ASt},zjG P G l s K KP → zjG P G l s K' KP'
 |[],s,h=>q1 s h
 |o :: l,s,h=>⟨h.1,zit (fun d H q=>zj4 q1 q2 q) (fun u H q=>q2 u _ q) h.2⟩
theorem zqM (hE : EnvOk P G E) {K : ASt → Option R} {KP : Value → ASt → Option R} {r : R} : ∀ {l : List Oper} {H : List AObj} {T T' : Tm},TEq T T' → runP P G E l ⟨H,T'⟩ K KP = some r → zjG P G l ⟨H,T⟩ (Aft K r) (AftP KP r)
 |[],H,T,T',ht,h=>⟨T',ht,h⟩
 |o :: l,H,T,T',ht,h=>by
  unfold runP at h
  split at h
  ·rename_i hg
   refine ⟨hg,znz ht (zit (fun d H' q=>?_) (fun u H' q=>?_) (ztF hE h))⟩
   ·exact zqM hE (ht.set H H H' o.dst d) q
   ·exact ⟨T',ht,q⟩
  ·cases h
def isPan : Nat × Ent → Bool|(_, .pan _)=>true|_=>false
def noGd (o : Oper) : Bool := match o.guard with|none=>true|some _=>false
def panQ (E : Env) (ops : List Oper) : Bool := E.any isPan && ops.all noGd
abbrev pch (u : Value) : List PanicEntry := [{ v := u,recovered := false }]
end
end Go.Proofs.Ytaaogcnjfkgnoaa

namespace Go.Proofs.Ytaaogcnjfkgnoaa
open Go.RowKit
section
variable {R : Type} {P : Program} {G : Gl} {E : Env} {N : FS} {n : Nat} {o : Oper} {H : List AObj} {T T' : Tm}
theorem ztI (hE : EnvOk P G E) {s : ASt} {K : AV → List AObj → Option R} {r : R} (hq : loud o.op = false ∨ ∃ f ags ts,o.op = .call { callee := .value (.func f),args := ags,argTypes := ts }) (h : stepX P G E true o s K = some r) :
  stepD P G o s fun d=>K d s.H = some r := by
 obtain ⟨dst,op,ty,pos,af,gd⟩ := o
 unfold stepX at h
 unfold stepD
 dsimp only at h ⊢ hq
 split at h
 ·exact zqB hE h
 ·rename_i hne
  have hl : loud op = false := by
   rcases hq with hq|⟨f,ags,ts,e⟩
   ·exact hq
   ·exact absurd e (hne f ags ts)
  have fin : loud op = false ∧ z0w P G ⟨dst,op,ty,pos,af,gd⟩ s (fun d H'=>H' = s.H ∧ K d s.H = some r) := by
   refine ⟨hl,z6k (fun d H q=>?_) (zmw hl (zgJ hE h))⟩
   obtain ⟨e,q⟩ := q
   subst e
   exact ⟨rfl,q⟩
  first
  |exact fin
  |split
   ·exact (hne _ _ _ rfl).elim
   ·exact fin
theorem zt4 {S : Type} {ob : AObj} {k o : Nat} {x : AV} {K : AObj → Option R} {r : R} (h : putE ob k o x K = some r) : ∃ ob',(∀ (K' : AObj → Option S),putE ob k o x K' = K' ob') ∧ K ob' = some r := by
 obtain ⟨kk,te,z,c⟩ := ob
 unfold putE at h
 obtain ⟨h1,h2⟩ := z03 h
 dsimp only at h2
 split at h2
 ·obtain ⟨h3,h4⟩ := z03 h2
  exact ⟨_,fun K'=>by unfold putE;rw [h1,zbO];dsimp only;rw [h3,zbO];rfl,h4⟩
 ·obtain ⟨h3,h4⟩ := z03 h2
  exact ⟨_,fun K'=>by unfold putE;rw [h1,zbO];dsimp only;rw [h3,zbO];rfl,h4⟩
 ·cases h2
theorem zox {k : Nat} {H : List AObj} {a x : AV} {K : List AObj → Option R} {r : R} (h : z1e k H a x K = some r) : ∃ H',z1e k H a x some = some H' ∧ K H' = some r := by
 unfold z1e at h ⊢
 split at h
 ·unfold nthOE at h ⊢
  split at h
  ·rename_i ob hob
   obtain ⟨ob',h1,h2⟩ := zt4 (S := List AObj) h
   exact ⟨_,h1 _,h2⟩
  ·cases h
 ·cases h
theorem zoM {S : Type} {H : List AObj} {x : AV} {K : List AV → Option R} {r : R} (h : zbx H x K = some r) : ∃ es,(∀ (K' : List AV → Option S),zbx H x K' = K' es) ∧ K es = some r := by
 unfold zbx at h
 split at h
 ·exact ⟨_,fun K'=>rfl,h⟩
 ·unfold nthOE at h
  split at h
  ·rename_i ob hob
   obtain ⟨h1,h2⟩ := z03 h
   refine ⟨_,fun K'=>?_,h2⟩
   simp only [zbx,nthOE,hob,h1,whenE]
  ·cases h
 ·exact ⟨_,fun K'=>rfl,h⟩
 ·exact ⟨_,fun K'=>rfl,h⟩
 ·cases h
theorem zoI {at_ : Option (TypeId × Nat)} {H : List AObj} {x y : AV} {K : AV → List AObj → Option R} {r : R} (h : appE at_ H x y K = some r) : ∃ d H',appE at_ H x y (fun d H=>some (d,H)) = some (d,H') ∧ K d H' = some r := by
 unfold appE at h ⊢
 split at h
 ·rename_i e z
  obtain ⟨es,e1,h⟩ := zoM (S := AV × List AObj) h
  obtain ⟨h1,h⟩ := z03 h
  split at h
  ·obtain ⟨h2,h⟩ := z03 h
   refine ⟨_,_,?_,h⟩
   show zbx _ _ _ = _
   rw [e1]
   show whenE _ _ = _
   rw [h1,zbO]
   show whenE _ _ = _
   rw [h2];rfl
  ·obtain ⟨h2,h⟩ := z03 h
   refine ⟨_,_,?_,h⟩
   show zbx _ _ _ = _
   rw [e1]
   show whenE _ _ = _
   rw [h1,zbO]
   show whenE _ _ = _
   rw [h2];rfl
  ·unfold nthOE at h
   split at h
   ·rename_i ob hob
    obtain ⟨h2,h⟩ := z03 h
    refine ⟨_,_,?_,h⟩
    show zbx _ _ _ = _
    rw [e1]
    show whenE _ _ = _
    rw [h1,zbO]
    show nthOE _ _ _ = _
    unfold nthOE
    rw [hob]
    show whenE _ _ = _
    rw [h2];rfl
   ·cases h
  ·cases h
 ·cases h
theorem zpT {same isS : Bool} {at_ : Option (TypeId × Nat)} {H : List AObj} {x y : AV} {K : AV → List AObj → Option R} {r : R} (h : appQE same isS at_ H x y K = some r) : ∃ d H',appQE same isS at_ H x y (fun d H=>some (d,H)) = some (d,H') ∧ K d H' = some r := by
 cases same with
 |true=>exact zoI h
 |false =>
  obtain ⟨h1,h2⟩ := z03 (show whenE isS (appSE at_ H x y K) = some r from h)
  unfold appSE at h2
  split at h2
  ·obtain ⟨d,H',h3,h4⟩ := zoI h2
   exact ⟨d,H',by show whenE _ _ = _;rw [h1];exact h3,h4⟩
  ·cases h2
theorem zqP {mx : Bool} {x y : AV} {H : List AObj} {K : AV → List AObj → Option R} {r : R} (h : mmE mx x y (fun d=>K d H) = some r) : ∃ d,mmE mx x y (fun d=>some (d,H)) = some (d,H) ∧ K d H = some r := by
 unfold mmE at h ⊢
 split at h
 ·obtain ⟨h1,h2⟩ := z03 h
  exact ⟨_,by rw [h1,zbO],h2⟩
 ·cases h
theorem zkx {e : Option Ent} {args : List AV} {H : List AObj} {K : AV → List AObj → Option R} {r : R} (h : callE e args H K = some r) : ∃ d H',callE e args H (fun d H=>some (d,H)) = some (d,H') ∧ K d H' = some r := by
 unfold callE at h ⊢
 split at h
 ·unfold tellE at h ⊢
  obtain ⟨h1,h⟩ := z03 h
  split at h
  ·rename_i X H' hx
   refine ⟨X,H,?_,h⟩
   rw [h1,zbO]
  ·cases h
 ·unfold keepE at h ⊢
  split at h
  ·rename_i X H' hx
   exact ⟨X,H',rfl,h⟩
  ·cases h
 ·unfold addE at h ⊢
  split at h
  ·rename_i X Y hx
   exact ⟨X,H ++ Y,rfl,h⟩
  ·cases h
 ·cases h
theorem zqh (hE : EnvOk P G E) {o : Oper} {s : ASt} (hw : 1 < clsO (kcE E) o.op) {K : AV → List AObj → Option R} {r : R} (h : stepE P G E o s K = some r) : ∃ d H',z0w P G o s (fun d' Hk=>d' = d ∧ Hk = H') ∧ K d H' = some r := by
 have fin : ∀ d H',stepE P G E o s (fun d H=>some (d,H)) = some (d,H') → z0w P G o s (fun d' Hk=>d' = d ∧ Hk = H') := fun d H' q =>
  z6k (fun d' Hk e=>by injection e with e;injection e with e1 e2;exact ⟨e1,e2⟩) (zgJ hE q)
 obtain ⟨dst,op,ty,pos,af,gd⟩ := o
 unfold stepE at h fin
 dsimp only at h fin hw
 split at h <;> try (simp [clsO,loud] at hw;done)
 ·rename_i t x
  obtain ⟨h1,h2⟩ := z03 h
  refine ⟨_,_,fin _ _ ?_,h2⟩
  show whenE _ _ = _
  rw [h1];rfl
 ·rename_i t x y
  obtain ⟨H',h1,h2⟩ := zox h
  refine ⟨.nil,H',?_,h2⟩
  have : z0w P G ⟨dst, .store t x y,ty,pos,af,gd⟩ s (fun d' Hk=>d' = .nil ∧ Hk = H') := by
   unfold z0w
   exact zjW (fun Hk e=>⟨rfl,by injection e⟩) (znc h1)
  exact this
 ·obtain ⟨d,H',h1,h2⟩ := zkx h
  exact ⟨d,H',fin d H' h1,h2⟩
 ·obtain ⟨h1,h2⟩ := z03 h
  refine ⟨_,_,fin _ _ ?_,h2⟩
  show whenE _ _ = _
  rw [h1];rfl
 ·rename_i t args ts
  unfold zec at h
  split at h
  ·rename_i caps f k hv
   obtain ⟨d,H',h1,h2⟩ := zkx h
   refine ⟨d,H',fin d H' ?_,h2⟩
   show zec _ _ _ _ _ = _
   unfold zec
   rw [hv]
   exact h1
  ·rename_i f hv
   obtain ⟨d,H',h1,h2⟩ := zkx h
   refine ⟨d,H',fin d H' ?_,h2⟩
   show zec _ _ _ _ _ = _
   unfold zec
   rw [hv]
   exact h1
  ·cases h
 ·obtain ⟨d,H',h3,h4⟩ := zpT h
  exact ⟨d,H',fin d H' h3,h4⟩
 ·obtain ⟨r',e1,e2⟩ := zqP h
  exact ⟨_,_,fin _ _ e1,e2⟩
 ·obtain ⟨r',e1,e2⟩ := zqP h
  exact ⟨_,_,fin _ _ e1,e2⟩
 ·obtain ⟨H',h1,h2⟩ := zoj h
  refine ⟨.nil,H',?_,h2⟩
  unfold z0w
  exact ⟨H',h1,rfl,rfl⟩
 ·rename_i t
  unfold makeE at h
  split at h
  ·rename_i k e hk
   refine ⟨_,_,fin _ _ ?_,h⟩
   show makeE _ _ _ = _
   rw [hk];rfl
  ·cases h
 ·cases h
theorem zqm {kc : KC} {op : Op} (h : clsO kc op = 0) : loud op = false ∨ ∃ f ags ts,op = .call { callee := .value (.func f),args := ags,argTypes := ts } := by
 unfold clsO at h
 split at h
 ·cases h
 ·exact .inr ⟨_,_,_,rfl⟩
 ·split at h
  ·cases h
  ·rename_i hl;exact .inl (by simpa using hl)
theorem zqv (hE : EnvOk P G E) {o : Oper} {s : ASt} {K : AV → List AObj → Option R} {r : R} (h : stepA P G E o s K = some r) : ∃ d Y,z0w P G o s (fun d' Hk=>d' = d ∧ Hk = s.H ++ Y) ∧ K d Y = some r := by
 obtain ⟨dst,op,ty,pos,af,gd⟩ := o
 unfold stepA at h
 unfold z0w
 dsimp only at h ⊢
 split at h
 ·rename_i t
  split at h
  ·rename_i c hc
   refine ⟨_,_,?_,h⟩
   dsimp only
   rw [hc]
   exact ⟨rfl,rfl⟩
  ·cases h
 ·rename_i f args ts
  split at h
  ·rename_i g hg
   split at h
   ·rename_i X Y hx
    exact ⟨X,Y,zkw (hE _ _ (findE_mem hg) _ _ _ _ hx) ⟨rfl,rfl⟩,h⟩
   ·cases h
  ·cases h
 ·cases h
theorem zdp (hE : EnvOk P G E) {ops : List Oper} {K : ASt → Option R} {r : R} : ∀ {l : List Oper} {sk : List Nat} {acc : List (List AObj)} {old : List (Nat × List AObj)} {opn : List OpI} {H : List AObj} {T T' : Tm},TEq T T' → SkOk sk T → runD P G E ops sk acc old opn l ⟨H,T'⟩ K = some r → drawY P G (kcE E) ops acc old opn l ⟨H,T⟩ (Aft K r)
 |[],sk,acc,old,opn,H,T,T',ht,hk,h=>⟨T',ht,h⟩
 |o :: l,sk,acc,old,opn,H,T,T',ht,hk,h=>by
  unfold runD at h
  unfold drawY
  have step : ∀ {H0 : List AObj} {T T' : Tm},clsO (kcE E) o.op = 0 → TEq T T' → SkOk sk T → stepX P G E true o ⟨H0,T'⟩ (fun d _=>runD P G E ops (skO sk o.dst) (acc ++ [H]) old opn l (ASt.set ⟨H,T'⟩ H o.dst d) K) = some r → stepD P G o ⟨H0,T⟩ fun d=>drawY P G (kcE E) ops (acc ++ [H]) old opn l (ASt.set ⟨H,T⟩ H o.dst d) (Aft K r) := fun hc ht hk h =>
   zqd ht (zlD (fun d q=>zdp hE (ht.set H H H o.dst d) (hk.out H H o.dst d) q) (ztI hE (zqm hc) h))
  split at h
  ·rename_i hc
   rw [if_pos hc]
   have go : ∀ {T T' : Tm},TEq T T' → SkOk sk T → (match openA (freeI (kcE E) ops (ancs ops []) acc.length) o with
    |some (t2,x)=>loadE (kindT P t2) H (ev G T' x) fun d=>oldE (loI (kcE E) ops (ancs ops []) acc.length) (kindT P t2) (ev G T' x) d old (runD P G E ops (skO sk o.dst) (acc ++ [H]) old ((acc.length,kindT P t2,ev G T' x,d) :: opn) l (ASt.set ⟨H,T'⟩ H o.dst d) K)
    |none=>stepX P G E true o ⟨lowH (kcE E) ops (ancs ops []) (acc ++ [H]) acc.length,T'⟩ fun d _=>runD P G E ops (skO sk o.dst) (acc ++ [H]) old opn l (ASt.set ⟨H,T'⟩ H o.dst d) K) = some r → (match openA (freeI (kcE E) ops (ancs ops []) acc.length) o with
    |some (t2,x)=>aLoad (kindT P t2) H (ev G T x) fun d=>(∀ p ∈ old,loI (kcE E) ops (ancs ops []) acc.length ≤ p.1 → openF p.2 (kindT P t2,ev G T x,d)) ∧ drawY P G (kcE E) ops (acc ++ [H]) old ((acc.length,kindT P t2,ev G T x,d) :: opn) l (ASt.set ⟨H,T⟩ H o.dst d) (Aft K r)
    |none=>stepD P G o ⟨lowH (kcE E) ops (ancs ops []) (acc ++ [H]) acc.length,T⟩ fun d=>drawY P G (kcE E) ops (acc ++ [H]) old opn l (ASt.set ⟨H,T⟩ H o.dst d) (Aft K r)) := fun {T T'} ht hk h=>by
    cases hop : openA (freeI (kcE E) ops (ancs ops []) acc.length) o with
    |some p =>
     obtain ⟨t,x⟩ := p
     rw [hop] at h
     have hev : ev G T x = ev G T' x := by cases x <;> first|exact ht _|rfl
     show aLoad (kindT P t) H (ev G T x) _
     rw [hev]
     refine zbz (fun d q=>?_) (zje h)
     obtain ⟨q1,q2⟩ := oldE_some q
     refine ⟨q1,?_⟩
     exact zdp hE (ht.set H H H o.dst d) (hk.out H H o.dst d) q2
    |none =>
     rw [hop] at h
     exact step hc ht hk h
   split at h
   ·rename_i hg
    try rw [hg]
    exact go ht hk h
   ·rename_i j want hg
    try rw [hg]
    try dsimp only
    split at h
    rotate_left
    ·cases h
    rename_i t hd
    try rw [hd]
    try dsimp only
    split at h
    ·rename_i hc2
     rw [show get T t = UD from hk t (by simpa using hc2)]
     exact zdp hE (ht.set H H H o.dst UD) (hk.skip H H o.dst) h
    rcases zdS h with ⟨h1,h2⟩|⟨h1,h2⟩
    ·rw [show get T t = V (.bool true) from (ht t).trans h1]
     cases want with
     |true=>exact ⟨fun _=>go (ht.lit ((ht t).trans h1)) hk h2,fun q=>by cases q⟩
     |false=>exact ⟨fun q=>(by cases q),fun _=>zdp hE ((ht.lit ((ht t).trans h1)).set H H H o.dst UD) (hk.skip H H o.dst) h2⟩
    ·rw [show get T t = V (.bool false) from (ht t).trans h1]
     cases want with
     |false=>exact ⟨fun _=>go (ht.lit ((ht t).trans h1)) hk h2,fun q=>by cases q⟩
     |true=>exact ⟨fun q=>(by cases q),fun _=>zdp hE ((ht.lit ((ht t).trans h1)).set H H H o.dst UD) (hk.skip H H o.dst) h2⟩
  ·rename_i hc
   rw [if_neg (by omega)]
   split at h
   ·rename_i hg
    try rw [hg]
    obtain ⟨d,Y,h1,h2⟩ := zqv hE h
    obtain ⟨h3,h4⟩ := zkz h2
    exact ⟨d,H ++ Y,zc1 ht h1,fun _=>⟨Y,rfl⟩,h3,zdp hE (ht.set H H (H ++ Y) o.dst d) (hk.out H (H ++ Y) o.dst d) h4⟩
   ·cases h
  ·rename_i hn0 hn1
   rw [if_neg hn0]
   have step2 : ∀ {T T' : Tm},TEq T T' → SkOk sk T → stepE P G E o ⟨H,T'⟩ (fun d H'=>opnE H' (liveO (ancs ops []) acc.length opn) (runD P G E ops (skO sk o.dst) (acc ++ [H]) ((acc.length,H) :: old) (liveO (ancs ops []) acc.length opn) l (ASt.set ⟨H,T'⟩ H' o.dst d) K)) = some r → ∃ v H',z0w P G o ⟨H,T⟩ (fun d Hk=>d = v ∧ Hk = H') ∧ (clsO (kcE E) o.op = 1 → ∃ X,H' = H ++ X) ∧ (∀ x ∈ (liveO (ancs ops []) acc.length opn),openF H' x.2) ∧ drawY P G (kcE E) ops (acc ++ [H]) ((acc.length,H) :: old) (liveO (ancs ops []) acc.length opn) l (ASt.set ⟨H,T⟩ H' o.dst v) (Aft K r) := fun ht hk h=>by
    obtain ⟨d,H',h1,h2⟩ := zqh hE (Nat.lt_of_le_of_ne (Nat.pos_of_ne_zero hn0) (Ne.symm hn1)) h
    obtain ⟨h3,h4⟩ := zkz h2
    exact ⟨d,H',zc1 ht h1,fun q=>absurd q hn1,h3,zdp hE (ht.set H H H' o.dst d) (hk.out H H' o.dst d) h4⟩
   split at h
   ·rename_i hg
    try rw [hg]
    exact step2 ht hk h
   ·rename_i j want hg
    try rw [hg]
    try dsimp only
    split at h
    rotate_left
    ·cases h
    rename_i t hd
    try rw [hd]
    try dsimp only
    split at h
    ·rename_i hc2
     rw [show get T t = UD from hk t (by simpa using hc2)]
     exact zdp hE (ht.set H H H o.dst UD) (hk.skip H H o.dst) h
    rcases zdS h with ⟨h1,h2⟩|⟨h1,h2⟩
    ·rw [show get T t = V (.bool true) from (ht t).trans h1]
     cases want with
     |true=>exact ⟨fun _=>step2 (ht.lit ((ht t).trans h1)) hk h2,fun q=>by cases q⟩
     |false=>exact ⟨fun q=>(by cases q),fun _=>zdp hE ((ht.lit ((ht t).trans h1)).set H H H o.dst UD) (hk.skip H H o.dst) h2⟩
    ·rw [show get T t = V (.bool false) from (ht t).trans h1]
     cases want with
     |false=>exact ⟨fun _=>step2 (ht.lit ((ht t).trans h1)) hk h2,fun q=>by cases q⟩
     |true=>exact ⟨fun q=>(by cases q),fun _=>zdp hE ((ht.lit ((ht t).trans h1)).set H H H o.dst UD) (hk.skip H H o.dst) h2⟩
inductive Hint
 |n
 |two (a b : Hint)
 |one (a : Hint)
 |join (L : List Nat) (a b : Hint)
 |lp (rows : List (Nat × TypeId × Nat)) (L Lo : List Nat) (a : Hint)
 |gh (g : Nat × Nat × TypeId × Nat) (L : List Nat) (a b : Hint)
def Hint.l : Hint → Hint|.two a _=>a|.join _ a _=>a|.gh _ _ a _=>a|h=>h
def Hint.r : Hint → Hint|.two _ b=>b|.join _ _ b=>b|.gh _ _ _ b=>b|h=>h
def Hint.J : Hint → Option (List Nat)|.join L _ _=>some L|.gh _ L _ _=>some L|_=>none
def Hint.gho : Hint → Option (Nat × Nat × TypeId × Nat)|.gh g _ _ _=>some g|_=>none
theorem Hint.gho_none {h : Hint} (hj : h.J = none) : h.gho = none := by
 cases h <;> first|rfl|cases hj
def Hint.c : Hint → Hint|.one a=>a|.lp _ _ _ a=>a|h=>h
def Hint.rows : Hint → List (Nat × TypeId × Nat)|.lp r _ _ _=>r|_=>[]
def Hint.L : Hint → List Nat|.lp _ l _ _=>l|_=>[]
def Hint.Lo : Hint → List Nat|.lp _ _ l _=>l|_=>[]
def keepT (L : List Nat) (T : Tm) : Tm := match L with
 |[]=>[]
 |i :: r=>(i,get T i) :: keepT r T
def litC (c : Operand) (b : Bool) (T : Tm) : Tm := match c with|.tmp t=>(t,V (.bool b)) :: T|_=>T
abbrev KO (R : Type) := Exit → ASt → Option R
def rowE (x : AV) (e : TypeId) (z : Nat) (H : List AObj) (K : AV → List AObj → Option R) : Option R := match x with
 |.held (.inl (.slice none 0 0))=>K (OW H.length 0) (H ++ [⟨2,e,z,[]⟩])
 |x=>K x H
def rowsE : List (Nat × TypeId × Nat) → ASt → (ASt → Option R) → Option R
 |[],s,K=>K s
 |(i,e,z) :: r,s,K=>rowE (get s.T i) e z s.H fun d H=>rowsE r ⟨H,(i,d) :: s.T⟩ K
def iterC : Nat → (ASt → (ASt → Option R) → KO R → Option R) → ASt → KO R → Option R
 |0,_,_,_=>none
 |m + 1,B,s,kx=>B s (fun s'=>iterC m B s' kx) kx
def trimE (n0 : Nat) (L : List Nat) (s : ASt) (kc : ASt → Option R) : Option R :=
 whenE (decide (n0 ≤ s.H.length) && (s.H.take n0).all (ltO n0) && L.all fun i=>ltT n0 (get s.T i)) (kc ⟨s.H.take n0,keepT L s.T⟩)
def backK (n0 : Nat) (L Lo : List Nat) (kc : ASt → Option R) (kx : KO R) : KO R := fun e s=>match e with|.normal=>trimE n0 L s kc|e=>kx e ⟨s.H,keepT Lo s.T⟩
def backE (n0 : Nat) (H : List AObj) (L : Tm) (kc : ASt → Option R) : Option R :=
 whenE (decide (n0 ≤ H.length) && (H.take n0).all (ltO n0) && L.all fun p=>ltT n0 p.2) (kc ⟨H.take n0,L⟩)
def joinS (J : Option (List Nat)) (s : ASt) : ASt := match J with|none=>s|some L=>⟨s.H,keepT L s.T⟩
def ghS (i off : Nat) (e : TypeId) (z : Nat) (s : ASt) : ASt := match get s.T i with
 |.held (.inr (.inl (j,0)))=>match s.H[j]? with
  |some ob=>match ob.k,ob.c[off]? with
   |1,some (.held (.inl (.slice none 0 0)))=>⟨s.H.set j { ob with c := ob.c.set off (OW s.H.length 0) } ++ [⟨2,e,z,[]⟩],s.T⟩
   |_,_=>s
  |none=>s
 |_=>s
def ghJ (g : Option (Nat × Nat × TypeId × Nat)) (s : ASt) : ASt := match g with|none=>s|some q=>ghS q.1 q.2.1 q.2.2.1 q.2.2.2 s
def cdL : Code → Code|.seq a _=>a|.cond _ a _=>a|.block _ a=>a|.loop a=>a|c=>c
def cdR : Code → Code|.seq _ b=>b|.cond _ _ b=>b|c=>c
def zno (kc : KC) (N : Nat) (ops : List Oper) : Bool := zaZ ops.toArray && tailY kc ops N && ztq ops
noncomputable def exec (P : Program) (G : Gl) (E : Env) (M : Nat) (N : FS) : Code → Hint → ASt → KO R → Option R
 |.skip,h,s,k=>k .normal s
 |.region id ops draw,h,s,k=>match draw with
  |true=>whenE (zno (kcE E) N ops.toList) (runD P G E ops.toList [] [] [] [] ops.toList s fun s=>k .normal s)
  |false=>whenE (fits N ops.toList) (match panQ E ops.toList with
   |true=>runP P G E ops.toList s (fun s=>k .normal s) (fun u s=>k (.panic (pch u)) s)
   |false=>runE P G E false ops.toList [] ops.toList s fun s=>k .normal s)
 |.seq a b,h,s,k=>exec P G E M N a h.l s (fun e s'=>match e with|.normal=>exec P G E M N b h.r (ghJ h.gho (joinS h.J s')) k|e=>k e s')
 |.cond c x y,h,s,k=>condE (ev G s.T c) (exec P G E M N x h.l ⟨s.H,litC c true s.T⟩ k) (exec P G E M N y h.r ⟨s.H,litC c false s.T⟩ k)
 |.block id c,h,s,k=>exec P G E M N c h.c s (fun e s'=>match e with|.exit i=>(match Nat.beq i id with|true=>k .normal s'|false=>k (.exit i) s')|e=>k e s')
 |.loop c,h,s,k=>rowsE h.rows s fun s=>iterC M (fun s kc kx=>exec P G E M N c h.c s (backK s.H.length h.L h.Lo kc kx)) ⟨s.H,keepT h.L s.T⟩ k
 |.exit id,h,s,k=>k (.exit id) s
 |.ret,h,s,k=>k .ret s
 |_,_,_,_=>none
end
end Go.Proofs.Ytaaogcnjfkgnoaa

namespace Go.Proofs.Ytaaogcnjfkgnoaa
open Go.RowKit
def fzO (H : List AObj) (i n : Nat) : Option (List AV) := match H[i]? with
 |some o=>if o.k = 4 ∧ n = o.c.length ∧ o.c.all (ltA 0) = true then some o.c else none
 |none=>none
def fz1 (H : List AObj) (d : AV) : AV := match d with
 |.slice _ [.held (.inr (.inl (i,n)))]=>(match fzO H i n with|some c=>SL c|none=>d)
 |d=>d
def fzA (H : List AObj) : AV → AV
 |.agg cs=>.agg (cs.map (fz1 H))
 |d=>fz1 H d
def fzV (H : List AObj) : AV → AV
 |.iface s (.agg ds)=>.iface s (.agg (ds.map (fzA H)))
 |d=>fzA H d
theorem zwa {H : List AObj} {d : AV} (h : lt1 0 d = true) : fz1 H d = d := by
 unfold fz1
 split
 ·simp [lt1] at h
 ·rfl
theorem zuw {H : List AObj} {d : AV} (h : ltA 0 d = true) : fzA H d = d := by
 unfold fzA
 split
 ·rename_i cs
  have : cs.map (fz1 H) = cs.map id := List.map_congr_left fun x hx=>zwa (List.all_eq_true.1 h x hx)
  rw [this,List.map_id]
 ·rename_i hne
  refine zwa ?_
  unfold ltA at h
  split at h
  ·rename_i cs;exact absurd rfl (hne cs)
  ·exact h
theorem zyu {H : List AObj} {d : AV} (h : ltT 0 d = true) : fzV H d = d := by
 unfold fzV
 split
 ·rename_i s ds
  have : ds.map (fzA H) = ds.map id := List.map_congr_left fun x hx=>zuw (List.all_eq_true.1 h x hx)
  rw [this,List.map_id]
 ·rename_i hne
  refine zuw ?_
  unfold ltT at h
  split at h
  ·rename_i s ds;exact absurd rfl (hne s ds)
  ·exact h
def fzH (o : AObj) : AObj := if o.k = 4 ∧ o.c.all (ltA 0) = true then ⟨0,o.e,o.z,o.c⟩ else o
theorem zsn {n : Nat} {e y : AV} (h : ltA n e = true) (hy : y ∈ cellsOf e) : lt1 n y = true := by
 unfold ltA at h
 split at h
 ·exact List.all_eq_true.1 h y hy
 ·rename_i hne
  have : cellsOf e = [e] := zee hne
  rw [this] at hy
  rw [List.mem_singleton.1 hy];exact h
section
variable {w : World} {S : SS} {μ : List Value} {H : List AObj}
def frS (S : SS) (μ : List Value) (H : List AObj) : SS := fun b j d=>S b j d ∨ ∃ (i : Nat) (o : AObj) (x : Value),H[i]? = some o ∧ o.k = 4 ∧ o.c.all (ltA 0) = true ∧ μ[i]? = some x ∧ blkOf x = some b ∧ (flat o.c)[j]? = some d
theorem zoZ : Ext S μ (frS S μ H) μ := ⟨fun _ _ _ h=>.inl h,fun i x h=>⟨x,h, .inl rfl⟩⟩
theorem zlz {i : Nat} {o' : AObj} (h : (H.map fzH)[i]? = some o') (hk : o'.k ≠ 0) : H[i]? = some o' ∧ ¬ (o'.k = 4 ∧ o'.c.all (ltA 0) = true) := by
 rw [List.getElem?_map] at h
 obtain ⟨o,ho,rfl⟩ := Option.map_eq_some_iff.1 h
 unfold fzH at hk ⊢
 split
 ·rename_i hc
  rw [if_pos hc] at hk
  exact absurd rfl hk
 ·rename_i hc
  exact ⟨ho,hc⟩
theorem row4 (hr : Rel w S μ H) {i : Nat} {x : Value} {o : AObj} {b : Nat} (hx : μ[i]? = some x) (ho : H[i]? = some o) (hk : o.k = 4) (hb : blkOf x = some b) : ∃ c cs,x = MR (some ⟨b,0,none⟩) o.c.length c ∧ o.c.length ≤ c ∧ c ≤ maxLen ∧ c ≠ 0 ∧ allC o.z o.c ∧ w.heap[b]? = some (.cells cs o.e (0,0)) ∧ cs.size = c * o.z ∧ reps S μ (flat o.c) (cs.toList.take (o.c.length * o.z)) := by
 obtain ⟨A,c,rfl,h1,h2,h3,h4⟩ := (hr.objs i x o hx ho).2.2.1 hk
 have hc0 : c ≠ 0 := by
  intro e;subst e
  cases A <;> simp [blkOf] at hb
 obtain ⟨b',cs,rfl,h5,h6,h7⟩ := h4 hc0
 simp only [blkOf,if_neg hc0,Option.some.injEq] at hb
 subst hb
 exact ⟨c,cs,rfl,h1,h2,hc0,h3,h5,h6,h7⟩
theorem Rel.freeze (hr : Rel w S μ H) : Rel w (frS S μ H) μ (H.map fzH) := by
 refine ⟨by simp [hr.len],fun b j d hs=>?_,fun i x o hx ho=>?_,fun i x o hx ho=>?_,fun i i' x x' o o' b hx ho hk hb hx' ho' hk' hb'=>?_,fun i x o b hx ho hk hb j d hs=>?_⟩
 ·rcases hs with hs|⟨i,o,x,ho,hk,hlt,hx,hb,hd⟩
  ·obtain ⟨u,h1,h2,h3⟩ := hr.still b j d hs
   exact ⟨u,h1,h2,h3.ext ⟨fun _ _ _ h=>.inl h,fun i x hx=>by simp at hx⟩⟩
  ·obtain ⟨c,cs,_,h1,h2,hc0,hall,hh,hsz,hrp⟩ := row4 hr hx ho hk hb
   have hjl := (List.getElem?_eq_some_iff.1 hd).1
   have hfl := z58 hall
   have hju : j < (cs.toList.take (o.c.length * o.z)).length := by rw [hrp.1];exact hjl
   obtain ⟨h3,h4⟩ := hrp.2 j d _ hd (List.getElem?_eq_getElem hju)
   refine ⟨_,?_,h3,?_⟩
   ·rw [cell_of_row w b j cs o.e (0,0) hh]
    rw [List.getElem_take]
    have : j < cs.size := by
     rw [List.length_take] at hju
     have := Array.length_toList (xs := cs);omega
    simp [Array.getElem?_eq_getElem this]
   ·have hm : lt1 0 d = true := by
     have : d ∈ flat o.c := List.mem_of_getElem? hd
     obtain ⟨e,he,hy⟩ := List.mem_flatMap.1 this
     exact zsn (List.all_eq_true.1 hlt e he) hy
    have := h4.take hm
    rw [List.take_zero] at this
    exact this.ext ⟨fun _ _ _ h=>.inl h,fun i x hx=>by simp at hx⟩
 ·by_cases hk : o.k = 0
  ·exact .inl hk
  ·exact hr.kinds i x o hx (zlz ho hk).1
 ·by_cases hk : o.k = 0
  ·exact objRep.zero hk
  ·exact (hr.objs i x o hx (zlz ho hk).1).move zoZ fun _ _=>rfl
 ·exact hr.sep i i' x x' o o' b hx (zlz ho hk).1 hk hb hx' (zlz ho' hk').1 hk' hb'
 ·obtain ⟨h1,h2⟩ := zlz ho hk
  rcases hs with hs|⟨i2,o2,x2,ho2,hk2,hlt,hx2,hb2,hd⟩
  ·exact hr.apart i x o b hx h1 hk hb j d hs
  ·have := hr.sep i i2 x x2 o o2 b hx h1 hk hb hx2 ho2 (by omega) hb2
   subst this
   rw [h1] at ho2;injection ho2 with ho2;subst ho2
   exact absurd ⟨hk2,hlt⟩ h2
theorem rep1.fz (hr : Rel w S μ H) {d : AV} {v : Value} (h : rep1 S μ d v) : rep1 (frS S μ H) μ (fz1 H d) v := by
 unfold fz1
 split
 ·rename_i q i n
  cases hq : fzO H i n with
  |none=>exact h.ext zoZ
  |some c =>
   unfold fzO at hq
   split at hq
   ·rename_i o ho
    split at hq
    ·rename_i hc
     injection hq with hq;subst hq
     obtain ⟨hk,hn,hlt⟩ := hc
     obtain ⟨A,c',hμ,rfl,h1,h2⟩ := h
     refine ⟨A,c',by rw [hn],by rw [← hn];exact h1,h2,fun hne=>?_⟩
     have hn0 : 0 < n := by rw [hn];exact List.length_pos_iff.2 hne
     have hc0 : c' ≠ 0 := by omega
     obtain ⟨A2,c2,e,_,_,hall,h4⟩ := (hr.objs i _ o hμ ho).2.2.1 hk
     have e2 : A = A2 ∧ c' = c2 := by
      simp only [Value.tuple.injEq,Array.mk.injEq,List.cons.injEq,Value.slice.injEq,and_true] at e
      exact ⟨e.1,e.2.2⟩
     obtain ⟨rfl,rfl⟩ := e2
     obtain ⟨b,cs,rfl,h5,h6,h7⟩ := h4 hc0
     refine ⟨b,0,o.z,rfl,ziC hall fun j y hy=>.inr ⟨i,o,_,ho,hk,hlt,hμ,?_,by simpa using hy⟩⟩
     simp only [blkOf]
     rw [if_neg hc0]
    ·cases hq
   ·cases hq
 ·exact h.ext zoZ
theorem repA.fz (hr : Rel w S μ H) {d : AV} {v : Value} (h : repA S μ d v) : repA (frS S μ H) μ (fzA H d) v := by
 unfold repA at h
 split at h
 ·rename_i cs v
  obtain ⟨us,rfl,h1,h2⟩ := h
  refine ⟨us,rfl,by rw [h1];simp,fun j d u hd hu=>?_⟩
  rw [List.getElem?_map] at hd
  obtain ⟨d0,hd0,rfl⟩ := Option.map_eq_some_iff.1 hd
  exact ⟨(h2 j d0 u hd0 hu).1,(h2 j d0 u hd0 hu).2.fz hr⟩
 ·rename_i hne
  have h2 := h.fz hr
  unfold fzA
  split
  ·exact (hne _ rfl).elim
  ·unfold repA
   split
   ·rename_i cs _ e
    exfalso
    unfold fz1 at e
    split at e
    ·split at e <;> cases e
    ·exact hne _ e
   ·exact h2
theorem rep.fz (hr : Rel w S μ H) {d : AV} {v : Value} (h : rep S μ d v) : rep (frS S μ H) μ (fzV H d) v := by
 unfold rep at h
 split at h
 ·rename_i s ds v
  obtain ⟨us,rfl,h1,h2⟩ := h
  refine ⟨us,rfl,by rw [h1];simp,fun j d u hd hu=>?_⟩
  rw [List.getElem?_map] at hd
  obtain ⟨d0,hd0,rfl⟩ := Option.map_eq_some_iff.1 hd
  exact (h2 j d0 u hd0 hu).fz hr
 ·rename_i hne
  have h2 := h.fz hr
  unfold fzV
  split
  ·exact (hne _ _ rfl).elim
  ·unfold rep
   split
   ·rename_i s ds _ e
    exfalso
    unfold fzA at e
    split at e
    ·cases e
    ·unfold fz1 at e
     split at e
     ·split at e <;> cases e
     ·exact hne _ _ e
   ·exact h2
variable {P : Program} {G : Gl} {N : FS}
def retPF (P : Program) (rs : List ResultVar) (X : AV) : Exit → ASt → Prop
 |.normal,s=>ltT 0 X = true ∧ resC P s.H s.T rs fun ds=>fzV s.H (ro s.H (oneOf ds)) = X
 |.ret,s=>ltT 0 X = true ∧ resC P s.H s.T rs fun ds=>fzV s.H (ro s.H (oneOf ds)) = X
 |_,_=>False
theorem zoq {N : Nat} {f : FuncId} {fn : Func} {c : Code} {args : List AV} {X : AV} (hf : P.funcs[f]? = some fn) (hb : fn.body = some c) (hc : zdb P f = true) (rs : List ResultVar) (hrs : fn.results.toList = rs) (hN : fn.ntmps = N) (hargs : args.length ≤ N)
  (h : AWp P G (F0 N) 0 c (retPF P rs X) ⟨[],argsT 0 args⟩) : ACp P G f args X := by
 subst hN
 refine ⟨hc,fun w S μ vs hr hg hl hv=>?_⟩
 refine calls_of_wp hf hb ?_
 have hfr : Fr S μ (F0 fn.ntmps) (argsT 0 args) { tmps := vs.toArray ++ Array.replicate (fn.ntmps - vs.toArray.size) undef,defers := [] } := by
  refine ⟨by simp;omega,rfl,fun i=>?_⟩
  rw [zie]
  simp only [Nat.zero_le,if_true,Nat.sub_zero]
  cases hd : args[i]? with
  |none=>trivial
  |some d =>
   have hi : i < vs.length := by rw [hl];exact (List.getElem?_eq_some_iff.1 hd).1
   have := hv i d vs[i] hd (List.getElem?_eq_getElem hi)
   simp only [Option.getD_some]
   have e : (vs.toArray ++ Array.replicate (fn.ntmps - vs.toArray.size) undef).getD i undef = vs[i] := by
    rw [Array.getD_eq_getD_getElem?,Array.getElem?_append_left (by simpa using hi)]
    simp [hi]
   rw [e];exact this
 refine wp_mono (h w S μ _ hr hfr hg) ?_
 rintro e a' w' ⟨s',S',μ',hq,hr',hf',hst⟩
 have fin : (ltT 0 X = true ∧ resC P s'.H s'.T rs fun ds=>fzV s'.H (ro s'.H (oneOf ds)) = X) → a'.defers = [] ∧ ∃ v,(results fn a'.tmps).run P w' = .ok v w' ∧ CPost w S μ [] (fun r H'=>r = X ∧ H' = []) (.returned v) w' := by
  rintro ⟨hX,hK⟩
  obtain ⟨v,r,hrun,hrep,hx⟩ := zf6 (K := fun r=>fzV s'.H (ro s'.H r) = X) hrs hr' hf' hK
  have h1 := (hrep.toRo hr').fz hr'
  rw [hx] at h1
  have hle : HLe (s'.H.map fzH) [] := by cases hh : s'.H.map fzH <;> trivial
  refine ⟨hf'.nodef,v,hrun,v,X,[],frS S' μ' s'.H,μ'.take 0,rfl,⟨rfl,rfl⟩,hr'.freeze.le hle rfl,h1.take hX,hst.trans ⟨rfl,rfl,rfl,Nat.le_refl _,fun _ _ _=>rfl,fun _ _ _ h=>.inl h,fun i x hi hx=>absurd hi (Nat.not_lt_zero _),fun b j d h _=>?_,fun b k _=>?_⟩⟩
  ·rcases h with h|⟨i,o,x,ho,hk,_,hx,hb,_⟩
   ·exact .inl h
   ·exact .inr ⟨i,x,o,hx,ho,by omega,hb⟩
  ·obtain ⟨i,x,o,hx,ho,_⟩ := k
   simp at ho
 cases e with
 |normal=>exact fin hq
 |ret=>exact fin hq
 |exit id=>exact hq.elim
 |goto l=>exact hq.elim
 |panic ch=>exact hq.elim
 |outgrown=>exact hq.elim
end
end Go.Proofs.Ytaaogcnjfkgnoaa

namespace Go.Proofs.Ytaaogcnjfkgnoaa
open Go.RowKit
section
variable {R : Type} {P : Program} {G : Gl} {E : Env} {M n : Nat} {N : FS} {H : List AObj} {T T' : Tm}
theorem zek : ∀ (L : List Nat) (T : Tm) (i : Nat),get (keepT L T) i = get T i ∨ get (keepT L T) i = .nil
 |[],T,i=>.inr rfl
 |j :: r,T,i=>by
  simp only [keepT,_root_.Go.Proofs.Ytaaogcnjfkgnoaa.get]
  split
  ·rename_i e;subst e;exact .inl rfl
  ·exact zek r T i
theorem zpt {m : Nat} : ∀ (L : List Nat) (T : Tm),(L.all fun i=>ltT m (get T i)) = true → TLe m T (keepT L T)
 |[],T,_=>trivial
 |j :: r,T,h=>by
  simp only [List.all_cons,Bool.and_eq_true] at h
  exact ⟨rfl,h.1,zpt r T h.2⟩
theorem HLe.take : ∀ (H : List AObj) (m : Nat),HLe H (H.take m)
 |[],m=>by simp [HLe]
 |o :: r,0=>by simp [HLe]
 |o :: r,m + 1=>⟨.inl rfl,HLe.take r m⟩
theorem rowsE_ok {c : Code} {Q : Exit → ASt → Prop} {K : ASt → Option R} {r : R} (hQ : ∀ s, n ≤ s.H.length → K s = some r → AWp P G N n c Q s) : ∀ {l : List (Nat × TypeId × Nat)} {s : ASt}, n ≤ s.H.length → rowsE l s K = some r → AWp P G N n c Q s
  | [], s, hn, h => hQ s hn h
  | (i, e, z) :: l, ⟨H, T⟩, hn, h => by
    unfold rowsE at h
    unfold rowE at h
    split at h
    · rename_i hi
      refine zv8     i e z hi hn (rowsE_ok hQ ?_ h)
      simp only [List.length_append]
      exact Nat.le_trans hn (Nat.le_add_right _ _)
    · exact AWp.text (TEq.lit (TEq.refl T) rfl) (rowsE_ok hQ hn h)
theorem AWp.post {c : Code} {Q Q' : Exit → ASt → Prop} {s : ASt} (h : AWp P G N n c Q s) (q : ∀ e s',Q e s' → ∃ T2,(∀ i,get T2 i = get s'.T i ∨ get T2 i = .nil) ∧ Q' e ⟨s'.H,T2⟩) : AWp P G N n c Q' s := by
 intro w S μ a hr hf hg
 refine wp_mono (h w S μ a hr hf hg) ?_
 rintro e a' w' ⟨s',S',μ',hq,hr',hf',hst⟩
 obtain ⟨T2,ht,q'⟩ := q e s' hq
 refine ⟨⟨s'.H,T2⟩,S',μ',q',hr',⟨hf'.size,hf'.nodef,fun i=>?_⟩,hst⟩
 rcases ht i with e|e
 ·rw [e];exact hf'.slot i
 ·rw [e];exact zlJ _ _ _
theorem zpM {s : ASt} {Q : Exit → ASt → Prop} {ι : Type} (I : ι → ASt) (M : ι → Nat) (i0 : ι) {c : Code} (h0 : s = I i0) (hr : ∀ i,AWp P G N n c (loopA n I M i Q) (I i)) : AWp P G N n (.loop c) Q s := by
 intro w S μ a hrel hfr hg
 subst h0
 refine wp_loop_ghost (fun m a' w'=>∃ i S' μ',M i = m ∧ Rel w' S' μ' (I i).H ∧ Fr S' μ' N (I i).T a' ∧ GOk G S' ∧ Step n w S μ (I i0).H w' S' μ' (I i).H) (M i0) ⟨i0,S,μ,rfl,hrel,hfr,hg,Step.refl _ _ _ _ _⟩ ?_
 rintro m a' w' ⟨i,S',μ',rfl,hrel',hfr',hg',hst⟩
 refine wp_mono (hr i w' S' μ' a' hrel' hfr' hg') ?_
 rintro e a2 w2 ⟨s2,S2,μ2,hq,hr2,hf2,hs2⟩
 cases e with
 |normal =>
  obtain ⟨i',hle,hn',hm⟩ := hq
  exact ⟨M i',hm,i',S2,_,rfl,hle.rel hr2,hle.fr hf2,hg'.ext hs2.still,(hst.trans hs2).trans (hle.step hn' w2 S2 μ2)⟩
 |exit id=>exact ⟨s2,S2,μ2,hq,hr2,hf2,hst.trans hs2⟩
 |goto l=>exact ⟨s2,S2,μ2,hq,hr2,hf2,hst.trans hs2⟩
 |ret=>exact ⟨s2,S2,μ2,hq,hr2,hf2,hst.trans hs2⟩
 |panic ch=>exact ⟨s2,S2,μ2,hq,hr2,hf2,hst.trans hs2⟩
 |outgrown=>exact ⟨s2,S2,μ2,hq,hr2,hf2,hst.trans hs2⟩
theorem Rel.recell {w : World} {S : SS} {μ : List Value} (hr : Rel w S μ H) {j off : Nat} {ob : AObj} {d d' : AV} (hj : H[j]? = some ob) (hk : ob.k = 1) (hc : ob.c[off]? = some d) (hd : ∀ u,rep1 S μ d u → rep1 S μ d' u) :
  Rel w S μ (H.set j { ob with c := ob.c.set off d' }) ∧ Step H.length w S μ H w S μ (H.set j { ob with c := ob.c.set off d' }) := by
 have hjl : j < H.length := (List.getElem?_eq_some_iff.1 hj).1
 have at_ : ∀ (i : Nat) (o : AObj),(H.set j { ob with c := ob.c.set off d' })[i]? = some o → (i = j ∧ o = { ob with c := ob.c.set off d' }) ∨ (i ≠ j ∧ H[i]? = some o) := by
  intro i o h
  rcases Nat.decEq i j with q|q
  ·rw [List.getElem?_set_ne (fun e=>q e.symm)] at h;exact .inr ⟨q,h⟩
  ·subst q
   rw [List.getElem?_set_self hjl] at h
   cases h;exact .inl ⟨rfl,rfl⟩
 have old : ∀ (i : Nat) (o : AObj),(H.set j { ob with c := ob.c.set off d' })[i]? = some o → ∃ o',H[i]? = some o' ∧ o'.k = o.k ∧ (o'.k = 2 → o'.c = o.c ∧ o'.z = o.z) := by
  intro i o h
  rcases at_ i o h with ⟨rfl,rfl⟩|⟨_,h⟩
  ·exact ⟨ob,hj,rfl,fun q=>by omega⟩
  ·exact ⟨o,h,rfl,fun _=>⟨rfl,rfl⟩⟩
 refine ⟨⟨by rw [List.length_set];exact hr.len,hr.still,?_,?_,?_,?_⟩,⟨rfl,rfl,rfl,Nat.le_refl _,fun _ _ _=>rfl,fun _ _ _ h=>h,fun i x _ hx=>⟨x,hx, .inl rfl⟩,fun _ _ _ h _=>.inl h,?_⟩⟩
 ·intro i x o hx ho
  obtain ⟨o',h1,h2,_⟩ := old i o ho
  rw [← h2];exact hr.kinds i x o' hx h1
 ·intro i x o hx ho
  rcases at_ i o ho with ⟨rfl,rfl⟩|⟨_,h⟩
  ·obtain ⟨b,cs,h1,h2,h3⟩ := (hr.objs i x ob hx hj).1 hk
   refine ⟨fun _=>⟨b,cs,h1,h2,?_⟩,fun q=>by simp only at q;omega,fun q=>by simp only at q;omega,fun q=>by simp only at q;omega⟩
   refine ⟨by simp only [List.length_set];exact h3.1,fun q dd u hq hu=>?_⟩
   simp only at hq
   rcases Nat.decEq q off with e|e
   ·rw [List.getElem?_set_ne (fun x=>e x.symm)] at hq
    exact h3.2 q dd u hq hu
   ·subst e
    rw [List.getElem?_set_self (List.getElem?_eq_some_iff.1 hc).1] at hq
    cases hq
    exact ⟨(h3.2 q d u hc hu).1,hd u (h3.2 q d u hc hu).2⟩
  ·exact hr.objs i x o hx h
 ·intro i i' x x' o o' b hx ho hk1 hb hx' ho' hk2 hb'
  obtain ⟨p,h1,h2,_⟩ := old i o ho
  obtain ⟨p',h1',h2',_⟩ := old i' o' ho'
  exact hr.sep i i' x x' p p' b hx h1 (by rw [h2];exact hk1) hb hx' h1' (by rw [h2'];exact hk2) hb'
 ·intro i x o b hx ho hk1 hb jj dd hs
  obtain ⟨p,h1,h2,h3⟩ := old i o ho
  obtain ⟨q1,q2⟩ := hr.apart i x p b hx h1 (by rw [h2];exact hk1) hb jj dd hs
  obtain ⟨r1,r2⟩ := h3 q1
  rw [← r1,← r2,← h2]
  exact ⟨q1,q2⟩
 ·rintro b ⟨i,x,o,hx,ho,hk1,hb⟩ _
  obtain ⟨p,h1,h2,_⟩ := old i o ho
  exact ⟨i,x,p,hx,h1,by rw [h2];exact hk1,hb⟩
theorem zx5 (i off : Nat) (e : TypeId) (z : Nat) (s : ASt) : s.H.length ≤ (ghS i off e z s).H.length := by
 unfold ghS
 split
 ·split
  ·split
   ·simp
   ·exact Nat.le_refl _
  ·exact Nat.le_refl _
 ·exact Nat.le_refl _
theorem zyb {c : Code} {Q : Exit → ASt → Prop} {s : ASt} (i off : Nat) (e : TypeId) (z : Nat) (hn : n ≤ s.H.length) (h : AWp P G N n c Q (ghS i off e z s)) : AWp P G N n c Q s := by
 unfold ghS at h
 split at h
 ·rename_i j hi
  split at h
  ·rename_i ob hj
   split at h
   ·rename_i hk hc
    intro w S μ a hr hf hg
    obtain ⟨h1,h2⟩ := hr.nilRow none e z
    have hjl : j < s.H.length := (List.getElem?_eq_some_iff.1 hj).1
    obtain ⟨h3,h4⟩ := h1.recell (off := off) (d' := OW s.H.length 0) (by rw [List.getElem?_append_left hjl];exact hj) hk hc (fun u hu=>⟨none,0,0,none,0,by rw [← hr.len];simp,Nat.le_refl _,hu.1,fun _=>⟨rfl,rfl⟩⟩)
    rw [List.set_append_left _ _ hjl] at h3 h4
    have hx : Ext S μ S (μ ++ [.slice none 0 0]) := zjZ S μ _
    have hf' : Fr S (μ ++ [.slice none 0 0]) N s.T a := ⟨hf.size,hf.nodef,fun k=>(hf.slot k).ext hx⟩
    refine wp_mono (h w S _ a h3 hf' hg) fun _ _ _ k=>Lift.trans ((h2.less hn).trans (h4.less ?_)) k
    simp only [List.length_append];omega
   ·exact h
  ·exact h
 ·exact h
theorem zkR (g : Option (Nat × Nat × TypeId × Nat)) (s : ASt) : s.H.length ≤ (ghJ g s).H.length := by
 cases g with
 |none=>exact Nat.le_refl _
 |some q=>exact zx5 _ _ _ _ s
theorem zrr {c : Code} {Q : Exit → ASt → Prop} {s : ASt} (g : Option (Nat × Nat × TypeId × Nat)) (hn : n ≤ s.H.length) (h : AWp P G N n c Q (ghJ g s)) : AWp P G N n c Q s := by
 cases g with
 |none=>exact h
 |some q=>exact zyb _ _ _ _ hn h
theorem zat (hm : P.follows .mixedOrders = true) (hE : EnvOk P G E) {r : R} : ∀ (c : Code) (h : Hint) (s : ASt) (k : KO R),n ≤ s.H.length → exec P G E M N c h s k = some r → AWp P G N n c (fun e s'=>k e s' = some r) s
 |.skip,h,s,k,hn,hx=>zsb hx
 |.region id ops draw,h,s,k,hn,hx=>by
  cases draw with
  |true =>
   obtain ⟨h1,h2⟩ := z03 (show whenE (zno (kcE E) N ops.toList) (runD P G E ops.toList [] [] [] [] ops.toList s fun s=>k .normal s) = some r from hx)
   simp only [zno,Bool.and_eq_true] at h1
   have := zqb (n := n) (ops := ops.toList) (id := id) (s := s) (G := G) (Q := fun e s'=>e = .normal ∧ Aft (fun s=>k .normal s) r s') hm h1.1.1 h1.1.2 h1.2 hn (z82 (fun s q=>⟨rfl,q⟩) (zdp hE (TEq.refl s.T) SkOk.nil h2))
   rw [Array.toArray_toList] at this
   refine this.post fun e s' q=>?_
   obtain ⟨rfl,T2,ht,q⟩ := q
   exact ⟨T2,fun i=>.inl (ht i).symm,q⟩
  |false =>
   obtain ⟨h1,h2⟩ := z03 (show whenE (fits N ops.toList) (match panQ E ops.toList with
    |true=>runP P G E ops.toList s (fun s=>k .normal s) (fun u s=>k (.panic (pch u)) s)
    |false=>runE P G E false ops.toList [] ops.toList s fun s=>k .normal s) = some r from hx)
   split at h2
   ·have := znv (n := n) (id := id) (s := s) (G := G) (Q := fun e s'=>(e = .normal ∧ Aft (fun s=>k .normal s) r s') ∨ ∃ u,e = .panic (pch u) ∧ AftP (fun u s=>k (.panic (pch u)) s) r u s') h1 hn (zj4 (fun s q=>.inl ⟨rfl,q⟩) (fun u s q=>.inr ⟨u,rfl,q⟩) (zqM hE (TEq.refl s.T) h2))
    rw [Array.toArray_toList] at this
    refine this.post fun e s' q=>?_
    rcases q with ⟨rfl,T2,ht,q⟩|⟨u,rfl,T2,ht,q⟩
    ·exact ⟨T2,fun i=>.inl (ht i).symm,q⟩
    ·exact ⟨T2,fun i=>.inl (ht i).symm,q⟩
   have := zla (n := n) (id := id) (s := s) (G := G) (Q := fun e s'=>e = .normal ∧ Aft (fun s=>k .normal s) r s') h1 hn (za7 (fun s q=>⟨rfl,q⟩) (zfD hE (TEq.refl s.T) SkOk.nil h2))
   rw [Array.toArray_toList] at this
   refine this.post fun e s' q=>?_
   obtain ⟨rfl,T2,ht,q⟩ := q
   exact ⟨T2,fun i=>.inl (ht i).symm,q⟩
 |.seq a b,h,s,k,hn,hx=>by
  refine zri (AWp.mono (AWp.len (zat hm hE a h.l s _ hn hx) hn) fun e s' q=>?_)
  obtain ⟨q,hl⟩ := q
  cases e with
  |normal =>
   have q : exec P G E M N b h.r (ghJ h.gho (joinS h.J s')) k = some r := q
   cases hj : h.J with
   |none=>rw [hj] at q;exact zrr h.gho hl (zat hm hE b h.r (ghJ h.gho s') k (Nat.le_trans hl (zkR _ _)) q)
   |some L=>rw [hj] at q;exact AWp.forget (zek L s'.T) (zrr (s := ⟨s'.H,keepT L s'.T⟩) h.gho hl (zat hm hE b h.r (ghJ h.gho ⟨s'.H,keepT L s'.T⟩) k (Nat.le_trans hl (zkR h.gho ⟨s'.H,keepT L s'.T⟩)) q))
  |exit id=>exact q
  |goto l=>exact q
  |ret=>exact q
  |panic ch=>exact q
  |outgrown=>exact q
 |.cond c x y,h,s,k,hn,hx=>by
  have lit : ∀ b,ev G s.T c = V (.bool b) → TEq s.T (litC c b s.T) := by
   intro b hb
   cases c with
   |tmp t=>exact TEq.lit (TEq.refl _) hb
   |const v=>exact TEq.refl _
   |global g=>exact TEq.refl _
   |func f=>exact TEq.refl _
  rcases zdS (show condE (ev G s.T c) _ _ = some r from hx) with ⟨h1,h2⟩|⟨h1,h2⟩
  ·exact zp4 h1 (fun _=>AWp.text (lit _ h1) (zat hm hE x h.l ⟨s.H,_⟩ k hn h2)) (fun q=>by cases q)
  ·exact zp4 h1 (fun q=>by cases q) (fun _=>AWp.text (lit _ h1) (zat hm hE y h.r ⟨s.H,_⟩ k hn h2))
 |.block id c,h,s,k,hn,hx=>by
  refine zqn (AWp.mono (zat hm hE c h.c s _ hn hx) fun e s' q=>?_)
  cases e with
  |normal=>exact q
  |exit i =>
   simp only [zgI]
   split
   ·rename_i e
    have hb : Nat.beq i id = true := Nat.beq_eq.mpr e
    dsimp only at q
    rw [hb] at q;exact q
   ·rename_i e
    have hb : Nat.beq i id = false := by
     cases hb : Nat.beq i id with
     |false=>rfl
     |true=>exact absurd (Nat.eq_of_beq_eq_true hb) e
    dsimp only at q
    rw [hb] at q;exact q
  |goto l=>exact q
  |ret=>exact q
  |panic ch=>exact q
  |outgrown=>exact q
 |.loop c,h,s,k,hn,hx=>by
  refine rowsE_ok (K := fun s=>iterC M (fun s kc kx=>exec P G E M N c h.c s (backK s.H.length h.L h.Lo kc kx)) ⟨s.H,keepT h.L s.T⟩ k) (fun s hn hx=>?_) hn hx
  refine AWp.forget (T' := keepT h.L s.T) (zek h.L s.T) ?_
  refine zpM (ι := { p : Nat × ASt // n ≤ p.2.H.length ∧ iterC p.1 (fun s kc kx=>exec P G E M N c h.c s (backK s.H.length h.L h.Lo kc kx)) p.2 k = some r }) (fun p=>p.1.2) (fun p=>p.1.1) ⟨(M,⟨s.H,keepT h.L s.T⟩),hn,hx⟩ rfl ?_
  rintro ⟨⟨m,s⟩,hn,hx⟩
  cases m with
  |zero=>cases hx
  |succ m =>
   refine AWp.post (zat hm hE c h.c s _ hn hx) fun e s' q=>?_
   have other : k e ⟨s'.H,keepT h.Lo s'.T⟩ = some r → ∃ T2,(∀ i,get T2 i = get s'.T i ∨ get T2 i = .nil) ∧ k e ⟨s'.H,T2⟩ = some r := fun q=>⟨keepT h.Lo s'.T,zek _ _,q⟩
   cases e with
   |normal =>
    obtain ⟨h1,h2⟩ := z03 (show whenE _ _ = some r from q)
    simp only [Bool.and_eq_true,decide_eq_true_eq] at h1
    have hl : (s'.H.take s.H.length).length = s.H.length := by rw [List.length_take];omega
    refine ⟨s'.T,fun i=>.inl rfl,⟨(m,⟨s'.H.take s.H.length,keepT h.L s'.T⟩),by rw [hl];exact hn,h2⟩,⟨HLe.take _ _,?_,?_⟩,?_,Nat.lt_succ_self m⟩
    ·show (s'.H.take s.H.length).all (ltO (s'.H.take s.H.length).length) = true
     rw [hl];exact h1.1.2
    ·show TLe (s'.H.take s.H.length).length s'.T (keepT h.L s'.T)
     rw [hl];exact zpt _ _ h1.2
    ·show n ≤ (s'.H.take s.H.length).length
     rw [hl];exact hn
   |exit id=>exact other q
   |goto l=>exact other q
   |ret=>exact other q
   |panic ch=>exact other q
   |outgrown=>exact other q
 |.rangeFunc ..,h,s,k,hn,hx=>by cases hx
 |.scope _,h,s,k,hn,hx=>by cases hx
 |.label _,h,s,k,hn,hx=>by cases hx
 |.goto _,h,s,k,hn,hx=>by cases hx
 |.refuse _,h,s,k,hn,hx=>by cases hx
 |.exit id,h,s,k,hn,hx=>zsf hx
 |.ret,h,s,k,hn,hx=>zvO hx
def resE (P : Program) (H : List AObj) (T : Tm) : List ResultVar → (List AV → RO) → RO
 |[],K=>K []
 |.tmp t :: rs,K=>resE P H T rs fun ds=>K (get T t :: ds)
 |.cell b t :: rs,K=>loadE (kindT P t) H (get T b) fun d=>resE P H T rs fun ds=>K (d :: ds)
theorem zjb {r : AV × List AObj} : ∀ {rs : List ResultVar} {K : List AV → RO},resE P H T rs K = some r → resC P H T rs fun ds=>K ds = some r
 |[],K,h=>h
 |.tmp t :: rs,K,h=>zjb (rs := rs) h
 |.cell b t :: rs,K,h=>zbz (fun d q=>zjb (rs := rs) q) (zje h)
def cbE {R : Type} (b : Bool) (x y : R) : R := match b with|true=>x|false=>y
def tellZ (H : List AObj) (X : AV) : RO := whenE (ltT 0 (fzV H X)) (some (fzV H X,[]))
def tellK (H : List AObj) (X : AV) : RO := cbE (ltT 0 X) (some (X,[])) (tellZ H X)
theorem zoc {H H' : List AObj} {X Y : AV} (h : tellK H Y = some (X,H')) : ltT 0 X = true ∧ fzV H Y = X := by
 unfold tellK cbE at h
 split at h
 ·rename_i hl
  cases h
  exact ⟨hl,zyu hl⟩
 ·obtain ⟨h1,h2⟩ := z03 h
  cases h2
  exact ⟨h1,rfl⟩
def tellF (P : Program) (rs : List ResultVar) : KO (AV × List AObj) := fun e s=>match e with
 |.normal=>resE P s.H s.T rs fun ds=>tellK s.H (ro s.H (oneOf ds))
 |.ret=>resE P s.H s.T rs fun ds=>tellK s.H (ro s.H (oneOf ds))
 |_=>none
def keepK (n : Nat) (H : List AObj) (X : AV) : RO := whenE (decide (n ≤ H.length) && (H.take n).all (ltO n) && ltT n X) (some (X,H.take n))
def keepF (P : Program) (n : Nat) (rs : List ResultVar) : KO (AV × List AObj) := fun e s=>match e with
 |.normal=>resE P s.H s.T rs fun ds=>keepK n s.H (ro s.H (oneOf ds))
 |.ret=>resE P s.H s.T rs fun ds=>keepK n s.H (ro s.H (oneOf ds))
 |_=>none
theorem zu9 {N : Nat} (hm : P.follows .mixedOrders = true) (hE : EnvOk P G E) {f : FuncId} {fn : Func} {c : Code} {args : List AV} (hf : P.funcs[f]? = some fn) (hb : fn.body = some c) (hc : zdb P f = true) (rs : List ResultVar) (hrs : fn.results.toList = rs) (hN : fn.ntmps = N) (hargs : args.length ≤ N) (h : Hint)
  {X : AV} {H' : List AObj} (hx : exec P G E M (F0 N) c h ⟨[],argsT 0 args⟩ (tellF P rs) = some (X,H')) : ACp P G f args X := by
 have key := zat (n := 0) hm hE c h ⟨[],argsT 0 args⟩ _ (Nat.zero_le _) hx
 have fin : ∀ s : ASt,(resE P s.H s.T rs fun ds=>tellK s.H (ro s.H (oneOf ds))) = some (X,H') → ltT 0 X = true ∧ resC P s.H s.T rs fun ds=>fzV s.H (ro s.H (oneOf ds)) = X := by
  intro s q
  have q := zjb q
  have q2 : resC P s.H s.T rs fun ds=>ltT 0 X = true ∧ fzV s.H (ro s.H (oneOf ds)) = X := z9f (fun ds w=>zoc w) q
  refine ⟨?_,z9f (fun ds w=>w.2) q2⟩
  clear q hx key
  have : ∀ (rs : List ResultVar) (K : List AV → Prop),(∀ ds,K ds → ltT 0 X = true) → resC P s.H s.T rs K → ltT 0 X = true := by
   intro rs
   induction rs with
   |nil=>intro K hK h;exact hK _ h
   |cons a rs ih =>
    intro K hK h
    cases a with
    |tmp t=>exact ih _ (fun ds=>hK _) h
    |cell b t =>
     obtain ⟨d,_,h2⟩ := zc9 h
     exact ih _ (fun ds=>hK _) h2
  exact this rs _ (fun ds w=>w.1) q2
 refine zoq hf hb hc rs hrs hN hargs (AWp.mono key fun e s q=>?_)
 cases e with
 |normal=>exact fin s q
 |ret=>exact fin s q
 |exit id=>cases q
 |goto l=>cases q
 |panic ch=>cases q
 |outgrown=>cases q
theorem zuA {N : Nat} (hm : P.follows .mixedOrders = true) (hE : EnvOk P G E) {f : FuncId} {fn : Func} {c : Code} {args : List AV} (hf : P.funcs[f]? = some fn) (hb : fn.body = some c) (hc : zdb P f = true) (rs : List ResultVar) (hrs : fn.results.toList = rs) (hN : fn.ntmps = N) (hargs : args.length ≤ N) (h : Hint)
  {X : AV} {H' : List AObj} (hx : exec P G E M (F0 N) c h ⟨H,argsT 0 args⟩ (keepF P H.length rs) = some (X,H')) : AC P G f args H (Is X H') := by
 have key := zat (n := H.length) hm hE c h ⟨H,argsT 0 args⟩ _ (Nat.le_refl _) hx
 have fin : ∀ s : ASt,(resE P s.H s.T rs fun ds=>keepK H.length s.H (ro s.H (oneOf ds))) = some (X,H') →
   resC P s.H s.T rs fun ds=>∃ X' H'',(X' = oneOf ds ∨ X' = ro s.H (oneOf ds)) ∧ HLe s.H H'' ∧ H''.all (ltO H''.length) = true ∧ H.length ≤ H''.length ∧ ltT H''.length X' = true ∧ Is X H' X' H'' := by
  intro s q
  refine z9f (fun ds w=>?_) (zjb q)
  obtain ⟨h1,h2⟩ := z03 w
  simp only [Bool.and_eq_true,decide_eq_true_eq] at h1
  have hl : (s.H.take H.length).length = H.length := by rw [List.length_take];omega
  cases h2
  exact ⟨_,_, .inr rfl,HLe.take _ _,by rw [hl];exact h1.1.2,by rw [hl];exact Nat.le_refl _,by rw [hl];exact h1.2,rfl,rfl⟩
 refine zkO hf hb hc rs hrs N hN hargs (AWp.mono key fun e s q=>?_)
 cases e with
 |normal=>exact fin s q
 |ret=>exact fin s q
 |exit id=>cases q
 |goto l=>cases q
 |panic ch=>cases q
 |outgrown=>cases q
end
end Go.Proofs.Ytaaogcnjfkgnoaa

namespace Go.Proofs.Ytaaogcnjfkgnoaa
open Go.RowKit
section
variable {R : Type} {P : Program} {G : Gl} {E : Env} {M n : Nat} {N : FS}
noncomputable abbrev whenK (b : Bool) (x : Option R) : Option R := Bool.rec (motive := fun _=>Option R) none x b
theorem zmk (b : Bool) (x : Option R) : whenK b x = whenE b x := by cases b <;> rfl
noncomputable abbrev iteK {α : Type} (b : Bool) (x y : α) : α := Bool.rec (motive := fun _=>α) y x b
noncomputable abbrev nthK {α : Type} (l : List α) (n : Nat) : Option α := List.rec (motive := fun _=>Nat → Option α) (fun _=>none) (fun a _ ih n=>Nat.rec (motive := fun _=>Option α) (some a) (fun m _=>ih m) n) l n
theorem zrh {α : Type} : ∀ (l : List α) (n : Nat),nthK l n = l[n]?
 |[],n=>rfl
 |a :: r,0=>rfl
 |a :: r,n + 1=>(zrh r n : nthK r n = r[n]?)
noncomputable abbrev slotK (T : Tm) (i : Nat) : AV := List.rec (motive := fun _=>AV) .nil (fun p _ ih=>iteK (Nat.beq p.1 i) p.2 ih) T
theorem slotK_eq : ∀ (T : Tm) (i : Nat), slotK T i = get T i
  | [], i => rfl
  | (j, d) :: r, i => by
    have := slotK_eq r i
    show iteK (Nat.beq j i) d (slotK r i) = if j = i then d else get r i
    by_cases e : j = i
    · rw [if_pos e, Nat.beq_eq.mpr e]
    · rw [if_neg e]
      cases hb : Nat.beq j i with
      | false => exact this
      | true => exact absurd (Nat.eq_of_beq_eq_true hb) e
noncomputable abbrev evK (G : Gl) (T : Tm) (x : Operand) : AV := Operand.rec (motive := fun _=>AV) (fun t=>slotK T t) (fun v=>cv v) (fun g=>glob G g) (fun f=>V (.func (.func f) #[] #[])) x
theorem zaf (G : Gl) (T : Tm) (x : Operand) : evK G T x = ev G T x := by
 cases x with
 |tmp t=>exact slotK_eq T t
 |const v=>rfl
 |global g=>rfl
 |func f=>rfl
noncomputable abbrev mapK {α β : Type} (f : α → β) (l : List α) : List β := List.rec (motive := fun _=>List β) [] (fun a _ ih=>f a :: ih) l
theorem zcT {α β : Type} (f : α → β) : ∀ (l : List α),mapK f l = l.map f
 |[]=>rfl
 |a :: r=>by
  have := zcT f r
  show f a :: mapK f r = f a :: r.map f
  rw [this]
noncomputable abbrev findK (E : Env) (f : FuncId) : Option Ent := List.rec (motive := fun _=>Option Ent) none (fun p _ ih=>iteK (Nat.beq f p.1) (some p.2) ih) E
theorem findK_eq : ∀ (E : Env) (f : FuncId), findK E f = findE E f
  | [], f => rfl
  | (g, e) :: r, f => by
    have := findK_eq r f
    show iteK (Nat.beq f g) (some e) (findK r f) = if f = g then some e else findE r f
    by_cases q : f = g
    · rw [if_pos q, Nat.beq_eq.mpr q]
    · rw [if_neg q]
      cases hb : Nat.beq f g with
      | false => exact this
      | true => exact absurd (Nat.eq_of_beq_eq_true hb) q
noncomputable abbrev unK (op : UnOp) (x : AV) (K : AV → Option R) : Option R :=
 UnOp.rec (motive := fun _=>Option R) (unE .neg x K) (unE .xor x K) (boolB x fun b=>K (V (.bool (!b)))) (unE .plus x K) op
theorem zyL (op : UnOp) (x : AV) (K : AV → Option R) : unK op x K = unE op x K := by cases op <;> rfl
abbrev zxS (E : Env) (x : AV) (args : List AV) (H : List AObj) (K : AV → List AObj → Option R) : Option R :=
 match x with
 |.slice caps [.held (.inl (.func (.func f) _ _)), .held (.inr (.inl (k,_)))]=>callE (findE E f) ((caps.take k ++ args ++ caps.drop k).map (ro H)) H K
 |.held (.inl (.func (.func f) ⟨[]⟩ ⟨[]⟩))=>callE (findE E f) (args.map (ro H)) H K
 |_=>none
abbrev idxAK (st : Option (TypeId × Nat)) (at_ : Option (Nat × Nat)) (H : List AObj) (x ix : AV) (K : AV → Option R) : Option R :=
 match st with
 |some (_,ek)=>idxSE ek H x ix K
 |none=>match at_ with
  |some (n,ek)=>idxPE n ek x ix K
  |none=>none
abbrev callK (e : Option Ent) (args : List AV) (H : List AObj) (K : AV → List AObj → Option R) : Option R :=
 match e with
 |some (.tell g)=>tellE (g args) args fun X=>K X H
 |some (.keep g)=>keepE (g args H) K
 |some (.add g)=>addE (g args H.length) H K
 |_=>none
abbrev zvw (e : Option Ent) (args : List AV) (K : AV → Option R) : Option R :=
 match e with
 |some (.tell g)=>tellE (g args) args K
 |_=>none
noncomputable abbrev roFK (f : FuncId) (H : List AObj) (l : List AV) : List AV := iteK (Nat.beq f RAW) l (mapK (ro H) l)
theorem zw3 (f : FuncId) (H : List AObj) (l : List AV) : roFK f H l = roF f H l := by
 unfold roFK roF
 rw [zcT]
 cases Nat.beq f RAW <;> rfl
noncomputable abbrev binPK (p : Bool) (ks : Option (List CK)) (isB sl : Bool) (op : BinOp) (x y : AV) (K : AV → Option R) : Option R := iteK p (ptrE op x y K) (binE ks isB sl op x y K)
theorem zsN (p : Bool) (ks : Option (List CK)) (isB sl : Bool) (op : BinOp) (x y : AV) (K : AV → Option R) : binPK p ks isB sl op x y K = binPE p ks isB sl op x y K := by cases p <;> rfl
noncomputable abbrev stepK (P : Program) (G : Gl) (E : Env) (D : Bool) (o : Op) (s : ASt) (K : AV → List AObj → Option R) : Option R :=
 match o with
 |.move x=>K (evK G s.T x) s.H
 |.assign x=>K (evK G s.T x) s.H
 |.pick c x y=>boolC (evK G s.T c) (K (evK G s.T x) s.H) (K (evK G s.T y) s.H)
 |.binOp op t x y _=>binPK (znr P t) (cmpT P t) (zjQ P t) (isSlT P t) op (evK G s.T x) (evK G s.T y) fun r=>K r s.H
 |.unOp op _ x=>unK op (evK G s.T x) fun r=>K r s.H
 |.alloc t=>z4P (zeroC P t) t s.H K
 |.box t x=>boxE t s.H (evK G s.T x) K
 |.build t ps=>z49 (zlK P t) (zeroC P t) (mapK (fun p=>(p.1,evK G s.T p.2)) ps.toList) fun r=>K r s.H
 |.buildSlice t n ps=>z1a (appT P t) n (mapK (fun p=>(p.1,evK G s.T p.2)) ps.toList) fun r=>K r s.H
 |.load t x=>loadE (kindT P t) s.H (evK G s.T x) fun r=>K r s.H
 |.store t x y=>z1e (kindT P t) s.H (evK G s.T x) (evK G s.T y) fun H'=>K .nil H'
 |.nilCheck x=>nilE (evK G s.T x) fun r=>K r s.H
 |.convert src dst x=>convE (z9n P src && z9n P dst) (intT P dst) (P.underlying src).isSome (bytT P src && z9n P dst) (z9n P src && bytT P dst) (ro s.H (evK G s.T x)) fun r=>K r s.H
 |.extract x i=>extE (evK G s.T x) i fun r=>K r s.H
 |.fieldAddr t x f=>z02 (zjt P t f) (evK G s.T x) fun r=>K r s.H
 |.field t x f=>zlc (zjt P t f) (evK G s.T x) fun r=>K r s.H
 |.indexAddr t x y=>idxAK (zdj P t) (zhN P t) s.H (evK G s.T x) (evK G s.T y) fun r=>K r s.H
 |.index t x y=>idxVE (z9n P t) (zhN P t) (evK G s.T x) (evK G s.T y) fun r=>K r s.H
 |.slice t x lo hi none=>zgo (z9n P t) (zdj P t) s.H (evK G s.T x) (lo.map (evK G s.T)) (hi.map (evK G s.T)) fun r=>K r s.H
 |.call { callee := .value (.func f),args := args,argTypes := _ }=>iteK D (zvw (findK E f) (mapK (ro s.H) (mapK (evK G s.T) args.toList)) fun r=>K r s.H) (callK (findK E f) (roFK f s.H (mapK (evK G s.T) args.toList)) s.H K)
 |.makeFunc fn first caps=>whenE ((mapK (evK G s.T) (first.toList ++ caps.toList)).all cap0) (K (CL fn first.toList.length (mapK (evK G s.T) (first.toList ++ caps.toList))) s.H)
 |.call { callee := .value (.tmp t),args := args,argTypes := _ }=>zxS E (slotK s.T t) (mapK (evK G s.T) args.toList) s.H K
 |.call { callee := .builtin .len,args := ⟨[x]⟩,argTypes := ⟨[t]⟩ }=>lenE (z9n P t) (zdj P t).isSome s.H (evK G s.T x) fun r=>K r s.H
 |.call { callee := .builtin .append,args := ⟨[x,y]⟩,argTypes := ⟨[t,t']⟩ }=>iteK (Nat.beq t' t) (appE (appT P t) s.H (evK G s.T x) (evK G s.T y) K) (whenK (z9n P t') (appSE (appT P t) s.H (evK G s.T x) (evK G s.T y) K))
 |.call { callee := .builtin .max,args := ⟨[x,y]⟩,argTypes := _ }=>mmE true (evK G s.T x) (evK G s.T y) fun r=>K r s.H
 |.call { callee := .builtin .min,args := ⟨[x,y]⟩,argTypes := _ }=>mmE false (evK G s.T x) (evK G s.T y) fun r=>K r s.H
 |.lookup t x y ok=>lookE P t s.H (evK G s.T x) (evK G s.T y) ok fun r=>K r s.H
 |.mapUpdate t x y z=>putME P t s.H (evK G s.T x) (evK G s.T y) (evK G s.T z) fun H'=>K .nil H'
 |.makeMap t none=>makeE (mapT P t) s.H K
 |_=>none
theorem zwb (a b : Nat) : Nat.beq a b = decide (a = b) := by
 rw [Bool.eq_iff_iff]
 simp
theorem zer (o : Oper) (s : ASt) (K : AV → List AObj → Option R) : stepK P G E false o.op s K = stepE P G E o s K := by
 obtain ⟨dst,op,ty,pos,af,gd⟩ := o
 have e1 : ∀ T,evK G T = ev G T := fun T=>funext (zaf G T)
 have e4 : ∀ T,(fun p : Nat × Operand=>(p.1,evK G T p.2)) = fun p=>(p.1,ev G T p.2) := fun T=>funext fun p=>by rw [zaf]
 unfold stepE stepK
 dsimp only
 cases op
 case slice t x lo hi mx =>
  cases mx
  ·dsimp only;rw [zaf,e1]
  ·rfl
 case call c =>
  obtain ⟨cal,⟨args⟩,⟨ts⟩⟩ := c
  cases cal
  case value f =>
   cases f
   case tmp t=>show zec E (slotK s.T t) (mapK (evK G s.T) args) s.H K = zec E (get s.T t) (args.map (ev G s.T)) s.H K;rw [slotK_eq,zcT,e1]
   case func f=>show callK (findK E f) (roFK f s.H (mapK (evK G s.T) args)) s.H K = callE (findE E f) (roF f s.H (args.map (ev G s.T))) s.H K;rw [findK_eq,zw3,zcT,e1];rfl
   all_goals rfl
  case invoke r m=>rfl
  case builtin b =>
   cases b
   case len =>
    rcases args with _|⟨x,_|⟨y,r⟩⟩ <;> rcases ts with _|⟨t,_|⟨t',q⟩⟩ <;> first|rfl|(dsimp only;rw [zaf])
   case append =>
    rcases args with _|⟨x,_|⟨y,_|⟨z,r⟩⟩⟩ <;> rcases ts with _|⟨t,_|⟨t',_|⟨t2,q⟩⟩⟩ <;> first|rfl|(dsimp only;rw [zaf,zaf,zmk,zwb];cases decide (t' = t) <;> rfl)
   case max=>rcases args with _|⟨x,_|⟨y,_|⟨z,r⟩⟩⟩ <;> first|rfl|(dsimp only;rw [zaf,zaf])
   case min=>rcases args with _|⟨x,_|⟨y,_|⟨z,r⟩⟩⟩ <;> first|rfl|(dsimp only;rw [zaf,zaf])
   all_goals rfl
 case binOp op' t x y yt=>exact (zsN ..).trans (by rw [zaf,zaf])
 case makeMap t r=>cases r <;> rfl
 case pick c x y =>
  show boolC (evK G s.T c) (K (evK G s.T x) s.H) (K (evK G s.T y) s.H) = boolC (ev G s.T c) (K (ev G s.T x) s.H) (K (ev G s.T y) s.H)
  rw [zaf,zaf,zaf]
 case unOp op t x =>
  show unK op (evK G s.T x) _ = unE op (ev G s.T x) _
  rw [zyL,zaf]
 case build t ps =>
  show z49 _ _ (mapK (fun p=>(p.1,evK G s.T p.2)) ps.toList) _ = z49 _ _ (ps.toList.map fun p=>(p.1,ev G s.T p.2)) _
  rw [zcT,e4]
 case buildSlice t n ps =>
  show z1a _ _ (mapK (fun p=>(p.1,evK G s.T p.2)) ps.toList) _ = z1a _ _ (ps.toList.map fun p=>(p.1,ev G s.T p.2)) _
  rw [zcT,e4]
 case makeFunc fn first caps =>
  show whenE ((mapK (evK G s.T) (first.toList ++ caps.toList)).all cap0) (K (CL fn _ (mapK (evK G s.T) (first.toList ++ caps.toList))) s.H) = _
  rw [zcT,e1]
 all_goals first
  |rfl
  |((repeat (first|rw [zaf]|rw [e1]|rw [slotK_eq])) <;> first|done|rfl)
theorem zvi (op : Op) (s : ASt) (K : AV → List AObj → Option R) (hne : ∀ f args ts,op ≠ .call { callee := .value (.func f),args := args,argTypes := ts }) : stepK P G E true op s K = stepK P G E false op s K := by
 cases op
 case makeMap t r=>cases r <;> rfl
 case slice t x lo hi mx=>cases mx <;> rfl
 case call c =>
  obtain ⟨cal,⟨args⟩,⟨ts⟩⟩ := c
  cases cal
  case value f =>
   cases f
   case func f=>exact (hne _ _ _ rfl).elim
   all_goals rfl
  case invoke r m=>rfl
  case builtin b =>
   cases b
   case len=>rcases args with _|⟨x,_|⟨y,r⟩⟩ <;> rcases ts with _|⟨t,_|⟨t',q⟩⟩ <;> rfl
   case append=>rcases args with _|⟨x,_|⟨y,_|⟨z,r⟩⟩⟩ <;> rcases ts with _|⟨t,_|⟨t',_|⟨t2,q⟩⟩⟩ <;> rfl
   case max=>rcases args with _|⟨x,_|⟨y,_|⟨z,r⟩⟩⟩ <;> rfl
   case min=>rcases args with _|⟨x,_|⟨y,_|⟨z,r⟩⟩⟩ <;> rfl
   all_goals rfl
 all_goals rfl
theorem zcb (D : Bool) (o : Oper) (s : ASt) (K : AV → List AObj → Option R) : stepK P G E D o.op s K = stepX P G E D o s K := by
 cases D with
 |false=>exact zer o s K
 |true =>
  have key := zer (P := P) (G := G) (E := E) o s K
  unfold stepX
  dsimp only
  split
  ·rename_i f args ts he
   have e1 : ∀ T,evK G T = ev G T := fun T=>funext (zaf G T)
   rw [he]
   show zvw (findK E f) (mapK (ro s.H) (mapK (evK G s.T) args.toList)) (fun r=>K r s.H) = zqt (findE E f) ((args.toList.map (ev G s.T)).map (ro s.H)) (fun r=>K r s.H)
   rw [findK_eq,zcT,zcT,e1]
   rfl
  ·rename_i hne
   rw [← key]
   exact zvi _ _ _ fun f args ts he=>hne f args ts he
noncomputable abbrev setK (T : Tm) (d : Option Tmp) (v : AV) : Tm := Option.rec (motive := fun _=>Tm) T (fun d=>(d,v) :: T) d
theorem z4b (s : ASt) (H : List AObj) (d : Option Tmp) (v : AV) : (⟨H,setK s.T d v⟩ : ASt) = s.set H d v := by cases d <;> rfl
noncomputable abbrev dstK (ops : List Oper) (j : Nat) : Option Tmp := Option.rec (motive := fun _=>Option Tmp) none (fun o=>o.dst) (nthK ops j)
theorem zkS (ops : List Oper) (j : Nat) : dstK ops j = dstAt ops j := by
 unfold dstAt
 show Option.rec (motive := fun _=>Option Tmp) none (fun o=>o.dst) (nthK ops j) = _
 rw [zrh]
 cases ops[j]? <;> rfl
noncomputable abbrev runK (P : Program) (G : Gl) (E : Env) (D : Bool) (ops : List Oper) (K : ASt → Option R) (l : List Oper) : List Nat → ASt → Option R :=
  List.rec (motive := fun _ => List Nat → ASt → Option R) (fun _ s => K s)
    (fun o _ ih sk s => match o.guard with
      | none => stepK P G E D o.op s fun d H => ih (skO sk o.dst) ⟨H, setK s.T o.dst d⟩
      | some (j, want) => match dstK ops j with
        | none => none
        | some t => iteK (sk.contains t) (ih (skN sk o.dst) ⟨s.H, setK s.T o.dst UD⟩)
          (boolC (slotK s.T t)
            (iteK want (stepK P G E D o.op ⟨s.H, (t, V (.bool true)) :: s.T⟩ fun d H => ih (skO sk o.dst) ⟨H, setK ((t, V (.bool true)) :: s.T) o.dst d⟩) (ih (skN sk o.dst) ⟨s.H, setK ((t, V (.bool true)) :: s.T) o.dst UD⟩))
            (iteK want (ih (skN sk o.dst) ⟨s.H, setK ((t, V (.bool false)) :: s.T) o.dst UD⟩) (stepK P G E D o.op ⟨s.H, (t, V (.bool false)) :: s.T⟩ fun d H => ih (skO sk o.dst) ⟨H, setK ((t, V (.bool false)) :: s.T) o.dst d⟩)))) l
theorem zbJ {x x' : AV} {A A' B B' : Option R} (h1 : x = x') (h2 : A = A') (h3 : B = B') : boolC x A B = condE x' A' B' := by subst h1 h2 h3;rfl
theorem zrJ (D : Bool) (ops : List Oper) (K : ASt → Option R) : ∀ (l : List Oper) (sk : List Nat) (s : ASt),runK P G E D ops K l sk s = runE P G E D ops sk l s K
 |[],sk,s=>rfl
 |o :: r,sk,s=>by
  have ih : ∀ sk s,List.rec (motive := fun _=>List Nat → ASt → Option R) _ _ r sk s = _ := fun sk s=>zrJ D ops K r sk s
  unfold runE
  unfold runK
  dsimp only
  cases hg : o.guard with
  |none =>
   dsimp only
   rw [zcb]
   refine congrArg (stepX P G E D o s) (funext fun d=>funext fun H=>?_)
   exact (ih _ _).trans (by rw [z4b])
  |some g =>
   obtain ⟨j,want⟩ := g
   dsimp only
   rw [zkS]
   cases hd : dstAt ops j with
   |none=>rfl
   |some t =>
    dsimp only
    cases hc : sk.contains t with
    |true =>
     dsimp only
     exact (ih _ _).trans (by rw [z4b])
    |false =>
     refine zbJ (slotK_eq _ _) ?_ ?_
     ·cases want with
      |true=>exact (zcb D o _ _).trans (congrArg (stepX P G E D o _) (funext fun d=>funext fun H=>(ih (skO sk o.dst) ⟨H,setK ((t,V (.bool true)) :: s.T) o.dst d⟩).trans (by rw [z4b ⟨s.H,(t,V (.bool true)) :: s.T⟩])))
      |false=>exact (ih (skN sk o.dst) ⟨s.H,setK ((t,V (.bool true)) :: s.T) o.dst UD⟩).trans (by rw [z4b ⟨s.H,(t,V (.bool true)) :: s.T⟩])
     ·cases want with
      |true=>exact (ih (skN sk o.dst) ⟨s.H,setK ((t,V (.bool false)) :: s.T) o.dst UD⟩).trans (by rw [z4b ⟨s.H,(t,V (.bool false)) :: s.T⟩])
      |false=>exact (zcb D o _ _).trans (congrArg (stepX P G E D o _) (funext fun d=>funext fun H=>(ih (skO sk o.dst) ⟨H,setK ((t,V (.bool false)) :: s.T) o.dst d⟩).trans (by rw [z4b ⟨s.H,(t,V (.bool false)) :: s.T⟩])))
noncomputable abbrev oldK (n k : Nat) (a d : AV) (l : List (Nat × List AObj)) (K : Option R) : Option R := List.rec (motive := fun _=>Option R) K (fun p _ ih=>iteK (Nat.ble n p.1) (loadE k p.2 a fun d'=>eqE d d' ih) ih) l
theorem zrn (n k : Nat) (a d : AV) (K : Option R) : ∀ (l : List (Nat × List AObj)),oldK n k a d l K = oldE n k a d l K
 |[]=>rfl
 |p :: r=>by
  have ih := zrn n k a d K r
  unfold oldE
  show iteK (Nat.ble n p.1) (loadE k p.2 a fun d'=>eqE d d' (oldK n k a d r K)) (oldK n k a d r K) = _
  rw [ih]
  cases Nat.ble n p.1 <;> rfl
noncomputable abbrev opnK (H : List AObj) (l : List OpI) (K : Option R) : Option R := List.rec (motive := fun _=>Option R) K (fun x _ ih=>loadE x.2.1 H x.2.2.1 fun d'=>eqE x.2.2.2 d' ih) l
theorem zrw (H : List AObj) (K : Option R) : ∀ (l : List OpI),opnK H l K = opnE H l K
 |[]=>rfl
 |x :: r=>by
  have ih := zrw H K r
  show loadE x.2.1 H x.2.2.1 (fun d'=>eqE x.2.2.2 d' (opnK H r K)) = loadE x.2.1 H x.2.2.1 (fun d'=>eqE x.2.2.2 d' (opnE H r K))
  rw [ih]
abbrev loadO (o : Oper) : Option (TypeId × Operand) := match o.op with|.load t x=>some (t,x)|_=>none
noncomputable abbrev zqf (f : Bool) (o : Oper) : Option (TypeId × Operand) := Option.rec (motive := fun _=>Option (TypeId × Operand)) none (fun p=>iteK f (some p) none) (loadO o)
theorem zq3 (f : Bool) (o : Oper) : zqf f o = openA f o := by
 obtain ⟨dst,op,ty,pos,af,gd⟩ := o
 cases op <;> cases f <;> rfl
noncomputable abbrev liveK (A : List Nat) (p : Nat) (l : List OpI) : List OpI := List.rec (motive := fun _=>List OpI) [] (fun x _ ih=>iteK ((A.getD p 0).testBit x.1) ih (x :: ih)) l
theorem zoC (A : List Nat) (p : Nat) : ∀ (l : List OpI),liveK A p l = liveO A p l
 |[]=>rfl
 |x :: r=>by
  have ih := zoC A p r
  show iteK ((A.getD p 0).testBit x.1) (liveK A p r) (x :: liveK A p r) = liveO A p (x :: r)
  rw [ih]
  show _ = (match (A.getD p 0).testBit x.1 with|true=>liveO A p r|false=>x :: liveO A p r)
  cases (A.getD p 0).testBit x.1 <;> rfl
noncomputable abbrev cls3 {α : Type} (n : Nat) (a b c : α) : α := Nat.rec (motive := fun _=>α) a (fun k _=>Nat.rec (motive := fun _=>α) b (fun _ _=>c) k) n
noncomputable abbrev runDK (P : Program) (G : Gl) (E : Env) (ops : List Oper) (A : List Nat) (K : ASt → Option R) (l : List Oper) : List Nat → List (List AObj) → List (Nat × List AObj) → List OpI → ASt → Option R :=
  List.rec (motive := fun _ => List Nat → List (List AObj) → List (Nat × List AObj) → List OpI → ASt → Option R) (fun _ _ _ _ s => K s)
    (fun o _ ih sk acc old opn s => cls3 (clsO (kcE E) o.op)
      (match o.guard with
        | none => (Option.rec (motive := fun _ => Option R) (stepK P G E true o.op ⟨lowH (kcE E) ops A (acc ++ [s.H]) acc.length, s.T⟩ fun d _ => ih (skO sk o.dst) (acc ++ [s.H]) old opn ⟨s.H, setK (s.T) o.dst d⟩)
          (fun p => loadE (kindT P p.1) s.H (evK G (s.T) p.2) fun d => oldK (loI (kcE E) ops A acc.length) (kindT P p.1) (evK G (s.T) p.2) d old (ih (skO sk o.dst) (acc ++ [s.H]) old ((acc.length, kindT P p.1, evK G (s.T) p.2, d) :: opn) ⟨s.H, setK (s.T) o.dst d⟩))
          (zqf    (freeI (kcE E) ops A acc.length) o))
        | some (j, want) => match dstK ops j with
          | none => none
          | some t => iteK (sk.contains t) (ih (skN sk o.dst) (acc ++ [s.H]) old opn ⟨s.H, setK s.T o.dst UD⟩)
            (boolC (slotK s.T t)
              (iteK want (Option.rec (motive := fun _ => Option R) (stepK P G E true o.op ⟨lowH (kcE E) ops A (acc ++ [s.H]) acc.length, (t, V (.bool true)) :: s.T⟩ fun d _ => ih (skO sk o.dst) (acc ++ [s.H]) old opn ⟨s.H, setK ((t, V (.bool true)) :: s.T) o.dst d⟩)
          (fun p => loadE (kindT P p.1) s.H (evK G ((t, V (.bool true)) :: s.T) p.2) fun d => oldK (loI (kcE E) ops A acc.length) (kindT P p.1) (evK G ((t, V (.bool true)) :: s.T) p.2) d old (ih (skO sk o.dst) (acc ++ [s.H]) old ((acc.length, kindT P p.1, evK G ((t, V (.bool true)) :: s.T) p.2, d) :: opn) ⟨s.H, setK ((t, V (.bool true)) :: s.T) o.dst d⟩))
          (zqf    (freeI (kcE E) ops A acc.length) o)) (ih (skN sk o.dst) (acc ++ [s.H]) old opn ⟨s.H, setK ((t, V (.bool true)) :: s.T) o.dst UD⟩))
              (iteK want (ih (skN sk o.dst) (acc ++ [s.H]) old opn ⟨s.H, setK ((t, V (.bool false)) :: s.T) o.dst UD⟩) (Option.rec (motive := fun _ => Option R) (stepK P G E true o.op ⟨lowH (kcE E) ops A (acc ++ [s.H]) acc.length, (t, V (.bool false)) :: s.T⟩ fun d _ => ih (skO sk o.dst) (acc ++ [s.H]) old opn ⟨s.H, setK ((t, V (.bool false)) :: s.T) o.dst d⟩)
          (fun p => loadE (kindT P p.1) s.H (evK G ((t, V (.bool false)) :: s.T) p.2) fun d => oldK (loI (kcE E) ops A acc.length) (kindT P p.1) (evK G ((t, V (.bool false)) :: s.T) p.2) d old (ih (skO sk o.dst) (acc ++ [s.H]) old ((acc.length, kindT P p.1, evK G ((t, V (.bool false)) :: s.T) p.2, d) :: opn) ⟨s.H, setK ((t, V (.bool false)) :: s.T) o.dst d⟩))
          (zqf    (freeI (kcE E) ops A acc.length) o)))))
      (match o.guard with | none => stepA P G E o s fun d Y => opnK (s.H ++ Y) (liveK A acc.length opn) (ih (skO sk o.dst) (acc ++ [s.H]) ((acc.length, s.H) :: old) (liveK A acc.length opn) ⟨s.H ++ Y, setK s.T o.dst d⟩) | some _ => none)
      (match o.guard with
        | none => stepK P G E false o.op s fun d H' => opnK H' (liveK A acc.length opn) (ih (skO sk o.dst) (acc ++ [s.H]) ((acc.length, s.H) :: old) (liveK A acc.length opn) ⟨H', setK s.T o.dst d⟩)
        | some (j, want) => match dstK ops j with
          | none => none
          | some t => iteK (sk.contains t) (ih (skN sk o.dst) (acc ++ [s.H]) old opn ⟨s.H, setK s.T o.dst UD⟩)
            (boolC (slotK s.T t)
              (iteK want (stepK P G E false o.op ⟨s.H, (t, V (.bool true)) :: s.T⟩ fun d H' => opnK H' (liveK A acc.length opn) (ih (skO sk o.dst) (acc ++ [s.H]) ((acc.length, s.H) :: old) (liveK A acc.length opn) ⟨H', setK ((t, V (.bool true)) :: s.T) o.dst d⟩)) (ih (skN sk o.dst) (acc ++ [s.H]) old opn ⟨s.H, setK ((t, V (.bool true)) :: s.T) o.dst UD⟩))
              (iteK want (ih (skN sk o.dst) (acc ++ [s.H]) old opn ⟨s.H, setK ((t, V (.bool false)) :: s.T) o.dst UD⟩) (stepK P G E false o.op ⟨s.H, (t, V (.bool false)) :: s.T⟩ fun d H' => opnK H' (liveK A acc.length opn) (ih (skO sk o.dst) (acc ++ [s.H]) ((acc.length, s.H) :: old) (liveK A acc.length opn) ⟨H', setK ((t, V (.bool false)) :: s.T) o.dst d⟩)))))) l
theorem znX (ops : List Oper) (K : ASt → Option R) : ∀ (l : List Oper) (sk : List Nat) (acc : List (List AObj)) (old : List (Nat × List AObj)) (opn : List OpI) (s : ASt),runDK P G E ops (ancs ops []) K l sk acc old opn s = runD P G E ops sk acc old opn l s K
 |[],sk,acc,old,opn,s=>rfl
 |o :: r,sk,acc,old,opn,s=>by
  have ih : ∀ sk acc old opn s,List.rec (motive := fun _=>List Nat → List (List AObj) → List (Nat × List AObj) → List OpI → ASt → Option R) _ _ r sk acc old opn s = _ := fun sk acc old opn s=>znX ops K r sk acc old opn s
  have iho : ∀ sk acc old (n : Nat) opn H0 s,opnK H0 (liveK (ancs ops []) n opn) (List.rec (motive := fun _=>List Nat → List (List AObj) → List (Nat × List AObj) → List OpI → ASt → Option R) _ _ r sk acc old (liveK (ancs ops []) n opn) s) = opnE H0 (liveO (ancs ops []) n opn) (runD P G E ops sk acc old (liveO (ancs ops []) n opn) r s K) := fun sk acc old n opn H0 s=>(zrw H0 _ _).trans ((congrArg (opnE H0 _) (ih sk acc old _ s)).trans (by rw [zoC]))
  unfold runD
  unfold runDK
  dsimp only
  generalize clsO (kcE E) o.op = cl
  rcases cl with _|_|cl
  ·rw [zq3]
   cases hop : openA (freeI (kcE E) ops (ancs ops []) acc.length) o with
   |some p =>
    obtain ⟨t',x⟩ := p
    dsimp only
    have go : ∀ T,loadE (kindT P t') s.H (evK G T x) (fun d=>oldK (loI (kcE E) ops (ancs ops []) acc.length) (kindT P t') (evK G T x) d old (runDK P G E ops (ancs ops []) K r (skO sk o.dst) (acc ++ [s.H]) old ((acc.length,kindT P t',evK G T x,d) :: opn) ⟨s.H,setK T o.dst d⟩)) = loadE (kindT P t') s.H (ev G T x) (fun d=>oldE (loI (kcE E) ops (ancs ops []) acc.length) (kindT P t') (ev G T x) d old (runD P G E ops (skO sk o.dst) (acc ++ [s.H]) old ((acc.length,kindT P t',ev G T x,d) :: opn) r (ASt.set ⟨s.H,T⟩ s.H o.dst d) K)) := fun T=>by
     rw [zaf]
     refine congrArg (loadE (kindT P t') s.H (ev G T x)) (funext fun d=>?_)
     refine (zrn (loI (kcE E) ops (ancs ops []) acc.length) (kindT P t') (ev G T x) d _ old).trans (congrArg (oldE (loI (kcE E) ops (ancs ops []) acc.length) (kindT P t') (ev G T x) d old) ?_)
     exact (ih _ _ _ _ _).trans (by rw [z4b ⟨s.H,T⟩])
    cases hg : o.guard with
    |none=>exact go s.T
    |some g =>
     obtain ⟨j,want⟩ := g
     dsimp only
     rw [zkS]
     cases hd : dstAt ops j with
     |none=>rfl
     |some t =>
      dsimp only
      cases hc : sk.contains t with
      |true =>
       exact (ih (skN sk o.dst) (acc ++ [s.H]) old opn ⟨s.H,setK s.T o.dst UD⟩).trans (by rw [z4b];rfl)
      |false =>
       refine zbJ (slotK_eq _ _) ?_ ?_
       ·cases want with
        |true=>exact go _
        |false=>exact (ih (skN sk o.dst) (acc ++ [s.H]) old opn ⟨s.H,setK ((t,V (.bool true)) :: s.T) o.dst UD⟩).trans (by rw [z4b ⟨s.H,(t,V (.bool true)) :: s.T⟩])
       ·cases want with
        |true=>exact (ih (skN sk o.dst) (acc ++ [s.H]) old opn ⟨s.H,setK ((t,V (.bool false)) :: s.T) o.dst UD⟩).trans (by rw [z4b ⟨s.H,(t,V (.bool false)) :: s.T⟩])
        |false=>exact go _
   |none =>
   dsimp only
   cases hg : o.guard with
   |none =>
    dsimp only
    rw [zcb]
    exact congrArg (stepX P G E true o _) (funext fun d=>funext fun H=>(ih (skO sk o.dst) (acc ++ [s.H]) old opn ⟨s.H,setK s.T o.dst d⟩).trans (by rw [z4b]))
   |some g =>
    obtain ⟨j,want⟩ := g
    dsimp only
    rw [zkS]
    cases hd : dstAt ops j with
    |none=>rfl
    |some t =>
     dsimp only
     cases hc : sk.contains t with
     |true =>
      exact (ih (skN sk o.dst) (acc ++ [s.H]) old opn ⟨s.H,setK s.T o.dst UD⟩).trans (by rw [z4b];rfl)
     |false =>
      refine zbJ (slotK_eq _ _) ?_ ?_
      ·cases want with
       |true=>exact (zcb true o _ _).trans (congrArg (stepX P G E true o _) (funext fun d=>funext fun H=>(ih (skO sk o.dst) (acc ++ [s.H]) old opn ⟨s.H,setK ((t,V (.bool true)) :: s.T) o.dst d⟩).trans (by rw [z4b ⟨s.H,(t,V (.bool true)) :: s.T⟩])))
       |false=>exact (ih (skN sk o.dst) (acc ++ [s.H]) old opn ⟨s.H,setK ((t,V (.bool true)) :: s.T) o.dst UD⟩).trans (by rw [z4b ⟨s.H,(t,V (.bool true)) :: s.T⟩])
      ·cases want with
       |true=>exact (ih (skN sk o.dst) (acc ++ [s.H]) old opn ⟨s.H,setK ((t,V (.bool false)) :: s.T) o.dst UD⟩).trans (by rw [z4b ⟨s.H,(t,V (.bool false)) :: s.T⟩])
       |false=>exact (zcb true o _ _).trans (congrArg (stepX P G E true o _) (funext fun d=>funext fun H=>(ih (skO sk o.dst) (acc ++ [s.H]) old opn ⟨s.H,setK ((t,V (.bool false)) :: s.T) o.dst d⟩).trans (by rw [z4b ⟨s.H,(t,V (.bool false)) :: s.T⟩])))
  ·cases hg : o.guard with
   |none =>
    exact congrArg (stepA P G E o s) (funext fun d=>funext fun Y=>(iho (skO sk o.dst) (acc ++ [s.H]) ((acc.length,s.H) :: old) acc.length opn (s.H ++ Y) ⟨s.H ++ Y,setK s.T o.dst d⟩).trans (by rw [z4b]))
   |some g=>rfl
  ·cases hg : o.guard with
   |none =>
    exact (zer o s _).trans (congrArg (stepE P G E o s) (funext fun d=>funext fun Y=>(iho (skO sk o.dst) (acc ++ [s.H]) ((acc.length,s.H) :: old) acc.length opn Y ⟨Y,setK s.T o.dst d⟩).trans (by rw [z4b])))
   |some g =>
    obtain ⟨j,want⟩ := g
    dsimp only
    rw [zkS]
    cases hd : dstAt ops j with
    |none=>rfl
    |some t =>
     dsimp only
     cases hc : sk.contains t with
     |true =>
      exact (ih (skN sk o.dst) (acc ++ [s.H]) old opn ⟨s.H,setK s.T o.dst UD⟩).trans (by rw [z4b];rfl)
     |false =>
      refine zbJ (slotK_eq _ _) ?_ ?_
      ·cases want with
       |true=>exact (zer o ⟨s.H,(t,V (.bool true)) :: s.T⟩ _).trans (congrArg (stepE P G E o _) (funext fun d=>funext fun Y=>(iho (skO sk o.dst) (acc ++ [s.H]) ((acc.length,s.H) :: old) acc.length opn Y ⟨Y,setK ((t,V (.bool true)) :: s.T) o.dst d⟩).trans (by rw [z4b ⟨s.H,(t,V (.bool true)) :: s.T⟩])))
       |false=>exact (ih (skN sk o.dst) (acc ++ [s.H]) old opn ⟨s.H,setK ((t,V (.bool true)) :: s.T) o.dst UD⟩).trans (by rw [z4b ⟨s.H,(t,V (.bool true)) :: s.T⟩])
      ·cases want with
       |true=>exact (ih (skN sk o.dst) (acc ++ [s.H]) old opn ⟨s.H,setK ((t,V (.bool false)) :: s.T) o.dst UD⟩).trans (by rw [z4b ⟨s.H,(t,V (.bool false)) :: s.T⟩])
       |false=>exact (zer o ⟨s.H,(t,V (.bool false)) :: s.T⟩ _).trans (congrArg (stepE P G E o _) (funext fun d=>funext fun Y=>(iho (skO sk o.dst) (acc ++ [s.H]) ((acc.length,s.H) :: old) acc.length opn Y ⟨Y,setK ((t,V (.bool false)) :: s.T) o.dst d⟩).trans (by rw [z4b ⟨s.H,(t,V (.bool false)) :: s.T⟩])))
noncomputable abbrev zfR (L : List Nat) (T : Tm) : Tm := List.rec (motive := fun _=>Tm) [] (fun i _ ih=>(i,slotK T i) :: ih) L
theorem zib : ∀ (L : List Nat) (T : Tm),zfR L T = keepT L T
 |[],T=>rfl
 |i :: r,T=>by
  have := zib r T
  show (i,slotK T i) :: zfR r T = (i,get T i) :: keepT r T
  rw [this,slotK_eq]
noncomputable abbrev ghK (g : Option (Nat × Nat × TypeId × Nat)) (s : ASt) : ASt := Option.rec (motive := fun _=>ASt) s (fun q=>ghS q.1 q.2.1 q.2.2.1 q.2.2.2 s) g
theorem zzJ (g : Option (Nat × Nat × TypeId × Nat)) (s : ASt) : ghK g s = ghJ g s := by cases g <;> rfl
noncomputable abbrev rowsK (K : ASt → Option R) (l : List (Nat × TypeId × Nat)) : ASt → Option R :=
 List.rec (motive := fun _=>ASt → Option R) (fun s=>K s) (fun p _ ih s=>rowE (slotK s.T p.1) p.2.1 p.2.2 s.H fun d H=>ih ⟨H,(p.1,d) :: s.T⟩) l
theorem rowsK_eq (K : ASt → Option R) : ∀ (l : List (Nat × TypeId × Nat)) (s : ASt), rowsK K l s = rowsE l s K
  | [], s => rfl
  | (i, e, z) :: r, s => by
    have ih : ∀ s, List.rec (motive := fun _ => ASt → Option R) _ _ r s = _ := fun s => rowsK_eq K r s
    unfold rowsE
    unfold rowsK
    dsimp only
    rw [slotK_eq]
    exact congrArg (rowE _ e z s.H) (funext fun d => funext fun H => ih _)
noncomputable abbrev litK (c : Operand) (b : Bool) (T : Tm) : Tm := Operand.rec (motive := fun _=>Tm) (fun t=>(t,V (.bool b)) :: T) (fun _=>T) (fun _=>T) (fun _=>T) c
theorem zqU (c : Operand) (b : Bool) (T : Tm) : litK c b T = litC c b T := by cases c <;> rfl
noncomputable abbrev zsU (n0 : Nat) (L Lo : List Nat) (kc : ASt → Option R) (kx : KO R) : KO R := fun e s=>match e with|.normal=>backE n0 s.H (zfR L s.T) kc|e=>kx e ⟨s.H,zfR Lo s.T⟩
theorem zko (n0 : Nat) : ∀ (L : List Nat) (T : Tm),(keepT L T).all (fun p=>ltT n0 p.2) = L.all fun i=>ltT n0 (get T i)
 |[],T=>rfl
 |i :: r,T=>by simp only [keepT,List.all_cons,zko n0 r T]
theorem zmS (n0 : Nat) (L Lo : List Nat) (kc : ASt → Option R) (kx : KO R) : zsU n0 L Lo kc kx = backK n0 L Lo kc kx := by
 funext e s
 have e1 : ∀ L,zfR L s.T = keepT L s.T := fun L=>zib L s.T
 cases e with
 |normal =>
  show backE n0 s.H (zfR L s.T) kc = trimE n0 L s kc
  unfold backE trimE
  rw [e1,zko]
 |exit i=>show kx _ ⟨s.H,zfR Lo s.T⟩ = kx _ ⟨s.H,keepT Lo s.T⟩;rw [e1]
 |goto i=>show kx _ ⟨s.H,zfR Lo s.T⟩ = kx _ ⟨s.H,keepT Lo s.T⟩;rw [e1]
 |ret=>show kx _ ⟨s.H,zfR Lo s.T⟩ = kx _ ⟨s.H,keepT Lo s.T⟩;rw [e1]
 |panic i=>show kx _ ⟨s.H,zfR Lo s.T⟩ = kx _ ⟨s.H,keepT Lo s.T⟩;rw [e1]
 |outgrown=>show kx _ ⟨s.H,zfR Lo s.T⟩ = kx _ ⟨s.H,keepT Lo s.T⟩;rw [e1]
noncomputable def gt (T : Tm) (i : Nat) : AV := slotK T i
theorem gt_eq (T : Tm) (i : Nat) : gt T i = get T i := slotK_eq T i
noncomputable def joinW (P : Program) (G : Gl) (E : Env) (M : Nat) (N : FS) (c : Code) (h : Hint) (s : ASt) (k : KO R) : Option R := exec P G E M N c h s k
noncomputable def bodyW (P : Program) (G : Gl) (E : Env) (M : Nat) (N : FS) (c : Code) (h : Hint) (L Lo : List Nat) (s : ASt) (kc : ASt → Option R) (kx : KO R) : Option R := exec P G E M N c h s (backK s.H.length L Lo kc kx)
noncomputable def backW (n0 : Nat) (L Lo : List Nat) (kc : ASt → Option R) (kx : KO R) : KO R := (fun _ : Program → Gl → Env → Nat → FS → Code → Hint → List Nat → List Nat → ASt → (ASt → Option R) → KO R → Option R=>zsU n0 L Lo kc kx) bodyW
theorem zmi (n0 : Nat) (L Lo : List Nat) (kc : ASt → Option R) (kx : KO R) : backW n0 L Lo kc kx = backK n0 L Lo kc kx := zmS n0 L Lo kc kx
noncomputable def seqX (next : ASt → Option R) (k : KO R) : KO R := (fun _ : Program → Gl → Env → Nat → FS → Code → Hint → List Nat → List Nat → ASt → (ASt → Option R) → KO R → Option R=>fun e s=>match e with|.normal=>next s|e=>k e s) bodyW
noncomputable def z3K (id : Nat) (k : KO R) : KO R := (fun _ : Program → Gl → Env → Nat → FS → Code → Hint → List Nat → List Nat → ASt → (ASt → Option R) → KO R → Option R=>fun e s=>match e with|.exit i=>(match Nat.beq i id with|true=>k .normal s|false=>k (.exit i) s)|e=>k e s) bodyW
noncomputable abbrev zpi {α X : Type} (l : List α) (k : List α → X) : X := List.rec (motive := fun _=>(List α → X) → X) (fun k=>k []) (fun a _ ih k=>ih (fun r=>k (a :: r))) l k
theorem zku {α X : Type} : ∀ (l : List α) (k : List α → X),zpi l k = k l
 |[],k=>rfl
 |a :: r,k=>(zku r (fun r=>k (a :: r)) : zpi r (fun r=>k (a :: r)) = k (a :: r))
noncomputable abbrev ancsK {X : Type} (l : List Oper) (acc : List Nat) (k : List Nat → X) : X := List.rec (motive := fun _=>List Nat → (List Nat → X) → X) (fun acc k=>k acc) (fun o _ ih acc k=>zpi (acc ++ [maskO acc o]) fun acc=>ih acc k) l acc k
theorem zoz {X : Type} : ∀ (l : List Oper) (acc : List Nat) (k : List Nat → X),ancsK l acc k = k (ancs l acc)
 |[],acc,k=>rfl
 |o :: r,acc,k=>by
  show zpi (acc ++ [maskO acc o]) (fun acc=>ancsK r acc k) = k (ancs r (acc ++ [maskO acc o]))
  rw [zku,zoz r]
noncomputable abbrev allK (l : List Oper) (f : Nat → Oper → Bool) (j : Nat) : Bool := List.rec (motive := fun _=>Nat → Bool) (fun _=>true) (fun o _ ih j=>Bool.rec (motive := fun _=>Bool) false (ih (j + 1)) (f j o)) l j
theorem zqj (o : Oper) (r : List Oper) (f : Nat → Oper → Bool) : allL (o :: r) f = (f 0 o && allL r fun k=>f (k + 1)) := by
 unfold allL
 rw [List.length_cons,List.range_succ_eq_map,List.all_cons,List.all_map]
 rfl
theorem zru : ∀ (l : List Oper) (f : Nat → Oper → Bool) (j : Nat),allK l f j = allL l fun k=>f (k + j)
 |[],f,j=>rfl
 |o :: r,f,j=>by
  rw [zqj]
  have := zru r f (j + 1)
  show Bool.rec (motive := fun _=>Bool) false (allK r f (j + 1)) (f j o) = _
  rw [this]
  have e : (fun k=>f (k + (j + 1))) = fun k=>f (k + 1 + j) := by funext k;congr 1;omega
  rw [e]
  simp only [Nat.zero_add]
  cases f j o <;> rfl
theorem zu7 (l : List Oper) (f : Nat → Oper → Bool) : allL l f = allK l f 0 := (zru l f 0).symm
noncomputable abbrev oddA (ops : List Oper) (A : List Nat) (p : Nat) : Bool := isAl ops p && isAl ops (p + 1) && allK ops (fun j _=>!((A.getD j 0).testBit (p + 1)) || (A.getD j 0).testBit p) 0
noncomputable abbrev tailA (kc : KC) (ops : List Oper) (N : Nat) (A : List Nat) : Bool :=
  allK ops (fun k o =>
    (match o.dst with
      | some d => decide (d < N) && allK ops (fun q oq => q == k || oq.dst != some d) 0
      | none => clsO kc o.op != 0) &&
    (decide (clsO kc o.op ≤ 1) || allK ops (fun i oi => i == k || clsO kc oi.op == 0 || (if i < k then (A.getD k 0).testBit i else (A.getD i 0).testBit k)) 0) &&
    (decide (clsO kc o.op ≠ 1) || allK ops (fun i oi => i == k || decide (clsO kc oi.op ≠ 1) || (if i < k then (A.getD k 0).testBit i || (k == i + 1 && oddA ops A i) else (A.getD i 0).testBit k || (i == k + 1 && oddA ops A k))) 0)) 0
noncomputable abbrev zzC (ops : List Oper) (A : List Nat) : Bool :=
 allK ops (fun j o=>(zqF o ++ (match o.guard with|some (k,_)=>(dstAt ops k).toList|none=>[])).all fun t =>
  (allK ops (fun k ok=>ok.dst != some t || (A.getD k 0).testBit j) 0) || !(allK ops (fun k ok=>!(decide (k < j) && ok.dst == some t && (A.getD j 0).testBit k)) 0)) 0
noncomputable abbrev drawA (kc : KC) (N : Nat) (ops : List Oper) (A : List Nat) : Bool := zaZ ops.toArray && tailA kc ops N A && zzC ops A
theorem ztP (kc : KC) (N : Nat) (ops : List Oper) : drawA kc N ops (ancs ops []) = zno kc N ops := by
 unfold zno tailY ztq oddY
 simp only [zu7]
 rfl
noncomputable abbrev runQK (P : Program) (G : Gl) (E : Env) (ops : List Oper) (K : ASt → Option R) (l : List Oper) : List Nat → ASt → Option R :=
  List.rec (motive := fun _ => List Nat → ASt → Option R) (fun _ s => K s)
    (fun o _ ih sk s => match o.guard with
        | none => stepK P G E true o.op s fun d _ => ih (skO sk o.dst) ⟨s.H, setK s.T o.dst d⟩
        | some (j, want) => match dstK ops j with
          | none => none
          | some t => iteK (sk.contains t) (ih (skN sk o.dst) ⟨s.H, setK s.T o.dst UD⟩)
            (boolC (slotK s.T t)
              (iteK want (stepK P G E true o.op ⟨s.H, (t, V (.bool true)) :: s.T⟩ fun d _ => ih (skO sk o.dst) ⟨s.H, setK ((t, V (.bool true)) :: s.T) o.dst d⟩) (ih (skN sk o.dst) ⟨s.H, setK ((t, V (.bool true)) :: s.T) o.dst UD⟩))
              (iteK want (ih (skN sk o.dst) ⟨s.H, setK ((t, V (.bool false)) :: s.T) o.dst UD⟩) (stepK P G E true o.op ⟨s.H, (t, V (.bool false)) :: s.T⟩ fun d _ => ih (skO sk o.dst) ⟨s.H, setK ((t, V (.bool false)) :: s.T) o.dst d⟩)))) l
theorem zoU (ops : List Oper) (K : ASt → Option R) (hq : ∀ (k : Nat) (o : Oper),ops[k]? = some o → clsO (kcE E) o.op = 0) : ∀ (l : List Oper) (sk : List Nat) (acc : List (List AObj)) (old : List (Nat × List AObj)) (opn : List OpI) (s : ASt),(∀ o ∈ l,clsO (kcE E) o.op = 0) → (∀ x ∈ acc,x = s.H) → runQK P G E ops K l sk s = runD P G E ops sk acc old opn l s K
 |[],sk,acc,old,opn,s,hl,ha=>rfl
 |o :: r,sk,acc,old,opn,s,hl,ha=>by
  have ih : ∀ sk T,List.rec (motive := fun _=>List Nat → ASt → Option R) _ _ r sk (⟨s.H,T⟩ : ASt) = _ := fun sk T=>zoU ops K hq r sk (acc ++ [s.H]) old opn ⟨s.H,T⟩ (fun o h=>hl o (List.mem_cons_of_mem _ h)) (fun x h=>by
   rcases List.mem_append.1 h with h|h
   ·exact ha x h
   ·exact List.mem_singleton.1 h)
  have h0 : clsO (kcE E) o.op = 0 := hl o (List.mem_cons_self ..)
  have hlo : loI (kcE E) ops (ancs ops []) acc.length = 0 := by
   rcases zj6 (kc := kcE E) ops acc.length with h|⟨q,o',h1,h2,h3,h4,h5⟩
   ·exact h.1
   ·exact absurd (hq q o' h3) h4
  have hH : lowH (kcE E) ops (ancs ops []) (acc ++ [s.H]) acc.length = s.H := by
   unfold lowH
   rw [zk9 hq]
   dsimp only
   rw [hlo]
   cases acc with
   |nil=>rfl
   |cons x a=>exact ha x (List.mem_cons_self ..)
  unfold runD
  unfold runQK
  rw [h0,hH]
  dsimp only
  rw [show openA (freeI (kcE E) ops (ancs ops []) acc.length) o = none by rw [zk9 hq];unfold openA;rfl]
  dsimp only
  cases hg : o.guard with
   |none =>
    dsimp only
    rw [zcb]
    exact congrArg (stepX P G E true o _) (funext fun d=>funext fun H=>(ih (skO sk o.dst) (setK s.T o.dst d)).trans (by rw [z4b]))
   |some g =>
    obtain ⟨j,want⟩ := g
    dsimp only
    rw [zkS]
    cases hd : dstAt ops j with
    |none=>rfl
    |some t =>
     dsimp only
     cases hc : sk.contains t with
     |true =>
      exact (ih (skN sk o.dst) (setK s.T o.dst UD)).trans (by rw [z4b];rfl)
     |false =>
      refine zbJ (slotK_eq _ _) ?_ ?_
      ·cases want with
       |true=>exact (zcb true o _ _).trans (congrArg (stepX P G E true o _) (funext fun d=>funext fun H=>(ih (skO sk o.dst) (setK ((t,V (.bool true)) :: s.T) o.dst d)).trans (by rw [z4b ⟨s.H,(t,V (.bool true)) :: s.T⟩])))
       |false=>exact (ih (skN sk o.dst) (setK ((t,V (.bool true)) :: s.T) o.dst UD)).trans (by rw [z4b ⟨s.H,(t,V (.bool true)) :: s.T⟩])
      ·cases want with
       |true=>exact (ih (skN sk o.dst) (setK ((t,V (.bool false)) :: s.T) o.dst UD)).trans (by rw [z4b ⟨s.H,(t,V (.bool false)) :: s.T⟩])
       |false=>exact (zcb true o _ _).trans (congrArg (stepX P G E true o _) (funext fun d=>funext fun H=>(ih (skO sk o.dst) (setK ((t,V (.bool false)) :: s.T) o.dst d)).trans (by rw [z4b ⟨s.H,(t,V (.bool false)) :: s.T⟩])))
noncomputable abbrev runZK (P : Program) (G : Gl) (E : Env) (ops : List Oper) (A : List Nat) (K : ASt → Option R) (s : ASt) : Option R :=
 iteK (allK ops (fun _ o=>Nat.beq (clsO (kcE E) o.op) 0) 0) (runQK P G E ops K ops [] s) (runDK P G E ops A K ops [] [] [] [] s)
theorem zsv (ops : List Oper) (K : ASt → Option R) (s : ASt) : runZK P G E ops (ancs ops []) K s = runD P G E ops [] [] [] [] ops s K := by
 unfold runZK
 cases h : allK ops (fun _ o=>Nat.beq (clsO (kcE E) o.op) 0) 0 with
 |false=>exact znX ops K ops [] [] [] [] s
 |true =>
  rw [← zu7] at h
  have hq : ∀ (k : Nat) (o : Oper),ops[k]? = some o → clsO (kcE E) o.op = 0 := fun k o ho=>Nat.eq_of_beq_eq_true (zaL h ho)
  exact zoU ops K hq ops [] [] [] [] s (fun o ho=>by obtain ⟨k,hk⟩ := List.getElem?_of_mem ho;exact hq k o hk) (fun x hx=>absurd hx List.not_mem_nil)
noncomputable abbrev anyPK (E : Env) : Bool := List.rec (motive := fun _=>Bool) false (fun p _ ih=>Ent.rec (motive := fun _=>Bool) (fun _=>ih) (fun _=>ih) (fun _=>ih) (fun _=>true) p.2) E
theorem zkg : ∀ (E : Env),anyPK E = E.any isPan
 |[]=>rfl
 |(f, .tell g) :: r=>zkg r
 |(f, .keep g) :: r=>zkg r
 |(f, .add g) :: r=>zkg r
 |(f, .pan g) :: r=>rfl
noncomputable abbrev noGK (l : List Oper) : Bool := List.rec (motive := fun _=>Bool) true (fun o _ ih=>Option.rec (motive := fun _=>Bool) ih (fun _=>false) o.guard) l
theorem zr5 : ∀ (l : List Oper),noGK l = l.all noGd
 |[]=>rfl
 |⟨d,op,ty,ps,af,none⟩ :: r=>by
  have := zr5 r
  rw [List.all_cons,← this];rfl
 |⟨d,op,ty,ps,af,some g⟩ :: r=>rfl
noncomputable abbrev panQK (E : Env) (ops : List Oper) : Bool := iteK (anyPK E) (noGK ops) false
theorem zs6 (E : Env) (ops : List Oper) : panQK E ops = panQ E ops := by
 unfold panQ
 rw [← zkg,← zr5]
 show iteK (anyPK E) (noGK ops) false = _
 cases anyPK E <;> rfl
abbrev zt9 (e : Option Ent) (args : List AV) (H : List AObj) (K : AV → List AObj → Option R) (KP : Value → List AObj → Option R) : Option R :=
 match e with
 |some (.pan g)=>panE (g args H) K KP
 |some (.tell g)=>tellE (g args) args fun X=>K X H
 |some (.keep g)=>keepE (g args H) K
 |some (.add g)=>addE (g args H.length) H K
 |none=>none
theorem zq6 (e : Option Ent) (args : List AV) (H : List AObj) (K : AV → List AObj → Option R) (KP : Value → List AObj → Option R) : zt9 e args H K KP = znA e args H K KP := by
 rcases e with _|(_|_|_|_) <;> rfl
noncomputable abbrev ztH (P : Program) (G : Gl) (E : Env) (o : Op) (s : ASt) (K : AV → List AObj → Option R) (KP : Value → List AObj → Option R) : Option R :=
 match o with
 |.panic x=>znx (evK G s.T x) s.H KP
 |.makeInterface t x=>whenE (P.concrete t) (ifE t (evK G s.T x) fun d=>K d s.H)
 |.call { callee := .value (.func f),args := args,argTypes := _ }=>zt9 (findK E f) (mapK (ro s.H) (mapK (evK G s.T) args.toList)) s.H K KP
 |.call { callee := .value (.tmp t),args := args,argTypes := _ }=>zkU E (slotK s.T t) (mapK (evK G s.T) args.toList) s.H K KP
 |o=>stepK P G E false o s K
theorem zqA (o : Oper) (s : ASt) (K : AV → List AObj → Option R) (KP : Value → List AObj → Option R) : ztH P G E o.op s K KP = stepP P G E o s K KP := by
 have key := zer (P := P) (G := G) (E := E) o s K
 obtain ⟨dst,op,ty,pos,af,gd⟩ := o
 have e1 : ∀ T,evK G T = ev G T := fun T=>funext (zaf G T)
 unfold stepP
 unfold ztH
 dsimp only at key ⊢
 cases op
 case call c =>
  obtain ⟨cal,⟨args⟩,⟨ts⟩⟩ := c
  cases cal
  case value f =>
   cases f
   case tmp t=>show zkU E (slotK s.T t) (mapK (evK G s.T) args) s.H K KP = zkU E (get s.T t) (args.map (ev G s.T)) s.H K KP;rw [slotK_eq,zcT,e1]
   case func f=>show zt9 (findK E f) (mapK (ro s.H) (mapK (evK G s.T) args)) s.H K KP = znA (findE E f) ((args.map (ev G s.T)).map (ro s.H)) s.H K KP;rw [findK_eq,zcT,zcT,e1,zq6]
   all_goals exact key
  case invoke r m=>exact key
  case builtin b=>exact key
 case panic x =>
  show znx (evK G s.T x) s.H KP = znx (ev G s.T x) s.H KP
  rw [zaf]
 case makeInterface t x =>
  show whenE (P.concrete t) (ifE t (evK G s.T x) fun d=>K d s.H) = whenE (P.concrete t) (ifE t (ev G s.T x) fun d=>K d s.H)
  rw [zaf]
 all_goals exact key
noncomputable abbrev runPK (P : Program) (G : Gl) (E : Env) (K : ASt → Option R) (KP : Value → ASt → Option R) (l : List Oper) : ASt → Option R :=
  List.rec (motive := fun _ => ASt → Option R) (fun s => K s)
    (fun o _ ih s => match o.guard with
      | none => ztH    P G E o.op s (fun d H => ih ⟨H, setK s.T o.dst d⟩) (fun u H => KP u ⟨H, s.T⟩)
      | some _ => none) l
theorem zot (K : ASt → Option R) (KP : Value → ASt → Option R) : ∀ (l : List Oper) (s : ASt),runPK P G E K KP l s = runP P G E l s K KP
 |[],s=>rfl
 |o :: r,s=>by
  have ih : ∀ s,List.rec (motive := fun _=>ASt → Option R) _ _ r s = _ := fun s=>zot K KP r s
  unfold runP
  unfold runPK
  dsimp only
  cases hg : o.guard with
  |none =>
   dsimp only
   rw [zqA]
   congr 1
   funext d H
   exact (ih _).trans (by rw [z4b])
  |some g=>rfl
noncomputable abbrev execK (P : Program) (G : Gl) (E : Env) (M : Nat) (N : FS) (c : Code) : Hint → ASt → KO R → Option R :=
  Code.rec (motive := fun _ => Hint → ASt → KO R → Option R)
    (fun h s k => k .normal s)
    (fun id ops draw h s k => zpi    ops.toList fun l => iteK draw
      (ancsK l [] fun A => whenK (drawA (kcE E) N l A) (runZK P G E l A (fun s => k .normal s) s))
      (whenK (fits N l) (iteK (panQK E l) (runPK P G E (fun s => k .normal s) (fun u s => k (.panic (pch u)) s) l s) (runK P G E false l (fun s => k .normal s) l [] s))))
    (fun a b iha ihb h s k => iha h.l s (fun e s' => match e with | .normal => Option.rec (motive := fun _ => Option R) (ihb h.r s' k) (fun L => joinW P G E M N b h.r (ghK h.gho ⟨s'.H, zfR    L s'.T⟩) k) h.J | e => k e s'))
    (fun c x y ihx ihy h s k => boolC (evK G s.T c) (ihx h.l ⟨s.H, litK c true s.T⟩ k) (ihy h.r ⟨s.H, litK c false s.T⟩ k))
    (fun id c ih h s k => ih h.c s (fun e s' => match e with | .exit i => (iteK (Nat.beq i id) (k .normal s') (k (.exit i) s')) | e => k e s'))
    (fun c ih h s k => rowsK (fun s => iterC M (bodyW P G E M N c h.c h.L h.Lo) ⟨s.H, zfR    h.L s.T⟩ k) h.rows s)
    (fun _ _ _ _ _ _ _ _ _ => none)
    (fun id h s k => k (.exit id) s)
    (fun _ _ _ _ _ => none)
    (fun _ _ _ _ => none)
    (fun _ _ _ _ => none)
    (fun h s k => k .ret s)
    (fun _ _ _ _ => none) c
theorem z8w : ∀ (c : Code) (h : Hint) (s : ASt) (k : KO R),execK P G E M N c h s k = exec P G E M N c h s k
 |.skip,h,s,k=>rfl
 |.region id ops draw,h,s,k=>by
  refine (zku ops.toList _).trans ?_
  cases draw with
  |true =>
   refine (zoz ops.toList [] fun A=>whenK (drawA (kcE E) N ops.toList A) (runZK P G E ops.toList A (fun s=>k .normal s) s)).trans ?_
   rw [ztP]
   show whenK (zno (kcE E) N ops.toList) (runZK P G E ops.toList (ancs ops.toList []) (fun s=>k .normal s) s) = whenE _ _
   rw [zmk,zsv]
  |false =>
   show whenK _ (iteK (panQK E ops.toList) (runPK P G E (fun s=>k .normal s) (fun u s=>k (.panic (pch u)) s) ops.toList s) (runK P G E false ops.toList (fun s=>k .normal s) ops.toList [] s)) = whenE _ _
   rw [zmk,zrJ,zot,zs6]
   cases panQ E ops.toList <;> rfl
 |.seq a b,h,s,k=>by
  show execK P G E M N a h.l s _ = exec P G E M N a h.l s _
  rw [z8w a]
  congr 1
  funext e s'
  cases e with
  |normal =>
   dsimp only
   cases hj : h.J with
   |none=>rw [Hint.gho_none hj];exact z8w b h.r s' k
   |some L =>
    show exec P G E M N b h.r (ghK h.gho ⟨s'.H,zfR L s'.T⟩) k = exec P G E M N b h.r (ghJ h.gho ⟨s'.H,keepT L s'.T⟩) k
    rw [zib,zzJ]
  |exit id=>rfl
  |goto l=>rfl
  |ret=>rfl
  |panic ch=>rfl
  |outgrown=>rfl
 |.cond c x y,h,s,k=>by
  show boolC (evK G s.T c) (execK P G E M N x h.l _ k) (execK P G E M N y h.r _ k) = _
  rw [z8w x,z8w y,zaf,zqU,zqU]
  rfl
 |.block id c,h,s,k=>by
  show execK P G E M N c h.c s _ = exec P G E M N c h.c s _
  rw [z8w c]
  congr 1
  funext e s'
  cases e with
  |exit i =>
   show iteK (Nat.beq i id) _ _ = _
   dsimp only
   cases Nat.beq i id <;> rfl
  |normal=>rfl
  |goto l=>rfl
  |ret=>rfl
  |panic ch=>rfl
  |outgrown=>rfl
 |.loop c,h,s,k=>by
  show rowsK _ h.rows s = rowsE h.rows s _
  rw [rowsK_eq]
  congr 1
  funext s
  rw [zib]
  rfl
 |.rangeFunc ..,h,s,k=>rfl
 |.scope _,h,s,k=>rfl
 |.label _,h,s,k=>rfl
 |.goto _,h,s,k=>rfl
 |.refuse _,h,s,k=>rfl
 |.exit id,h,s,k=>rfl
 |.ret,h,s,k=>rfl
theorem z04 (P : Program) (G : Gl) (E : Env) (M : Nat) (N : FS) (c : Code) (h : Hint) (s : ASt) (k : KO R) : joinW P G E M N c h s k = execK P G E M N c h s k := (z8w c h s k).symm
theorem z2i (P : Program) (G : Gl) (E : Env) (M : Nat) (N : FS) (c : Code) (h : Hint) (L Lo : List Nat) (s : ASt) (kc : ASt → Option R) (kx : KO R) : bodyW P G E M N c h L Lo s kc kx = execK P G E M N c h s (zsU s.H.length L Lo kc kx) := by
 rw [z8w,zmS];rfl
noncomputable abbrev resEK (P : Program) (H : List AObj) (T : Tm) (rs : List ResultVar) : (List AV → RO) → RO :=
 List.rec (motive := fun _=>(List AV → RO) → RO) (fun K=>K [])
  (fun r _ ih K=>ResultVar.rec (motive := fun _=>RO) (fun t=>ih fun ds=>K (gt T t :: ds)) (fun b t=>loadE (kindT P t) H (gt T b) fun d=>ih fun ds=>K (d :: ds)) r) rs
theorem zf7 {P : Program} {H : List AObj} {T : Tm} : ∀ (rs : List ResultVar) (K : List AV → RO),resEK P H T rs K = resE P H T rs K
 |[],K=>rfl
 |.tmp t :: rs,K=>by
  have ih : ∀ K,resEK P H T rs K = _ := fun K=>zf7 rs K
  show resEK P H T rs (fun ds=>K (gt T t :: ds)) = resE P H T rs (fun ds=>K (get T t :: ds))
  rw [ih,gt_eq]
 |.cell b t :: rs,K=>by
  have ih : ∀ K,resEK P H T rs K = _ := fun K=>zf7 rs K
  show loadE (kindT P t) H (gt T b) (fun d=>resEK P H T rs fun ds=>K (d :: ds)) = loadE (kindT P t) H (get T b) (fun d=>resE P H T rs fun ds=>K (d :: ds))
  rw [gt_eq]
  exact congrArg (loadE _ _ _) (funext fun d=>ih _)
noncomputable abbrev z3I (P : Program) (rs : List ResultVar) : KO (AV × List AObj) := fun e s=>match e with
 |.normal=>resEK P s.H s.T rs fun ds=>tellK s.H (ro s.H (oneOf ds))
 |.ret=>resEK P s.H s.T rs fun ds=>tellK s.H (ro s.H (oneOf ds))
 |_=>none
theorem zqo (P : Program) (rs : List ResultVar) : z3I P rs = tellF P rs := by
 funext e s
 cases e <;> first|rfl|exact zf7 rs _
noncomputable abbrev z77 (P : Program) (n : Nat) (rs : List ResultVar) : KO (AV × List AObj) := fun e s=>match e with
 |.normal=>resEK P s.H s.T rs fun ds=>keepK n s.H (ro s.H (oneOf ds))
 |.ret=>resEK P s.H s.T rs fun ds=>keepK n s.H (ro s.H (oneOf ds))
 |_=>none
theorem zpO (P : Program) (n : Nat) (rs : List ResultVar) : z77 P n rs = keepF P n rs := by
 funext e s
 cases e <;> first|rfl|exact zf7 rs _
theorem tellX (P : Program) (G : Gl) (E : Env) (M : Nat) (N : FS) (c : Code) (h : Hint) (s : ASt) (rs : List ResultVar) : exec P G E M N c h s (z3I P rs) = execK P G E M N c h s (z3I P rs) := (z8w c h s _).symm
theorem keepX (P : Program) (G : Gl) (E : Env) (M : Nat) (N : FS) (n : Nat) (c : Code) (h : Hint) (s : ASt) (rs : List ResultVar) : exec P G E M N c h s (z77 P n rs) = execK P G E M N c h s (z77 P n rs) := (z8w c h s _).symm
theorem z0B {G : Gl} {E : Env} {M : Nat} {P : Program} {N : Nat} (hm : P.follows .mixedOrders = true) (hE : EnvOk P G E) {f : FuncId} {fn : Func} {c : Code} {args : List AV} (hf : P.funcs[f]? = some fn) (hb : fn.body = some c) (hc : zdb P f = true) (rs : List ResultVar) (hrs : fn.results.toList = rs) (hN : fn.ntmps = N) (hargs : args.length ≤ N) (h : Hint)
  {X : AV} {H' : List AObj} (hx : exec P G E M (F0 N) c h ⟨[],argsT 0 args⟩ (z3I P rs) = some (X,H')) : ACp P G f args X :=
 zu9 hm hE hf hb hc rs hrs hN hargs h (by rw [← zqo];exact hx)
theorem z2x {G : Gl} {E : Env} {M : Nat} {P : Program} {N : Nat} {H : List AObj} (hm : P.follows .mixedOrders = true) (hE : EnvOk P G E) {f : FuncId} {fn : Func} {c : Code} {args : List AV} (hf : P.funcs[f]? = some fn) (hb : fn.body = some c) (hc : zdb P f = true) (rs : List ResultVar) (hrs : fn.results.toList = rs) (hN : fn.ntmps = N) (hargs : args.length ≤ N) (h : Hint)
  {X : AV} {H' : List AObj} (hx : exec P G E M (F0 N) c h ⟨H,argsT 0 args⟩ (z77 P H.length rs) = some (X,H')) : AC P G f args H (Is X H') :=
 zuA hm hE hf hb hc rs hrs hN hargs h (by rw [← zpO];exact hx)
end
end Go.Proofs.Ytaaogcnjfkgnoaa

namespace Go.Proofs.Ytaaogcnjfkgnoaa
open Go.RowKit
section
variable {P : Program} {G : Gl} {E : Env} {M n : Nat} {H : List AObj}
theorem HLe.refl : ∀ (H : List AObj),HLe H H
 |[]=>trivial
 |o :: r=>⟨.inl rfl,HLe.refl r⟩
def panKE (n : Nat) (H : List AObj) (u : Value) : RO := whenE (decide (n ≤ H.length) && (H.take n).all (ltO n)) (some (PN u,H.take n))
abbrev chE (ch : List PanicEntry) (K : Value → RO) : RO := match ch with|[⟨u,false,false⟩]=>K u|_=>none
def openK (H : List AObj) (X : AV) : RO := whenE (H.all (ltO H.length) && ltT H.length X) (some (X,H))
noncomputable abbrev zmf (P : Program) (n : Nat) (rs : List ResultVar) : KO (AV × List AObj) := fun e s=>match e with
 |.normal=>resEK P s.H s.T rs fun ds=>openK s.H (ro s.H (oneOf ds))
 |.ret=>resEK P s.H s.T rs fun ds=>openK s.H (ro s.H (oneOf ds))
 |_=>none
theorem openX (P : Program) (G : Gl) (E : Env) (M : Nat) (N : FS) (n : Nat) (c : Code) (h : Hint) (s : ASt) (rs : List ResultVar) : exec P G E M N c h s (zmf P n rs) = execK P G E M N c h s (zmf P n rs) := (z8w c h s _).symm
theorem zmZ {N : Nat} (hm : P.follows .mixedOrders = true) (hE : EnvOk P G E) {f : FuncId} {fn : Func} {c : Code} {args : List AV} (hf : P.funcs[f]? = some fn) (hb : fn.body = some c) (hc : zdb P f = true) (rs : List ResultVar) (hrs : fn.results.toList = rs) (hN : fn.ntmps = N) (hargs : args.length ≤ N) (h : Hint)
  {X : AV} {H' : List AObj} (hx : exec P G E M (F0 N) c h ⟨H,argsT 0 args⟩ (zmf P n rs) = some (X,H')) : AC P G f args H (Is X H') := by
 have key := AWp.len (zat (n := H.length) hm hE c h ⟨H,argsT 0 args⟩ _ (Nat.le_refl _) hx) (Nat.le_refl _)
 have fin : ∀ s : ASt,(resEK P s.H s.T rs fun ds=>openK s.H (ro s.H (oneOf ds))) = some (X,H') → H.length ≤ s.H.length →
   resC P s.H s.T rs fun ds=>∃ X' H'',(X' = oneOf ds ∨ X' = ro s.H (oneOf ds)) ∧ HLe s.H H'' ∧ H''.all (ltO H''.length) = true ∧ H.length ≤ H''.length ∧ ltT H''.length X' = true ∧ Is X H' X' H'' := by
  intro s q hl
  rw [zf7] at q
  refine z9f (fun ds w=>?_) (zjb q)
  obtain ⟨h1,h2⟩ := z03 w
  simp only [Bool.and_eq_true] at h1
  cases h2
  exact ⟨_,_, .inr rfl,HLe.refl _,h1.1,hl,h1.2,rfl,rfl⟩
 refine zkO hf hb hc rs hrs N hN hargs (AWp.mono key fun e s q=>?_)
 obtain ⟨q,hl⟩ := q
 cases e with
 |normal=>exact fin s q hl
 |ret=>exact fin s q hl
 |exit id=>cases q
 |goto l=>cases q
 |panic ch=>cases q
 |outgrown=>cases q
noncomputable abbrev rawFK (P : Program) (n : Nat) (rs : List ResultVar) : KO (AV × List AObj) := fun e s=>match e with
 |.normal=>resEK P s.H s.T rs fun ds=>some (ro s.H (oneOf ds),s.H)
 |.ret=>resEK P s.H s.T rs fun ds=>some (ro s.H (oneOf ds),s.H)
 |.panic ch=>chE ch fun u=>some (PN u,s.H)
 |_=>none
theorem rawX (P : Program) (G : Gl) (E : Env) (M : Nat) (N : FS) (n : Nat) (c : Code) (h : Hint) (s : ASt) (rs : List ResultVar) : exec P G E M N c h s (rawFK P n rs) = execK P G E M N c h s (rawFK P n rs) := (z8w c h s _).symm
def endC : Nat → Code → Code
 |0,c=>c
 |m + 1, .seq _ b=>endC m b
 |_ + 1,c=>c
end
def farC : Nat → Code → Code → Code
 |0,_,t=>t
 |m + 1, .seq a b,t=>.seq a (farC m b t)
 |_ + 1,c,_=>c
def deepC : Nat → Code → Bool
 |0,_=>true
 |m + 1, .seq _ b=>deepC m b
 |_ + 1,_=>false
section
variable {P : Program} {G : Gl} {N : FS} {n : Nat} {E : Env} {M : Nat} {R : Type}
end
end Go.Proofs.Ytaaogcnjfkgnoaa

namespace Go.Proofs.Ytaaogcnjfkgnoaa
open Go.RowKit
abbrev nA (n : Int) : AV := V (.int .i64 n)
abbrev bA (b : Bool) : AV := V (.bool b)
abbrev sA (s : List UInt8) : AV := V (.string ⟨s.toArray⟩)
section
variable {R : Type} {K : AV → Option R} {ks : Option (List CK)} {isB sl : Bool} {k k' : IntKind} {a b : Int} {A B : Option R} {H : List AObj} {T : Tm} {x y z : AV} {i j n m o : Nat} {cs es : List AV}
theorem u_add : binE ks isB sl .add (V (.int k a)) (V (.int k b)) K = K (V (.int k (k.wrap (a + b)))) := by simp [binE,intE,whenE]
theorem u_sub : binE ks isB sl .sub (V (.int k a)) (V (.int k b)) K = K (V (.int k (k.wrap (a - b)))) := by simp [binE,intE,whenE]
theorem u_mul : binE ks isB sl .mul (V (.int k a)) (V (.int k b)) K = K (V (.int k (k.wrap (a * b)))) := by simp [binE,intE,whenE]
theorem u_quo : binE ks isB sl .quo (V (.int k a)) (V (.int k b)) K = whenE (decide (¬ b = 0)) (K (V (.int k (k.wrap (a.tdiv b))))) := by simp [binE,intE,whenE]
theorem u_rem : binE ks isB sl .rem (V (.int k a)) (V (.int k b)) K = whenE (decide (¬ b = 0)) (K (V (.int k (a.tmod b)))) := by simp [binE,intE,whenE]
theorem u_and : binE ks isB sl .and (V (.int k a)) (V (.int k b)) K = K (V (.int k (bits .and k a b))) := by simp [binE,intE,whenE]
theorem u_or : binE ks isB sl .or (V (.int k a)) (V (.int k b)) K = K (V (.int k (bits .or k a b))) := by simp [binE,intE,whenE]
theorem u_xor : binE ks isB sl .xor (V (.int k a)) (V (.int k b)) K = K (V (.int k (bits .xor k a b))) := by simp [binE,intE,whenE]
theorem zoO : binE ks isB sl .andNot (V (.int k a)) (V (.int k b)) K = K (V (.int k (bits .andNot k a b))) := by simp [binE,intE,whenE]
theorem u_shl : binE ks isB sl .shl (V (.int k a)) (V (.int k' b)) K = whenE (decide (0 ≤ b)) (K (V (.int k (k.wrap (a * 2 ^ (min b.toNat k.bits)))))) := by simp [binE,intE,whenE]
theorem u_shr : binE ks isB sl .shr (V (.int k a)) (V (.int k' b)) K = whenE (decide (0 ≤ b)) (K (V (.int k (a.fdiv (2 ^ (min b.toNat k.bits)))))) := by simp [binE,intE,whenE]
theorem u_eql : binE ks isB sl .eql (V (.int k a)) (V (.int k b)) K = K (V (.bool (decide (a = b)))) := by simp [binE,intE,whenE]
theorem u_neq : binE ks isB sl .neq (V (.int k a)) (V (.int k b)) K = K (V (.bool (!decide (a = b)))) := by simp [binE,intE,whenE]
theorem u_lss : binE ks isB sl .lss (V (.int k a)) (V (.int k b)) K = K (V (.bool (decide (a < b)))) := by simp [binE,intE,whenE]
theorem u_leq : binE ks isB sl .leq (V (.int k a)) (V (.int k b)) K = K (V (.bool (decide (a ≤ b)))) := by simp [binE,intE,whenE]
theorem u_gtr : binE ks isB sl .gtr (V (.int k a)) (V (.int k b)) K = K (V (.bool (decide (b < a)))) := by simp [binE,intE,whenE]
theorem u_geq : binE ks isB sl .geq (V (.int k a)) (V (.int k b)) K = K (V (.bool (decide (b ≤ a)))) := by simp [binE,intE,whenE]
section
variable {s t : List UInt8}
theorem zvQ : binE ks isB sl .add (V (.string ⟨s.toArray⟩)) (V (.string ⟨t.toArray⟩)) K = whenE (decide ((((s.length + t.length : Nat) : Int)) ≤ 9223372036854775807)) (K (V (.string ⟨(s ++ t).toArray⟩))) := _root_.id rfl
theorem zum : binE ks isB sl .eql (V (.string ⟨s.toArray⟩)) (V (.string ⟨t.toArray⟩)) K = K (V (.bool (decide (s = t)))) := _root_.id rfl
theorem zuu : binE ks isB sl .neq (V (.string ⟨s.toArray⟩)) (V (.string ⟨t.toArray⟩)) K = K (V (.bool (!decide (s = t)))) := _root_.id rfl
theorem zur : binE ks isB sl .lss (V (.string ⟨s.toArray⟩)) (V (.string ⟨t.toArray⟩)) K = K (V (.bool (Op.bytesLess s t))) := _root_.id rfl
theorem zvt : binE ks isB sl .leq (V (.string ⟨s.toArray⟩)) (V (.string ⟨t.toArray⟩)) K = K (V (.bool (Op.bytesLess s t || decide (s = t)))) := _root_.id rfl
theorem zue : binE ks isB sl .gtr (V (.string ⟨s.toArray⟩)) (V (.string ⟨t.toArray⟩)) K = K (V (.bool (!(Op.bytesLess s t || decide (s = t))))) := _root_.id rfl
theorem zwT : binE ks isB sl .geq (V (.string ⟨s.toArray⟩)) (V (.string ⟨t.toArray⟩)) K = K (V (.bool (!Op.bytesLess s t))) := _root_.id rfl
theorem zv0 {isS isL : Bool} : lenE isS isL H (V (.string ⟨s.toArray⟩)) K = whenE isS (K (V (.int .i64 s.length))) := _root_.id rfl
theorem zu1 {isS : Bool} {at_ : Option (Nat × Nat)} : idxVE isS at_ (V (.string ⟨s.toArray⟩)) (V (.int k a)) K = whenE (isS && decide (0 ≤ a) && decide (a < s.length)) (K (V (.int .u8 ((s.getD a.toNat 0).toNat : Int)))) := _root_.id rfl
theorem zw8 {isS : Bool} {st : Option (TypeId × Nat)} {lo hi : Option AV} : zgo isS st H (V (.string ⟨s.toArray⟩)) lo hi K = whenE isS (asIE lo 0 fun l=>asIE hi s.length fun h=>whenE (decide (0 ≤ l) && decide (l ≤ h) && decide (h ≤ s.length)) (K (V (.string ⟨((s.take h.toNat).drop l.toNat).toArray⟩)))) := _root_.id rfl
theorem zrU {isS so ib : Bool} {dk : Option IntKind} {q : ByteArray} : convE isS dk so ib false (V (.string q)) K = whenE isS (K (V (.string q))) := _root_.id rfl
end
theorem zvY {p q : Bool} : binE ks isB sl .eql (V (.bool p)) (V (.bool q)) K = whenE isB (K (V (.bool (decide (p = q))))) := _root_.id rfl
theorem zw7 {p q : Bool} : binE ks isB sl .neq (V (.bool p)) (V (.bool q)) K = whenE isB (K (V (.bool (!decide (p = q))))) := _root_.id rfl
theorem zmB {isS ib it : Bool} : convE isS (some k) true ib it (V (.int k' a)) K = K (V (.int k (k.wrap a))) := _root_.id rfl
theorem zw4 {p : Bool} : condE (V (.bool p)) A B = if p = true then A else B := by cases p <;> rfl
theorem zjR : condE (V (.bool true)) A B = A := _root_.id rfl
theorem zjc : condE (V (.bool false)) A B = B := _root_.id rfl
theorem zvu {p : Bool} : unE .not (V (.bool p)) K = K (V (.bool (!p))) := _root_.id rfl
theorem zvn : unE .neg (V (.int k a)) K = K (V (.int k (k.wrap (0 - a)))) := _root_.id rfl
theorem zxd {p : Bool} : pickE (V (.bool p)) x y K = if p = true then K x else K y := by cases p <;> rfl
theorem u_ext {ds : List AV} : extE (TU ds) i K = nthE ds i K := _root_.id rfl
theorem zwj : nthE (x :: es) 0 K = K x := _root_.id rfl
theorem zuD : nthE (x :: es) (i + 1) K = nthE es i K := _root_.id rfl
theorem z5O {α : Type} {f : α → AV} {l : List α} (h : i < l.length) : nthE (l.map f) i K = K (f l[i]) := by simp [nthE,h]
theorem zr6 {q : AObj} {K : AObj → Option R} : nthOE (q :: H) 0 K = K q := _root_.id rfl
theorem zr7 {q : AObj} {K : AObj → Option R} : nthOE (q :: H) (i + 1) K = nthOE H i K := _root_.id rfl
theorem u_ldA : loadE n H (.ptr (.agg cs)) K = whenE (decide (n = cs.length + 2)) (K (.agg cs)) := _root_.id rfl
theorem u_ldV {v : Value} : loadE n H (.ptr (V v)) K = whenE (decide (n = 1)) (K (V v)) := _root_.id rfl
theorem u_ldS {sp : List AV} : loadE n H (.ptr (.slice es sp)) K = whenE (decide (n = 1)) (K (.slice es sp)) := _root_.id rfl
theorem u_ldO : loadE n H (OP i o) K = nthOE H i fun ob=>zh8 ob fun l=>z8U n l o K := by unfold loadE;rfl
theorem u_cl1 {e : TypeId} {z : Nat} {K : List AV → Option R} : zh8 ⟨1,e,z,cs⟩ K = K cs := by unfold zh8;rfl
theorem u_cl4 {e : TypeId} {z : Nat} {K : List AV → Option R} : zh8 ⟨4,e,z,cs⟩ K = whenE (decide (0 < cs.length)) (K (flat cs)) := by unfold zh8;rfl
theorem u_oc1 : z8U 1 cs o K = nthE cs o K := _root_.id rfl
theorem u_oc2 : z8U (n + 2) cs o K = whenE (decide (o + n ≤ cs.length)) (K (.agg ((cs.drop o).take n))) := _root_.id rfl
theorem u_stO {K : List AObj → Option R} : z1e n H (OP i o) x K = nthOE H i fun ob=>putE ob n o x fun ob'=>K (H.set i ob') := by unfold z1e;rfl
theorem u_pt1 {e : TypeId} {z : Nat} {K : AObj → Option R} : putE ⟨1,e,z,cs⟩ n o x K = whenE (decide (¬ n = 0) && decide ((cellsOf x).length = szOf n) && (cellsOf x).all sure) (whenE (decide (o + szOf n ≤ cs.length)) (K ⟨1,e,z,z06 cs o (cellsOf x)⟩)) := by unfold putE;rfl
theorem u_pt4 {e : TypeId} {z : Nat} {K : AObj → Option R} : putE ⟨4,e,z,cs⟩ n o x K = whenE (decide (¬ n = 0) && decide ((cellsOf x).length = szOf n) && (cellsOf x).all sure) (whenE (decide (0 < z) && decide (szOf n = z) && decide (o % z = 0) && decide (o / z < cs.length)) (K ⟨4,e,z,cs.set (o / z) x⟩)) := by unfold putE;rfl
theorem u_ixR {q : Nat} : idxSE n H (PR q m) (V (.int k a)) K = whenE (decide (0 ≤ a)) (whenE (decide (a < m)) (nthOE H q fun ob=>whenE (decide (ob.k = 4) && decide (ob.z = szOf n) && decide (m = ob.c.length)) (K (OP q (a.toNat * szOf n))))) := _root_.id rfl
theorem zuN {isS isL : Bool} : lenE isS isL H (PR i m) K = whenE isL (K (V (.int .i64 m))) := _root_.id rfl
theorem zw9 {isS isL : Bool} : lenE isS isL H ZV K = whenE isL (K (V (.int .i64 0))) := _root_.id rfl
theorem u_elZ {K : List AV → Option R} : zbx H ZV K = K [] := _root_.id rfl
theorem u_ixZ : idxSE n H ZV (V (.int k a)) K = whenE (decide (0 ≤ a)) (nthE [] a.toNat fun d=>whenE (decide ((cellsOf d).length = szOf n)) (K (.ptr d))) := _root_.id rfl
theorem u_fA : z02 (some (o,n)) (.ptr (.agg cs)) K = z8U n cs o fun d=>K (.ptr d) := _root_.id rfl
theorem u_fO : z02 (some (o,n)) (OP i j) K = K (OP i (j + o)) := _root_.id rfl
theorem u_fV : zlc (some (o,n)) (.agg cs) K = z8U n cs o K := _root_.id rfl
theorem u_ixS : idxSE n H (SL es) (V (.int k a)) K = whenE (decide (0 ≤ a)) (nthE es a.toNat fun d=>whenE (decide ((cellsOf d).length = szOf n)) (K (.ptr d))) := _root_.id rfl
theorem u_ixW : idxSE n H (OW i m) (V (.int k a)) K = whenE (decide (0 ≤ a)) (nthOE H i fun ob=>whenE (decide (ob.k = 2) && decide (m = ob.c.length)) (nthE ob.c a.toNat fun d=>whenE (decide ((cellsOf d).length = szOf n)) (K (.ptr d)))) := _root_.id rfl
theorem u_ixN : idxSE n H (V (.slice none 0 0)) (V (.int k a)) K = whenE (decide (0 ≤ a)) (nthE [] a.toNat fun d=>whenE (decide ((cellsOf d).length = szOf n)) (K (.ptr d))) := _root_.id rfl
theorem u_ixP : idxPE m n (.ptr (.agg cs)) (V (.int k a)) K = whenE (decide (0 ≤ a) && decide (a < m)) (z8U n cs (a.toNat * szOf n) fun d=>K (.ptr d)) := _root_.id rfl
theorem u_ixO : idxPE m n (OP i j) (V (.int k a)) K = whenE (decide (0 ≤ a) && decide (a < m)) (K (OP i (j + a.toNat * szOf n))) := _root_.id rfl
theorem u_ixV {isS : Bool} : idxVE isS (some (m,n)) (.agg cs) (V (.int k a)) K = whenE (decide (0 ≤ a) && decide (a < m)) (z8U n cs (a.toNat * szOf n) K) := _root_.id rfl
theorem ztZ {isS isL : Bool} : lenE isS isL H (SL es) K = whenE isL (K (V (.int .i64 es.length))) := _root_.id rfl
theorem zwW {isS isL : Bool} : lenE isS isL H (OW i m) K = whenE isL (K (V (.int .i64 m))) := _root_.id rfl
theorem zwi {isS isL : Bool} : lenE isS isL H (V (.slice none 0 0)) K = whenE isL (K (V (.int .i64 0))) := _root_.id rfl
theorem u_elS {K : List AV → Option R} : zbx H (SL es) K = K es := _root_.id rfl
theorem u_elN {K : List AV → Option R} : zbx H (V (.slice none 0 0)) K = K [] := _root_.id rfl
theorem u_elW {K : List AV → Option R} : zbx H (OW i m) K = nthOE H i fun ob=>whenE (decide (ob.k = 2) && decide (m = ob.c.length)) (K ob.c) := _root_.id rfl
section
variable {e : TypeId} {K : AV → List AObj → Option R} {K1 : AV → Option R} {lo hi : Option AV} {isS : Bool}
theorem zwx : appE (some (e,n)) H ZV y K = zbx H y fun es=>whenE (allCE n es) (whenE (decide (es.length ≤ 34359738368)) (K (OW H.length es.length) (H ++ [⟨2,e,n,es⟩]))) := _root_.id rfl
theorem zvA : appE (some (e,n)) H (V (.slice none 0 0)) y K = zbx H y fun es=>whenE (allCE n es) (whenE (decide (es.length ≤ 34359738368)) (K (OW H.length es.length) (H ++ [⟨2,e,n,es⟩]))) := _root_.id rfl
theorem zuM : appE (some (e,n)) H (OW i m) y K = zbx H y fun es=>whenE (allCE n es) (nthOE H i fun ob=>whenE (decide (ob.k = 2) && decide (ob.e = e) && decide (ob.z = n) && decide (m = ob.c.length) && decide (m + es.length ≤ 34359738368)) (K (OW i (m + es.length)) (H.set i { ob with c := ob.c ++ es }))) := _root_.id rfl
theorem z2m {q : ByteArray} {at_ : Option (TypeId × Nat)} : appSE at_ H x (V (.string q)) K = appE at_ H x (SL (strA q)) K := _root_.id rfl
theorem zvT {n : Nat} : allCE n es = es.all fun d=>decide ((cellsOf d).length = n) := _root_.id rfl
theorem zxu : zgo isS (some (e,n)) H (SL es) lo hi K1 = whenE (allCE (szOf n) es) (asIE lo 0 fun l=>asIE hi es.length fun h=>whenE (decide (0 ≤ l) && decide (l ≤ h) && decide (h ≤ es.length)) (K1 (SL (cutE es l h)))) := _root_.id rfl
theorem zx2 : zgo isS (some (e,n)) H (OW i m) lo hi K1 = nthOE H i fun ob=>whenE (decide (ob.k = 2) && decide (m = ob.c.length)) (whenE (allCE (szOf n) ob.c) (asIE lo 0 fun l=>asIE hi ob.c.length fun h=>whenE (decide (0 ≤ l) && decide (l ≤ h) && decide (h ≤ ob.c.length)) (K1 (SL (cutE ob.c l h))))) := _root_.id rfl
theorem zuE : zgo isS (some (e,n)) H (V (.slice none 0 0)) lo hi K1 = asIE lo 0 fun l=>asIE hi 0 fun h=>whenE (decide (0 ≤ l) && decide (l ≤ h) && decide (h ≤ 0)) (K1 (SL (cutE [] l h))) := _root_.id rfl
theorem zqK : z4P (some cs) e H K = K (OP H.length 0) (H ++ [⟨1,e,0,cs⟩]) := _root_.id rfl
theorem u_box : boxE e H x K = whenE ((cellsOf x).all sure) (K (OP H.length 0) (H ++ [⟨1,e,0,cellsOf x⟩])) := _root_.id rfl
theorem zpq {X : AV} {H' : List AObj} : keepE (some (X,H')) K = K X H' := _root_.id rfl
theorem zus : rowE (V (.slice none 0 0)) e n H K = K (OW H.length 0) (H ++ [⟨2,e,n,[]⟩]) := _root_.id rfl
theorem zv1 {sp : List AV} : rowE (.slice es sp) e n H K = K (.slice es sp) H := _root_.id rfl
theorem zwU : rowE (OW i m) e n H K = K (OW i m) H := _root_.id rfl
end
theorem u_asN {K : Int → Option R} : asIE none a K = K a := _root_.id rfl
theorem u_asS {K : Int → Option R} : asIE (some (V (.int k b))) a K = K b := _root_.id rfl
theorem zv4 : nilE (OP i o) K = K (OP i o) := _root_.id rfl
theorem ztY : nilE (.ptr x) K = K (.ptr x) := _root_.id rfl
theorem zsY {X : AV} {H' : List AObj} {args : List AV} : tellE (some (X,H')) args K = whenE (args.all (ltT 0)) (K X) := _root_.id rfl
theorem zrY {X : AV} : tellK H X = cbE (ltT 0 X) (some (X,[])) (tellZ H X) := _root_.id rfl
theorem u_cbT {x y : R} : cbE true x y = x := _root_.id rfl
theorem u_cbF {x y : R} : cbE false x y = y := _root_.id rfl
theorem znT {X : AV} : keepK n H X = whenE (decide (n ≤ H.length) && (H.take n).all (ltO n) && ltT n X) (some (X,H.take n)) := _root_.id rfl
section
variable {next : ASt → Option R} {kk kx : KO R} {s : ASt} {e : Exit} {kc : ASt → Option R} {L Lo : List Nat} {Bd : ASt → (ASt → Option R) → KO R → Option R}
theorem zvk : seqX next kk .normal s = next s := _root_.id rfl
theorem zua : seqX next kk .ret s = kk .ret s := _root_.id rfl
theorem zvj : seqX next kk (.exit i) s = kk (.exit i) s := _root_.id rfl
theorem zv9 : z3K j kk .normal s = kk .normal s := _root_.id rfl
theorem zvV : z3K j kk .ret s = kk .ret s := _root_.id rfl
theorem zud : z3K j kk (.exit i) s = if i = j then kk .normal s else kk (.exit i) s := by
 show (match Nat.beq i j with|true=>kk .normal s|false=>kk (.exit i) s) = _
 by_cases e : i = j
 ·rw [if_pos e,Nat.beq_eq.mpr e]
 ·rw [if_neg e]
  cases hb : Nat.beq i j with
  |false=>rfl
  |true=>exact absurd (Nat.eq_of_beq_eq_true hb) e
theorem zuC : backK n L Lo kc kx .normal s = trimE n L s kc := _root_.id rfl
theorem zx1 : backK n L Lo kc kx .ret s = kx .ret ⟨s.H,keepT Lo s.T⟩ := _root_.id rfl
theorem zvD : backK n L Lo kc kx (.exit i) s = kx (.exit i) ⟨s.H,keepT Lo s.T⟩ := _root_.id rfl
theorem u_bwN : backW n L Lo kc kx .normal s = backE n s.H (keepT L s.T) kc := by rw [zmi];show trimE n L s kc = _;unfold trimE backE;rw [zko]
theorem u_bwR : backW n L Lo kc kx .ret s = kx .ret ⟨s.H,keepT Lo s.T⟩ := by rw [zmi];rfl
theorem u_bwX : backW n L Lo kc kx (.exit i) s = kx (.exit i) ⟨s.H,keepT Lo s.T⟩ := by rw [zmi];rfl
theorem u_kpN : keepT [] T = [] := _root_.id rfl
theorem u_kpC : keepT (i :: L) T = (i,get T i) :: keepT L T := _root_.id rfl
theorem zwQ {L : Tm} : backE n H L kc = whenE (decide (n ≤ H.length) && (H.take n).all (ltO n) && L.all fun p=>ltT n p.2) (kc ⟨H.take n,L⟩) := _root_.id rfl
theorem zxp : trimE n L s kc = whenE (decide (n ≤ s.H.length) && (s.H.take n).all (ltO n) && L.all fun i=>ltT n (get s.T i)) (kc ⟨s.H.take n,keepT L s.T⟩) := _root_.id rfl
theorem zmm {ι : Type} {kx : KO R} {Bd : ASt → (ASt → Option R) → KO R → Option R} (I : ι → ASt) (M : ι → Nat) (A : ι → Option R) (hs : ∀ i (kc : ASt → Option R),(∀ j,M j < M i → kc (I j) = A j) → Bd (I i) kc kx = A i) (i : ι) {m : Nat} (hm : M i < m) : iterC m Bd (I i) kx = A i := by
 induction m generalizing i with
 |zero=>omega
 |succ m ih=>exact hs i _ fun j hj=>ih j (by omega)
theorem z4a {ι : Type} {kxr : KO R} {Bd : ASt → (ASt → Option R) → KO R → Option R} (I : ι → ASt) (M : ι → Nat) (A : ι → Option R) (hs : ∀ (kx : KO R),(∀ e s,kx e s = kxr e s) → ∀ i (kc : ASt → Option R),(∀ j,M j < M i → kc (I j) = A j) → Bd (I i) kc kx = A i) (i : ι) {m : Nat} (hm : M i < m) : iterC m Bd (I i) kxr = A i :=
 zmm I M A (fun i kc h=>hs kxr (fun _ _=>rfl) i kc h) i hm
end
end
attribute [go_sem] u_add u_sub u_mul u_quo u_rem u_and u_or u_xor zoO u_shl u_shr u_eql u_neq u_lss u_leq u_gtr u_geq zvQ zum zuu zur zvt zue zwT zv0 zu1 zw8 zrU zvY zw7 zmB zw4 zjR zjc zvu zvn zxd u_ext zwj zuD zr6 zr7 u_ldA u_ldV u_ldS u_ldO u_oc1 u_oc2 u_stO u_fA u_fO u_fV u_ixS u_ixW u_ixN u_ixP u_ixO u_ixV ztZ zwW zwi u_elS u_elN u_elW zvA zuM zvT zxu zx2 zuE zqK u_box zpq zus zv1 zwU u_asN u_asS zv4 ztY zsY zrY u_cbT u_cbF znT zvk zua zvj zv9 zvV zud zuC zx1 zvD u_kpN u_kpC zwQ zxp zbO zrV u_cl1 u_cl4 u_pt1 u_pt4 u_ixR zuN zw9 u_elZ u_ixZ zwx
attribute [go_sem ↓] u_add u_sub u_mul u_quo u_rem u_and u_or u_xor zoO u_shl u_shr u_eql u_neq u_lss u_leq u_gtr u_geq zvQ zum zuu zur zvt zue zwT zv0 zu1 zw8 zrU zvY zw7 zmB zw4 zjR zjc zvu zvn zxd u_ext zwj zuD zr6 zr7 u_ldA u_ldV u_ldS u_ldO u_oc1 u_oc2 u_stO u_fA u_fO u_fV u_ixS u_ixW u_ixN u_ixP u_ixO u_ixV ztZ zwW zwi u_elS u_elN u_elW zvA zuM zvT zxu zx2 zuE zqK u_box zpq zus zv1 zwU u_asN u_asS zv4 ztY zsY zrY u_cbT u_cbF znT zvk zua zvj zv9 zvV zud zuC zx1 zvD u_kpN u_kpC zwQ zxp zbO zrV u_cl1 u_cl4 u_pt1 u_pt4 u_ixR zuN zw9 u_elZ u_ixZ zwx
attribute [go_sem] zuX ztk r1_r0 r1_r1 r1_r2 r1_r3 ro_OW zz4 zzx zuH zsg zsp zs7 zt6 zwI zzq zsw zzz co_V zts co_OW co_OP zyt zxF zom zuI zwl zsa zsr zzn ztV
theorem zuy {R : Type} {K : AV → Option R} {ks : Option (List CK)} {isB : Bool} {x : AV} {es : List AV} : binE ks isB true .eql (SL (x :: es)) (V (.slice none 0 0)) K = K (V (.bool false)) := _root_.id rfl
theorem zvc {R : Type} {K : AV → Option R} {ks : Option (List CK)} {isB : Bool} {x : AV} {es : List AV} : binE ks isB true .neq (SL (x :: es)) (V (.slice none 0 0)) K = K (V (.bool true)) := _root_.id rfl
theorem u_max {R : Type} {K : AV → Option R} {k : IntKind} {a b : Int} : mmE true (V (.int k a)) (V (.int k b)) K = K (V (.int k (if b > a then b else a))) := by simp [mmE,whenE]
theorem u_min {R : Type} {K : AV → Option R} {k : IntKind} {a b : Int} : mmE false (V (.int k a)) (V (.int k b)) K = K (V (.int k (if b < a then b else a))) := by simp [mmE,whenE]
theorem u_bs {R : Type} {K : AV → Option R} {e : TypeId} {z : Nat} {d : AV} : z1a (some (e,z)) 1 [(0,d)] K = whenE (decide ((cellsOf d).length = z) && pure1 d && decide (z ≤ 16777216)) (K (SL [d])) := by
 simp [z1a,allCE,bsV,List.range,List.range.loop]
theorem p1_V {v : Value} : pure1 (V v) = true := _root_.id rfl
theorem p1_SL {es : List AV} : pure1 (SL es) = true := _root_.id rfl
theorem zzj {cs : List AV} : pure1 (.agg cs) = cs.all fun y=>sure y && lt1 0 y := _root_.id rfl
section
variable {R : Type} {E : Env} {H : List AObj} {args caps : List AV} {K : AV → List AObj → Option R} {f k z n : Nat} {fn : Fn} {a b : Array Value} {g : List AV → RO} {gk : List AV → List AObj → RO}
theorem u_roF : ro H (V (.func fn a b)) = V (.func fn a b) := _root_.id rfl
theorem u_cvF : zec E (V (.func (.func f) #[] #[])) args H K = callE (findE E f) (args.map (ro H)) H K := _root_.id rfl
theorem u_cvC : zec E (.slice caps [.held (.inl (.func (.func f) a b)), .held (.inr (.inl (k,z)))]) args H K = callE (findE E f) ((caps.take k ++ args ++ caps.drop k).map (ro H)) H K := _root_.id rfl
theorem u_ceT : callE (some (.tell g)) args H K = tellE (g args) args fun X=>K X H := _root_.id rfl
theorem u_ceK : callE (some (.keep gk)) args H K = keepE (gk args H) K := _root_.id rfl
end
theorem zyI {α : Type} {l : List α} : (l.all fun _=>true) = true := by simp
attribute [go_sem] zuy zvc u_max u_min u_bs p1_V p1_SL zzj zyI
theorem u_eqE {R : Type} {d : AV} {K : Option R} : eqE d d K = K := zs2
section
variable {R : Type} {K : AV → List AObj → Option R} {KP : Value → List AObj → Option R} {H H' : List AObj} {K2 : AV → Option R}
theorem zxq {v : Value} : panE (some (V v,H')) K KP = K (V v) H' := _root_.id rfl
theorem zw6 {cs : List AV} : panE (some (.agg cs,H')) K KP = K (.agg cs) H' := _root_.id rfl
theorem zvC {es sp : List AV} : panE (some (.slice es sp,H')) K KP = K (.slice es sp) H' := _root_.id rfl
theorem zvy {ds : List AV} : panE (some (TU ds,H')) K KP = K (TU ds) H' := _root_.id rfl
theorem zvI {i n : Nat} : panE (some (OW i n,H')) K KP = K (OW i n) H' := _root_.id rfl
theorem zuR {u : Value} : panE (some (PN u,H')) K KP = KP u H' := _root_.id rfl
theorem zrx {t : TypeId} {v : Value} : znx (V (.iface t v)) H KP = KP (.iface t v) H := _root_.id rfl
theorem u_ifV {t : TypeId} {v : Value} : ifE t (V v) K2 = K2 (V (.iface t v)) := _root_.id rfl
theorem zu3 {t : TypeId} {v w : Value} : ifE t (.agg [V v,V w]) K2 = K2 (V (.iface t (.agg #[v,w]))) := _root_.id rfl
theorem zuz {n : Nat} {u : Value} : panKE n H u = whenE (decide (n ≤ H.length) && (H.take n).all (ltO n)) (some (PN u,H.take n)) := _root_.id rfl
theorem zlH {X : AV} : openK H X = whenE (H.all (ltO H.length) && ltT H.length X) (some (X,H)) := _root_.id rfl
end
attribute [go_sem] u_eqE zxq zw6 zvC zvy zvI zuR zrx u_ifV zu3 zuz zlH
attribute [go_sem ↓] zxq zw6 zvC zvy zvI zuR zrx u_ifV zu3
attribute [go_sem] gt_eq u_bwN u_bwR u_bwX
attribute [go_sem] zyh zvW zyo zuJ zt1 zzu ro_OP zxY ro_tu zuY roA_V zqp zyR zvS zz1 zvM zzG zxt ztg zxP r1_OP noT_V zwm zpZ zzk zyj ztR zwY
attribute [go_sem] tT_V tT_SL zyd tT_OW tT_OP zyE tT_TU tA_V tA_SL zyg tA_OW tA_OP zyk t1_V t1_SL zxI t1_OW t1_OP tO_mk zy0 zyA ztA zyY
end Go.Proofs.Ytaaogcnjfkgnoaa

namespace Go.Proofs.Ytaaogcnjfkgnoaa
open Go.RowKit
section
variable {P : Program} {G : Gl} {ι : Type}
noncomputable def orac (A : ι → List AV) (X : ι → AV) (D : ι → Prop) (args : List AV) : RO :=
 open Classical in if h : ∃ i,D i ∧ args = A i then some (X h.choose,[]) else none
theorem zoE {A : ι → List AV} {X : ι → AV} {D : ι → Prop} {f : FuncId} (h : ∀ i,D i → ACp P G f (A i) (X i)) : ∀ args X' H',orac A X D args = some (X',H') → ACp P G f args X' := by
 intro args X' H' hx
 unfold orac at hx
 split at hx
 ·rename_i hh
  obtain ⟨h1,h2⟩ := hh.choose_spec
  cases hx
  have h3 := h _ h1
  rwa [← h2] at h3
 ·cases hx
theorem zrB {A : ι → List AV} {X : ι → AV} {D : ι → Prop} (inj : ∀ i j,A i = A j → X i = X j) {i : ι} (hi : D i) : orac A X D (A i) = some (X i,[]) := by
 have hh : ∃ j,D j ∧ A i = A j := ⟨i,hi,rfl⟩
 unfold orac
 rw [dif_pos hh]
 rw [inj i _ hh.choose_spec.2]
end
theorem zyS {a b : List UInt8} (h : sA a = sA b) : a = b := by
 injection h with h;injection h with h;injection h with h;injection h with h
 simpa using h
theorem zgK {a b : Int} (h : nA a = nA b) : a = b := by
 injection h with h;injection h with h;injection h with h
end Go.Proofs.Ytaaogcnjfkgnoaa

namespace Go.Proofs.Ytaaogcnjfkgnoaa
open Go.RowKit
def GG : Gl := []
theorem MIX : Try.prog.follows .mixedOrders = true := by kernel_rfl
end Go.Proofs.Ytaaogcnjfkgnoaa

namespace Go.Proofs.Ytaaogcnjfkgnoaa
open Go.RowKit
theorem zuV {S : SS} : GOk [] S := by
 intro g d hg
 simp at hg
theorem zwr {t : TypeId} {d : AV} (h : aggT Try.prog t = false) : mkA Try.prog t [d] = d := by
 unfold mkA
 rw [if_neg (by rw [h];decide)]
 rfl
theorem zqV {t : TypeId} {ds : List AV} (h : aggT Try.prog t = true) : mkA Try.prog t ds = .agg ds := by
 unfold mkA
 rw [if_pos h]
theorem zvZ {W : World} {v : Value} (h : Arg Try.prog W 3 v) : ∃ i : Int,(-9223372036854775808 ≤ i ∧ i < 9223372036854775808) ∧ rep (SW W) [] (nA i) v := by
 obtain ⟨n,ds,h1,h2⟩ := h
 obtain ⟨t,rfl,ht⟩ := zay Try.underlying3 h1
 rw [zwr (by kernel_rfl)] at h2
 exact ⟨t,ht,h2⟩
theorem reps3 {S : SS} {d0 d1 d2 : AV} {v0 v1 v2 : Value} (h0 : rep S [] d0 v0) (h1 : rep S [] d1 v1) (h2 : rep S [] d2 v2) : ∀ (j : Nat) (d : AV) (v : Value),[d0,d1,d2][j]? = some d → [v0,v1,v2][j]? = some v → rep S [] d v := by
 intro j d v hd hv
 match j with
 |0=>simp at hd hv;subst hd hv;exact h0
 |1=>simp at hd hv;subst hd hv;exact h1
 |2=>simp at hd hv;subst hd hv;exact h2
 |j + 3=>simp at hd
end Go.Proofs.Ytaaogcnjfkgnoaa

namespace Go.Proofs.Ytaaogcnjfkgnoaa
open Go.RowKit
def put (v : Nat) : List UInt8 := if v < 128 then [UInt8.ofNat v] else UInt8.ofNat (v % 128 + 128) :: put (v / 128)
termination_by v
decreasing_by omega
theorem znW (v : Nat) (h : v < 128) : put v = [UInt8.ofNat v] := by rw [put,if_pos h]
theorem ztM (v : Nat) (h : 128 ≤ v) : put v = UInt8.ofNat (v % 128 + 128) :: put (v / 128) := by rw [put,if_neg (by omega)]
theorem zp6 (v : Nat) : 0 < (put v).length := by rw [put];split <;> simp
theorem zoe (k : Nat) : ∀ v,v < 128 ^ (k + 1) → (put v).length ≤ k + 1 := by
 induction k with
 |zero=>intro v h;rw [znW v (by simpa using h)];simp
 |succ k ih =>
  intro v h
  by_cases hv : v < 128
  ·rw [znW v hv];simp
  ·rw [ztM v (by omega)]
   have := ih (v / 128) (by rw [Nat.pow_succ] at h;omega)
   simp only [List.length_cons];omega
theorem zc5 (v : Nat) (h : v < 18446744073709551616) : (put v).length ≤ 10 := by
 refine zoe 9 v ?_
 have e : (128 : Nat) ^ (9 + 1) = 1180591620717411303424 := by decide
 omega
end Go.Proofs.Ytaaogcnjfkgnoaa

namespace Go.Proofs.Ytaaogcnjfkgnoaa
open Go.RowKit
theorem zmT : (Try.prog.info? 5).map (fun i=>(i.zero,i.size,i.bytes)) = some (some (.int .u8 0),1,1) := by kernel_rfl
theorem or128 (n : Nat) (h : n < 256) : n ||| 128 = n % 128 + 128 := by
 rcases (show n / 128 = 0 ∨ n / 128 = 1 from by omega) with h0|h0
 ·rw [Nat.or_comm]
  have := nat_join 7 128 n (by decide) (by omega)
  omega
 ·have hh := nat_join 7 128 (n % 128) (by decide) (by omega)
  have hn : n = 128 ||| (n % 128) := by omega
  rw [Nat.or_comm]
  conv=>lhs;rw [hn]
  rw [← Nat.or_assoc,Nat.or_self,hh]
  omega
theorem zrv (k : Int) (h0 : 0 ≤ k) (h1 : k < 128) : [Value.int .u8 k] = (put k.toNat).map cB := by
 obtain ⟨n,rfl⟩ := Int.eq_ofNat_of_zero_le h0
 rw [Int.toNat_natCast,znW n (by omega)]
 simp [cB]
 omega
theorem zwv (k : Int) (h0 : 0 ≤ k) : Value.int .u8 (bits .or .u8 (k % 256) 128) = cB (UInt8.ofNat (k.toNat % 128 + 128)) := by
 obtain ⟨n,rfl⟩ := Int.eq_ofNat_of_zero_le h0
 have e := u8_or_nat (n % 256) 128 (by omega) (by omega)
 rw [or128 _ (by omega)] at e
 have e2 : ((n % 256 : Nat) : Int) = (n : Int) % 256 := by omega
 rw [e2] at e
 rw [show ((128 : Nat) : Int) = 128 from rfl] at e
 rw [e]
 simp [cB]
 omega
set_option maxHeartbeats 400000 in
theorem zut (v : Int) (hv0 : 0 ≤ v) (hv : v < 18446744073709551616) (w : World) :
  Calls Try.prog 95 #[.int .u64 v] w fun e w'=>∃ g cap,e = .returned (.slice (some ⟨g,0,none⟩) (put v.toNat).length cap) ∧ w'.ownsRow w.heap.size 5 1 (.slice (some ⟨g,0,none⟩) (put v.toNat).length cap) (put v.toNat).length ((put v.toNat).map cB) ∧ Below w.heap.size w w' := by
 go_enter Try.func95,Try.ntmps95
 go_wp2
 go_loopw [0,3] (fun n o wr=>∃ (k : Int) (xs : List UInt8),0 ≤ k ∧ k < 18446744073709551616 ∧ n = .int .u64 k ∧ wr.ownsRow w.heap.size 5 1 o xs.length (xs.map cB) ∧ Below w.heap.size w wr ∧ xs ++ put k.toNat = put v.toNat) (fun n _ _=>(intOf n).toNat)
 case atStart=>exact ⟨v,[],hv0,hv,rfl,World.ownsRow_nil _ _ _ _,Below.refl _ _,rfl⟩
 case round =>
  obtain ⟨k,xs,hk0,hk1,rfl,hown,hbel,hput⟩ := hrel
  have hlen : xs.length + 1 ≤ 10 := by
   have h1 := congrArg List.length hput
   have h2 := zc5 v.toNat (by omega)
   have h3 := zp6 k.toNat
   simp only [List.length_append] at h1
   omega
  have HP := hide hput;clear hput
  have hb := hbel.size
  by_cases hlt : k < 128
  ·go_wp2_with (at_builtin;refine zen _ rfl (.tmp 14) (.tmp 17) _ rfl w w.heap.size 5 _ _ 1 Try.underlying90 zmT rfl (by omega) _ _ _ (.int .u8 k) rfl rfl rfl hown hbel hb (by omega) ?_;intro g cap w1 hown1 hbel1)
   go_ret
   have hl : (put v.toNat).length = xs.length + 1 := by rw [← HP.out,List.length_append,znW _ (by omega)];rfl
   have hm : (put v.toNat).map cB = xs.map cB ++ [Value.int .u8 k] := by rw [← HP.out,List.map_append,zrv k hk0 hlt]
   rw [hl,hm]
   exact ⟨g,cap,rfl,hown1,hbel1⟩
  ·have hge : 128 ≤ k := by omega
   go_wp2_with (at_builtin;refine zen _ rfl (.tmp 8) (.tmp 12) _ rfl w w.heap.size 5 _ _ 1 Try.underlying90 zmT rfl (by omega) _ _ _ (.int .u8 (bits .or .u8 (k % 256) 128)) rfl rfl rfl hown hbel hb (by omega) ?_;intro g cap w1 hown1 hbel1)
   go_roundw
   case rel =>
    refine ⟨k / 128,xs ++ [UInt8.ofNat (k.toNat % 128 + 128)],by omega,by omega,?_,?_,hbel1,?_⟩
    ·rfl
    ·rw [zwv k hk0] at hown1;simpa using hown1
    ·rw [List.append_assoc,← HP.out,ztM k.toNat (by omega),show (k / 128).toNat = k.toNat / 128 from by omega];rfl
   case measure=>simp [intOf];omega
end Go.Proofs.Ytaaogcnjfkgnoaa

namespace Go.Proofs.Ytaaogcnjfkgnoaa
open Go.RowKit
end Go.Proofs.Ytaaogcnjfkgnoaa

namespace Go.Proofs.Ytaaogcnjfkgnoaa
open Go.RowKit
theorem zuh (w : World) (A : Option Addr) (c : Nat) (l : List UInt8) (hb : Bs w A l) : (_root_.Go.convert 90 9 (.slice A l.length c)).run Try.prog w = .ok (.string ⟨l.toArray⟩) w :=
 zlq _ _ 5 Try.underlying90 Try.underlying5 Try.underlying9 w A c l hb
end Go.Proofs.Ytaaogcnjfkgnoaa

namespace Go.Proofs.Ytaaogcnjfkgnoaa
open Go.RowKit
def zzK (w : World) (l : List UInt8) (e : Ending) (w' : World) : Prop := e = .returned (.string ⟨l.toArray⟩) ∧ Below w.heap.size w w'
set_option maxHeartbeats 400000 in
theorem zs3 (v : Int) (hv0 : 0 ≤ v) (hv : v < 18446744073709551616) (w : World) :
  Calls Try.prog 92 #[.int .u64 v] w (zzK w (put v.toNat)) := by
 go_enter Try.func92,Try.ntmps92
 go_wp2
 go_loopw [0,3] (fun n o wr=>∃ (k : Int) (xs : List UInt8),0 ≤ k ∧ k < 18446744073709551616 ∧ n = .int .u64 k ∧ wr.ownsRow w.heap.size 5 1 o xs.length (xs.map cB) ∧ Below w.heap.size w wr ∧ xs ++ put k.toNat = put v.toNat) (fun n _ _=>(intOf n).toNat)
 case atStart=>exact ⟨v,[],hv0,hv,rfl,World.ownsRow_nil _ _ _ _,Below.refl _ _,rfl⟩
 case round =>
  obtain ⟨k,xs,hk0,hk1,rfl,hown,hbel,hput⟩ := hrel
  have hlen : xs.length + 1 ≤ 10 := by
   have h1 := congrArg List.length hput
   have h2 := zc5 v.toNat (by omega)
   have h3 := zp6 k.toNat
   simp only [List.length_append] at h1
   omega
  have HP := hide hput;clear hput
  have hb := hbel.size
  by_cases hlt : k < 128
  ·have hm : xs.map cB ++ [Value.int .u8 k] = (put v.toNat).map cB := by rw [← HP.out,List.map_append,zrv k hk0 hlt]
   have hl : xs.length + 1 = (put v.toNat).length := by rw [← HP.out,List.length_append,znW _ (by omega)];rfl
   have HM := hide hm;have HL := hide hl;clear hm hl
   have hcv := zuh
   go_wp2_with (at_builtin;refine zen _ rfl (.tmp 15) (.tmp 18) _ rfl w w.heap.size 5 _ _ 1 Try.underlying90 zmT rfl (by omega) _ _ _ (.int .u8 k) rfl rfl rfl hown hbel hb (by omega) ?_;rw [HM.out,HL.out];intro g cap w1 hown1 hbel1;have hbs := Bs.of_own hown1)
   go_ret
   exact ⟨rfl,hbel1⟩
  ·have hge : 128 ≤ k := by omega
   go_wp2_with (at_builtin;refine zen _ rfl (.tmp 6) (.tmp 11) _ rfl w w.heap.size 5 _ _ 1 Try.underlying90 zmT rfl (by omega) _ _ _ _ rfl rfl rfl hown hbel hb (by omega) ?_;intro g cap w1 hown1 hbel1)
   go_roundw
   case rel =>
    refine ⟨k / 128,xs ++ [UInt8.ofNat (k.toNat % 128 + 128)],by omega,by omega,?_,?_,hbel1,?_⟩
    ·rfl
    ·rw [show Value.int .u8 (k % 128 + 128) = cB (UInt8.ofNat (k.toNat % 128 + 128)) from by rw [cB_of _ (by omega)];congr 1;omega] at hown1
     simpa using hown1
    ·rw [List.append_assoc,← HP.out,ztM k.toNat (by omega),show (k / 128).toNat = k.toNat / 128 from by omega];rfl
   case measure=>simp [intOf];omega
end Go.Proofs.Ytaaogcnjfkgnoaa

namespace Go.Proofs.Ytaaogcnjfkgnoaa
open Go.RowKit
section
variable {P : Program}
theorem zsP {w : World} {g : Nat} {cur : Array Value} {t : TypeId} {fr : Nat × Nat} {m : Nat} {us : List Value} (hg : w.heap[g]? = some (.cells cur t fr)) (htk : cur.toList.take m = us) {j : Nat} {u : Value} (h : us[j]? = some u) : w.cell? ⟨g,j,none⟩ = some u := by
 rw [cell_of_row w g j cur t fr hg,← Array.getElem?_toList]
 rw [← htk,List.getElem?_take] at h
 split at h
 ·exact h
 ·cases h
end
end Go.Proofs.Ytaaogcnjfkgnoaa

namespace Go.Proofs.Ytaaogcnjfkgnoaa
open Go.RowKit
theorem zt5 {w : World} {base base' : Nat} {e : TypeId} {z : Nat} {v : Value} {n : Nat} {xs : List Value} (h : w.ownsRow base e z v n xs) (hb : base' ≤ base) : w.ownsRow base' e z v n xs := by
 refine ⟨h.1,?_⟩
 rcases h.2 with q|⟨g,cap,cur,q1,q2,r⟩
 ·exact .inl q
 ·exact .inr ⟨g,cap,cur,q1,Nat.le_trans hb q2,r⟩
theorem zqz {w : World} {S : SS} {μ : List Value} {H : List AObj} (hr : Rel w S μ H) {w' : World} (hb : Below w.heap.size w w') {e : TypeId} {z : Nat} {es : List AV} (hall : allC z es) {us : List Value} (hus : reps S [] (flat es) us) {A : Option Addr} {cap : Nat}
  (hown : w'.ownsRow w.heap.size e z (.slice A es.length cap) es.length us) : CPost w S μ H (Is (OW H.length es.length) (H ++ [⟨2,e,z,es⟩])) (.returned (.slice A es.length cap)) w' := by
 obtain ⟨A',c',e1,hc1,hc2⟩ := zsK hown
 injection e1 with e1 e2 e3
 subst e1 e3
 have hown0 := zt5 hown (Nat.zero_le _)
 let S' : SS := fun b j d=>S b j d ∨ (w.heap.size ≤ b ∧ (∃ q,A = some ⟨b,q,none⟩) ∧ cap ≠ 0 ∧ (flat es)[j]? = some d)
 have hcell : ∀ b j d,w.heap.size ≤ b → (∃ q,A = some ⟨b,q,none⟩) → (flat es)[j]? = some d → ∃ u,w'.cell? ⟨b,j,none⟩ = some u ∧ u.oneCell' = true ∧ rep1 S [] d u := by
  rintro b j d hbb ⟨q,rfl⟩ hd
  rcases hown.2 with ⟨q1,_⟩|⟨g,cp,cur,q1,_,hg,h1,h2,h3,h4⟩
  ·cases q1
  ·injection q1 with q1 q2 q3
   injection q1 with q1
   injection q1 with q1 _ _
   subst q1 q3
   have hj : j < us.length := by rw [hus.1];exact (List.getElem?_eq_some_iff.1 hd).1
   obtain ⟨k1,k2⟩ := hus.2 j d _ hd (List.getElem?_eq_getElem hj)
   exact ⟨_,zsP hg h4 (List.getElem?_eq_getElem hj),k1,k2⟩
 obtain ⟨q1,q2⟩ := hr.grow (S' := S') hb (fun _ _ _ q=>.inl q) (fun b j d q=>q.imp id fun k=>k.1) (fun b j d q hb'=>by
  rcases q with q|⟨k1,k2,_,k3⟩
  ·have := hr.still_lt q;omega
  ·obtain ⟨u,h1,h2,h3⟩ := hcell b j d k1 k2 k3
   exact ⟨u,h1,h2,h3.ext ⟨fun _ _ _ q=>.inl q,fun i x hx=>by simp at hx⟩⟩)
 have hbl : ∀ b,blkOf (.slice A es.length cap) = some b → w.heap.size ≤ b ∧ cap ≠ 0 := by
  intro b hbk
  cases A with
  |none=>simp [blkOf] at hbk
  |some a =>
   simp only [blkOf] at hbk
   split at hbk
   ·cases hbk
   ·rename_i hc
    injection hbk with hbk
    subst hbk
    rcases hown.2 with ⟨q1,_⟩|⟨g,cp,cur,q1,hbg,_⟩
    ·cases q1
    ·injection q1 with q1;injection q1 with q1;subst q1
     exact ⟨hbg,hc⟩
 have q3 : Rel w' S' (μ ++ [.slice A es.length cap]) (H ++ [⟨2,e,z,es⟩]) := by
  refine q1.add (.inr (.inr (.inl rfl))) ⟨fun h=>by simp at h,fun _=>⟨us,A,cap,rfl,hc1,hc2,fun _=>hown0,fun hne=>?_⟩,fun h=>(by simp at h),fun h=>by simp at h⟩ fun b hbk=>?_
  ·have hpos : 0 < es.length := List.length_pos_iff.2 hne
   rcases hown.2 with ⟨q1,_⟩|⟨g,cp,cur,q1,hbg,_⟩
   ·injection q1 with _ q1;omega
   ·injection q1 with q1
    refine ⟨g,q1,ziC hall fun j y hy=>.inr ⟨hbg,⟨0,q1⟩,by have : es.length ≤ cap := hc1;omega,by simpa using hy⟩⟩
  ·obtain ⟨k1,k2⟩ := hbl b hbk
   refine ⟨?_,fun j d hs=>⟨rfl,?_⟩⟩
   ·rintro ⟨k,y,o,hy,ho,hk,hb'⟩
    have := hr.own_lt hy ho hk hb';omega
   ·rcases hs with hs|⟨_,_,_,hd⟩
    ·have := hr.still_lt hs;omega
    ·have := (List.getElem?_eq_some_iff.1 hd).1
     rw [z58 hall] at this
     exact this
 refine ⟨_,_,_,S',_,rfl,⟨rfl,rfl⟩,q3,⟨A,es.length,cap,A,cap,by rw [← hr.len];simp,Nat.le_refl _,rfl,fun _=>⟨rfl,rfl⟩⟩,q2.add hr.len fun b hbk=>?_⟩
 exact (hbl b hbk).1
end Go.Proofs.Ytaaogcnjfkgnoaa

namespace Go.Proofs.Ytaaogcnjfkgnoaa
open Go.RowKit
theorem zjU {α : Type} {f : α → List Value} {s : Nat} (hf : ∀ x,(f x).length = s) : ∀ l : List α,(l.flatMap f).length = l.length * s
 |[]=>by simp
 |x :: l=>by rw [List.flatMap_cons,List.length_append,hf,zjU hf l,List.length_cons,Nat.succ_mul];omega
theorem zof {α : Type} {f : α → List Value} {s : Nat} (hf : ∀ x,(f x).length = s) : ∀ (l : List α) (i : Nat) (h : i < l.length) (j : Nat),j < s → (l.flatMap f)[i * s + j]? = (f l[i])[j]?
 |[],i,h,_,_=>by simp at h
 |x :: l,0,_,j,hj=>by rw [List.flatMap_cons,Nat.zero_mul,Nat.zero_add,List.getElem?_append_left (by rw [hf];exact hj)];rfl
 |x :: l,i + 1,h,j,hj=>by
  have hx := hf x
  rw [List.flatMap_cons,List.getElem?_append_right (by rw [hx,Nat.succ_mul];omega),hx]
  rw [show (i + 1) * s + j - s = i * s + j from by rw [Nat.succ_mul];omega]
  rw [zof hf l i (by simpa using h) j hj]
  rfl
theorem zq1 {α : Type} {f : α → List Value} {s : Nat} (hf : ∀ x,(f x).length = s) (l : List α) (k : Nat) : (l.take k).flatMap f = (l.flatMap f).take (k * s) := by
 induction l generalizing k with
 |nil=>simp
 |cons x l ih =>
  cases k with
  |zero=>simp
  |succ k=>rw [List.take_succ_cons,List.flatMap_cons,List.flatMap_cons,ih,List.take_append,hf,Nat.succ_mul,List.take_of_length_le (l := f x) (by rw [hf];omega),Nat.add_sub_cancel]
def Fs {α : Type} (f : α → List Value) (s : Nat) (w : World) (A : Option Addr) (l : List α) : Prop := Rd w A s l.length (l.flatMap f)
section
variable {α : Type} {f : α → List Value} {s : Nat} {w w' : World} {A : Option Addr} {l : List α}
theorem Fs.below (h : Fs f s w A l) (hb : Below w.heap.size w w') : Fs f s w' A l := Rd.below h hb
theorem Fs.alloc (h : Fs f s w A l) (o : Obj) : Fs f s (w.alloc o) A l := Rd.alloc h o
theorem Fs.cell (h : Fs f s w A l) (hf : ∀ x,(f x).length = s) (hn : 0 < l.length) : ∃ b off,A = some ⟨b,off,none⟩ ∧ b < w.heap.size ∧ ∀ i (hi : i < l.length) j u,j < s → (f l[i])[j]? = some u → w.cell? ⟨b,off + i * s + j,none⟩ = some u := by
 obtain ⟨b,off,e,hb,hc⟩ := h.2 hn
 refine ⟨b,off,e,hb,fun i hi j u hj hu=>?_⟩
 rw [Nat.add_assoc]
 exact hc (i * s + j) u (by rw [zof hf l i hi j hj];exact hu)
theorem Fs.take (h : Fs f s w A l) (hf : ∀ x,(f x).length = s) (k : Nat) : Fs f s w A (l.take k) := by
 unfold Fs
 rw [zq1 hf]
 by_cases hk : k ≤ l.length
 ·rw [List.length_take,Nat.min_eq_left hk];exact Rd.less h hk
 ·rw [List.length_take,Nat.min_eq_right (by omega),List.take_of_length_le (by rw [zjU hf];exact Nat.mul_le_mul_right _ (by omega))];exact h
theorem Fs.of_own {base : Nat} {e : TypeId} {n c : Nat} (hn : n = l.length) (h : w.ownsRow base e s (.slice A n c) n (l.flatMap f)) : Fs f s w A l := by subst hn;exact Rd.of_own h
end
end Go.Proofs.Ytaaogcnjfkgnoaa

namespace Go.Proofs.Ytaaogcnjfkgnoaa
open Go.RowKit
section
variable {P : Program} {G : Gl}
theorem acp_of {f : FuncId} {args : List AV} {X : AV} (hc : zdb    P f = true)
    (h : ∀ w S (vs : List Value), Rel w S [] [] → GOk G S → vs.length = args.length → (∀ (j : Nat) (d : AV) (v : Value), args[j]? = some d → vs[j]? = some v → rep S [] d v) →
      Calls P f vs.toArray w fun e w' => ∃ v, e = .returned v ∧ Below w.heap.size w w' ∧ ∃ N : SS, (∀ b j d, N b j d → w.heap.size ≤ b ∧ ∃ u, w'.cell? ⟨b, j, none⟩ = some u ∧ d = V u ∧ u.oneCell' = true) ∧ rep (fun b j d => S b j d ∨ N b j d) [] X v) : ACp P G f args X := by
  refine ⟨hc, fun w S μ vs hr hg hl hv => ?_⟩
  have hμ : μ = [] := List.eq_nil_of_length_eq_zero hr.len
  subst hμ
  refine (h w S vs hr hg hl hv).mono ?_
  rintro e w' ⟨v, rfl, hb, N, hN, hrep⟩
  obtain ⟨h1, h2⟩ := hr.grow (S' := fun b j d => S b j d ∨ N b j d) hb (fun _ _ _ q => .inl q) (fun b j d q => q.imp id fun k => (hN b j d k).1) (fun b j d q hb' => by
    rcases q with q | q
    · have := hr.still_lt q; omega
    · obtain ⟨_, u, h3, rfl, h4⟩ := hN b j d q
      exact ⟨u, h3, h4, rfl, h4⟩)
  exact ⟨v, X, [], _, [], rfl, ⟨rfl, rfl⟩, h1, hrep, h2⟩
theorem acp_of_tells {f : FuncId} {args : List AV} {X : AV} (hc : zdb    P f = true)
    (h : ∀ w S (vs : List Value), Rel w S [] [] → GOk G S → vs.length = args.length → (∀ (j : Nat) (d : AV) (v : Value), args[j]? = some d → vs[j]? = some v → rep S [] d v) →
      Calls P f vs.toArray w fun e w' => ∃ v, e = .returned v ∧ Below w.heap.size w w' ∧ rep S [] X v) : ACp P G f args X :=
  acp_of hc fun w S vs hr hg hl hv => (h w S vs hr hg hl hv).mono fun e w' ⟨v, he, hb, k⟩ => ⟨v, he, hb, fun _ _ _ => False, fun _ _ _ q => q.elim, k.ext ⟨fun _ _ _ q => .inl q, fun i x hx => ⟨x, hx, .inl rfl⟩⟩⟩
end
section
variable {α : Type} {f : α → List Value} {s : Nat} {w w' : World} {S : SS} {A : Option Addr} {l : List α}
end
end Go.Proofs.Ytaaogcnjfkgnoaa

namespace Go.Proofs.Ytaaogcnjfkgnoaa
open Go.RowKit
def bC (l : List UInt8) : List AV := l.map fun b=>V (cB b)
theorem z5z (l : List UInt8) : (bC l).length = l.length := by simp [bC]
theorem z5x (a b : List UInt8) : bC (a ++ b) = bC a ++ bC b := by simp [bC]
theorem zuf (s : List UInt8) : strA ⟨s.toArray⟩ = bC s := by simp [strA,bC,cB]
theorem zo9 (l : List UInt8) : zeT (bC l) = some l := zk6 l
abbrev Bytes := List UInt8
theorem zvX (l : Bytes) : flat (l.map fun b=>V (cB b)) = l.map fun b=>V (cB b) := by
 unfold flat
 induction l with
 |nil=>rfl
 |cons b l ih=>rw [List.map_cons,List.flatMap_cons,ih];rfl
theorem zvm (l : Bytes) : allC 1 (l.map fun b=>V (cB b)) := fun d hd=>by
 obtain ⟨b,_,rfl⟩ := List.mem_map.1 hd
 rfl
theorem zuT (S : SS) (μ : List Value) (l : Bytes) : reps S μ (flat (l.map fun b=>V (cB b))) (l.map cB) := by
 rw [zvX]
 refine ⟨by simp,fun j d u hd hu=>?_⟩
 rw [List.getElem?_map] at hd hu
 obtain ⟨b,hb,rfl⟩ := Option.map_eq_some_iff.1 hd
 rw [hb] at hu
 simp at hu;subst hu
 exact ⟨rfl,rfl,rfl⟩
theorem zyp (v : Nat) (hv : v < 18446744073709551616) (H : List AObj) : AC Try.prog GG 95 [V (.int .u64 v)] H (Is (OW H.length (put v).length) (H ++ [⟨2,5,1,bC (put v)⟩])) := by
 refine ⟨by kernel_rfl,fun w S μ vs hr hg hl hv'=>?_⟩
 obtain ⟨v0,rfl⟩ : ∃ v,vs = [v] := by
  match vs,hl with
  |[v],_=>exact ⟨v,rfl⟩
 obtain ⟨rfl,_⟩ := hv' 0 _ _ rfl rfl
 refine (zut (v : Int) (by omega) (by omega) w).mono ?_
 rintro e w' ⟨g,cap,rfl,hown,hb⟩
 rw [Int.toNat_natCast] at hown ⊢
 have hl : (bC (put v)).length = (put v).length := z5z _
 rw [← hl] at hown ⊢
 exact zqz hr hb (zvm _) (zuT S [] (put v)) hown
noncomputable def z5T (m : Nat) : List AV → Nat → RO
 |[.held (.inl (.int .u64 v))],n=>whenE (decide (0 ≤ v) && decide (v < 18446744073709551616)) (some (OW n (put v.toNat).length,[⟨2,5,1,bC (put v.toNat)⟩]))
 |_,_=>none
theorem zle (m : Nat) : ∀ args H X Y,z5T m args H.length = some (X,Y) → AC Try.prog GG 95 args H (Is X (H ++ Y)) := by
 intro args H X Y h
 unfold z5T at h
 split at h
 ·rename_i v
  obtain ⟨h1,h2⟩ := z03 h
  rw [Bool.and_eq_true,decide_eq_true_eq,decide_eq_true_eq] at h1
  obtain ⟨n,rfl⟩ : ∃ n : Nat,v = n := ⟨v.toNat,by omega⟩
  cases h2
  exact zyp n (by omega) H
 ·cases h
theorem zmt (m n v : Nat) (hv : v < 18446744073709551616) : z5T m [V (.int .u64 v)] n = some (OW n (put v).length,[⟨2,5,1,bC (put v)⟩]) := by
 have h1 : decide (0 ≤ (v : Int)) = true := decide_eq_true (by omega)
 have h2 : decide ((v : Int) < 18446744073709551616) = true := decide_eq_true (by omega)
 have e : z5T m [V (.int .u64 v)] n = whenE (decide (0 ≤ (v : Int)) && decide ((v : Int) < 18446744073709551616)) (some (OW n (put (v : Int).toNat).length,[⟨2,5,1,bC (put (v : Int).toNat)⟩])) := by
  unfold z5T
  rfl
 rw [e,h1,h2,Int.toNat_natCast]
 exact zbO
theorem zss (v : Nat) (hv : v < 18446744073709551616) : ACp Try.prog GG 92 [V (.int .u64 v)] (sA (put v)) := by
 refine acp_of_tells (by kernel_rfl) fun w S vs hr hg hv' hrep=>?_
 obtain ⟨v0,rfl⟩ : ∃ v,vs = [v] := by
  match vs,hv' with
  |[v],_=>exact ⟨v,rfl⟩
 obtain ⟨rfl,_⟩ := hrep 0 _ _ rfl rfl
 refine (zs3 (v : Int) (by omega) (by omega) w).mono ?_
 rintro e w' ⟨rfl,hb⟩
 rw [Int.toNat_natCast]
 exact ⟨_,rfl,hb,rfl,rfl⟩
noncomputable def z5c (m : Nat) : List AV → RO := orac (ι := Nat) (fun v=>[V (.int .u64 v)]) (fun v=>sA (put v)) (fun v=>v < 18446744073709551616)
theorem zgD (m : Nat) : ∀ args X H',z5c m args = some (X,H') → ACp Try.prog GG 92 args X := zoE zss
theorem zhF (m : Nat) (v : Nat) (hv : v < 18446744073709551616) : z5c m [V (.int .u64 v)] = some (sA (put v),[]) := zrB (ι := Nat) (fun a b h=>by
 have : a = b := by
  injection h with h
  injection h with h;injection h with h;injection h with h1 h2
  omega
 rw [this]) (i := v) hv
end Go.Proofs.Ytaaogcnjfkgnoaa

namespace Go.Proofs.Ytaaogcnjfkgnoaa
open Go.RowKit
noncomputable def z8z : Code := (Try.f68.body).getD .skip
def z8D : Hint := (.two .n (.two .n (.two .n (.two .n (.two .n (.two .n (.two .n (.two .n .n))))))))
noncomputable def zbH (m : Nat) : Env := []
noncomputable abbrev zbI : KO (AV × List AObj) := z3I Try.prog [.tmp 2]
noncomputable def z4A (m : Nat) (t0 : AV) : RO := exec Try.prog GG (zbH m) m ⟨35,[]⟩ z8z z8D ⟨[],argsT 0 [t0]⟩ (zbI)
theorem zco (m : Nat) (t0 : AV) : z4A m t0 =
 binE none false false .shr t0 (V (.int .u64 1)) fun t4 =>
 binE none false false .and t4 (V (.int .u64 6148914691236517205)) fun t5 =>
 binE none false false .and t0 (V (.int .u64 6148914691236517205)) fun t7 =>
 binE none false false .add t5 t7 fun t8 =>
 binE none false false .shr t8 (V (.int .u64 2)) fun t10 =>
 binE none false false .and t10 (V (.int .u64 3689348814741910323)) fun t11 =>
 binE none false false .and t8 (V (.int .u64 3689348814741910323)) fun t13 =>
 binE none false false .add t11 t13 fun t14 =>
 binE none false false .shr t14 (V (.int .u64 4)) fun t16 =>
 binE none false false .add t16 t14 fun t18 =>
 binE none false false .and t18 (V (.int .u64 1085102592571150095)) fun t19 =>
 binE none false false .shr t19 (V (.int .u64 8)) fun t22 =>
 binE none false false .add t19 t22 fun t23 =>
 binE none false false .shr t23 (V (.int .u64 16)) fun t26 =>
 binE none false false .add t23 t26 fun t27 =>
 binE none false false .shr t27 (V (.int .u64 32)) fun t30 =>
 binE none false false .add t27 t30 fun t31 =>
 convE false (some .i64) true false false (ro [] t31) fun t33 =>
 binE none false false .and t33 (V (.int .i64 127)) fun t34 =>
 tellK [] (ro [] t34) := by
 refine (tellX _ _ _ _ _ _ _ _ _).trans ?_
 kernel_rfl
noncomputable def z5r (m : Nat) : List AV → RO|[t0]=>z4A m t0|_=>none
theorem zcg (m : Nat) : ∀ args X H',z5r m args = some (X,H') → ACp Try.prog GG 68 args X := by
 intro args X H' h
 unfold z5r at h
 split at h
 ·exact z0B MIX (by intro f e h;cases h) (f := 68) (c := z8z) Try.func68 rfl (by kernel_rfl) _ rfl Try.ntmps68 (Nat.le_of_ble_eq_true rfl) z8D h
 ·cases h
noncomputable def ziE : Code := (Try.f64.body).getD .skip
def zjh : Hint := (.two .n (.two (.two .n (.two (.two .n .n) .n)) (.two .n .n)))
noncomputable def zkL (m : Nat) : Env := []
noncomputable abbrev zki : KO (AV × List AObj) := z3I Try.prog [.tmp 2]
noncomputable def zar (m : Nat) (t0 : AV) : RO := exec Try.prog GG (zkL m) m ⟨12,[]⟩ ziE zjh ⟨[],argsT 0 [t0]⟩ (zki)
theorem zlB (m : Nat) (t0 : AV) : zar m t0 =
 binE none false false .lss t0 (V (.int .i64 0)) fun t4 =>
 condE t4 (
  tellK [] (ro [] (V (.int .u64 0)))) (
  binE none false false .gtr t0 (V (.int .i64 63)) fun t7 =>
  condE t7 (
  tellK [] (ro [] (V (.int .u64 0)))) (
  convE false (some .u64) true false false (ro [] t0) fun t10 =>
  binE none false false .shl (V (.int .u64 1)) t10 fun t11 =>
  tellK [] (ro [] t11))) := by
 refine (tellX _ _ _ _ _ _ _ _ _).trans ?_
 kernel_rfl
noncomputable def z97 (m : Nat) : List AV → RO|[t0]=>zar m t0|_=>none
theorem zb0 (m : Nat) : ∀ args X H',z97 m args = some (X,H') → ACp Try.prog GG 64 args X := by
 intro args X H' h
 unfold z97 at h
 split at h
 ·exact z0B MIX (by intro f e h;cases h) (f := 64) (c := ziE) Try.func64 rfl (by kernel_rfl) _ rfl Try.ntmps64 (Nat.le_of_ble_eq_true rfl) zjh h
 ·cases h
noncomputable def zhi : Code := (Try.f75.body).getD .skip
def zhy : Hint := (.two .n (.two .n .n))
noncomputable def zeU (m : Nat) : Env := [(64, .tell (z97 m))]
noncomputable abbrev zjo : KO (AV × List AObj) := z3I Try.prog [.tmp 4]
noncomputable def zbL (m : Nat) (t0 t1 : AV) : RO := exec Try.prog GG (zeU m) m ⟨9,[]⟩ zhi zhy ⟨[],argsT 0 [t0,t1]⟩ (zjo)
theorem zkq (m : Nat) (t0 t1 : AV) : zbL m t0 t1 =
 tellE (zar m (ro [] t1)) [(ro [] t1)] fun t7 =>
 binE none false false .or t0 t7 fun t8 =>
 tellK [] (ro [] t8) := by
 refine (tellX _ _ _ _ _ _ _ _ _).trans ?_
 kernel_rfl
noncomputable def zaM (m : Nat) : List AV → RO|[t0,t1]=>zbL m t0 t1|_=>none
theorem zg6 (m : Nat) : ∀ args X H',zaM m args = some (X,H') → ACp Try.prog GG 75 args X := by
 intro args X H' h
 unfold zaM at h
 split at h
 ·exact z0B MIX (by
  intro f e h
  simp only [zeU,Prod.mk.injEq,List.mem_cons,List.not_mem_nil,or_false] at h
  obtain ⟨rfl,rfl⟩ := h
  ·exact zb0 m) (f := 75) (c := zhi) Try.func75 rfl (by kernel_rfl) _ rfl Try.ntmps75 (Nat.le_of_ble_eq_true rfl) zhy h
 ·cases h
noncomputable def zdF : Code := (Try.f40.body).getD .skip
def zdO : Hint := (.two .n (.two .n .n))
noncomputable def zc2 (m : Nat) : Env := [(64, .tell (z97 m))]
noncomputable abbrev zgF : KO (AV × List AObj) := z3I Try.prog [.tmp 4]
noncomputable def za3 (m : Nat) (t0 t1 : AV) : RO := exec Try.prog GG (zc2 m) m ⟨9,[]⟩ zdF zdO ⟨[],argsT 0 [t0,t1]⟩ (zgF)
theorem zhP (m : Nat) (t0 t1 : AV) : za3 m t0 t1 =
 tellE (zar m (ro [] t1)) [(ro [] t1)] fun t7 =>
 binE none false false .andNot t0 t7 fun t8 =>
 tellK [] (ro [] t8) := by
 refine (tellX _ _ _ _ _ _ _ _ _).trans ?_
 kernel_rfl
noncomputable def zaq (m : Nat) : List AV → RO|[t0,t1]=>za3 m t0 t1|_=>none
theorem zhO (m : Nat) : ∀ args X H',zaq m args = some (X,H') → ACp Try.prog GG 40 args X := by
 intro args X H' h
 unfold zaq at h
 split at h
 ·exact z0B MIX (by
  intro f e h
  simp only [zc2,Prod.mk.injEq,List.mem_cons,List.not_mem_nil,or_false] at h
  obtain ⟨rfl,rfl⟩ := h
  ·exact zb0 m) (f := 40) (c := zdF) Try.func40 rfl (by kernel_rfl) _ rfl Try.ntmps40 (Nat.le_of_ble_eq_true rfl) zdO h
 ·cases h
noncomputable def zfC : Code := (Try.f41.body).getD .skip
def zg7 : Hint := (.two .n (.two .n .n))
noncomputable def zdv (m : Nat) : Env := [(68, .tell (z5r m))]
noncomputable abbrev ziJ : KO (AV × List AObj) := z3I Try.prog [.tmp 2]
noncomputable def zaj (m : Nat) (t0 : AV) : RO := exec Try.prog GG (zdv m) m ⟨5,[]⟩ zfC zg7 ⟨[],argsT 0 [t0]⟩ (ziJ)
theorem zju (m : Nat) (t0 : AV) : zaj m t0 =
 tellE (z4A m (ro [] t0)) [(ro [] t0)] fun t4 =>
 tellK [] (ro [] t4) := by
 refine (tellX _ _ _ _ _ _ _ _ _).trans ?_
 kernel_rfl
noncomputable def za1 (m : Nat) : List AV → RO|[t0]=>zaj m t0|_=>none
theorem zeW (m : Nat) : ∀ args X H',za1 m args = some (X,H') → ACp Try.prog GG 41 args X := by
 intro args X H' h
 unfold za1 at h
 split at h
 ·exact z0B MIX (by
  intro f e h
  simp only [zdv,Prod.mk.injEq,List.mem_cons,List.not_mem_nil,or_false] at h
  obtain ⟨rfl,rfl⟩ := h
  ·exact zcg m) (f := 41) (c := zfC) Try.func41 rfl (by kernel_rfl) _ rfl Try.ntmps41 (Nat.le_of_ble_eq_true rfl) zg7 h
 ·cases h
noncomputable def zj8 : Code := (Try.f67.body).getD .skip
def zij : Hint := (.two .n (.two (.one (.two .n (.two (.two .n .n) (.two .n (.two (.two .n .n) .n))))) (.two .n .n)))
noncomputable def zfO (m : Nat) : Env := [(64, .tell (z97 m))]
noncomputable abbrev zkI : KO (AV × List AObj) := z3I Try.prog [.tmp 2]
noncomputable def zdI (m : Nat) (t0 : AV) : RO := exec Try.prog GG (zfO m) m ⟨12,[]⟩ zj8 zij ⟨[],argsT 0 [t0]⟩ (zkI)
theorem zl1 (m : Nat) (t0 : AV) : zdI m t0 =
 binE none false false .lss t0 (V (.int .i64 1)) fun t5 =>
 condE t5 (
  tellK [] (ro [] (V (.int .u64 0)))) (
  binE none false false .gtr t0 (V (.int .i64 63)) fun t8 =>
  condE t8 (
   tellK [] (ro [] (V (.int .u64 18446744073709551615)))) (
   tellE (zar m (ro [] t0)) [(ro [] t0)] fun t10 =>
   binE none false false .sub t10 (V (.int .u64 1)) fun t11 =>
   tellK [] (ro [] t11))) := by
 refine (tellX _ _ _ _ _ _ _ _ _).trans ?_
 kernel_rfl
noncomputable def zcF (m : Nat) : List AV → RO|[t0]=>zdI m t0|_=>none
theorem zhh (m : Nat) : ∀ args X H',zcF m args = some (X,H') → ACp Try.prog GG 67 args X := by
 intro args X H' h
 unfold zcF at h
 split at h
 ·exact z0B MIX (by
  intro f e h
  simp only [zfO,Prod.mk.injEq,List.mem_cons,List.not_mem_nil,or_false] at h
  obtain ⟨rfl,rfl⟩ := h
  ·exact zb0 m) (f := 67) (c := zj8) Try.func67 rfl (by kernel_rfl) _ rfl Try.ntmps67 (Nat.le_of_ble_eq_true rfl) zij h
 ·cases h
noncomputable def zeY : Code := (Try.f32.body).getD .skip
def zeZ : Hint := (.two .n (.two (.two .n (.two (.two .n .n) .n)) (.two .n .n)))
noncomputable def zhT (m : Nat) : Env := []
noncomputable abbrev zi0 : KO (AV × List AObj) := z3I Try.prog [.tmp 2, .tmp 3]
noncomputable def z4R (m : Nat) (t0 : AV) : RO := exec Try.prog GG (zhT m) m ⟨17,[]⟩ zeY zeZ ⟨[],argsT 0 [t0]⟩ (zi0)
theorem zig (m : Nat) (t0 : AV) : z4R m t0 =
 binE none false false .rem t0 (V (.int .i64 3)) fun t5 =>
 binE none false false .neq t5 (V (.int .i64 1)) fun t6 =>
 condE t6 (
  tellK [] (ro [] (TU [noT (V (.int .i64 0)),noT (V (.int .i64 1))]))) (
  binE none false false .lss t0 (V (.int .i64 4)) fun t9 =>
  condE t9 (
  tellK [] (ro [] (TU [noT (V (.int .i64 0)),noT (V (.int .i64 1))]))) (
  binE none false false .gtr t0 (V (.int .i64 16)) fun t13 =>
  condE t13 (
  tellK [] (ro [] (TU [noT (V (.int .i64 0)),noT (V (.int .i64 1))]))) (
  binE none false false .quo t0 (V (.int .i64 3)) fun t16 =>
  tellK [] (ro [] (TU [noT t16,noT (V (.int .i64 0))]))))) := by
 refine (tellX _ _ _ _ _ _ _ _ _).trans ?_
 kernel_rfl
noncomputable def z4y (m : Nat) : List AV → RO|[t0]=>z4R m t0|_=>none
theorem z5W (m : Nat) : ∀ args X H',z4y m args = some (X,H') → ACp Try.prog GG 32 args X := by
 intro args X H' h
 unfold z4y at h
 split at h
 ·exact z0B MIX (by intro f e h;cases h) (f := 32) (c := zeY) Try.func32 rfl (by kernel_rfl) _ rfl Try.ntmps32 (Nat.le_of_ble_eq_true rfl) zeZ h
 ·cases h
noncomputable def zf2 : Code := (Try.f91.body).getD .skip
def zf0 : Hint := (.two .n (.two .n (.two (.two .n (.two (.two .n .n) .n)) (.two .n .n))))
noncomputable def zcS (m : Nat) : Env := [(32, .tell (z4y m))]
noncomputable abbrev zhZ : KO (AV × List AObj) := z3I Try.prog [.tmp 2]
noncomputable def zaJ (m : Nat) (t0 : AV) : RO := exec Try.prog GG (zcS m) m ⟨15,[]⟩ zf2 zf0 ⟨[],argsT 0 [t0]⟩ (zhZ)
theorem ziX (m : Nat) (t0 : AV) : zaJ m t0 =
 tellE (z4R m (ro [] t0)) [(ro [] t0)] fun t7 =>
 extE t7 0 fun t8 =>
 extE t7 1 fun t9 =>
 binE none false false .neq t9 (V (.int .i64 0)) fun t11 =>
 condE t11 (
  tellK [] (ro [] (V (.int .i64 0)))) (
  binE none false false .mul (V (.int .i64 2)) t8 fun t13 =>
  binE none false false .add t13 (V (.int .i64 1)) fun t14 =>
  tellK [] (ro [] t14)) := by
 refine (tellX _ _ _ _ _ _ _ _ _).trans ?_
 kernel_rfl
noncomputable def zbo (m : Nat) : List AV → RO|[t0]=>zaJ m t0|_=>none
theorem ziT (m : Nat) : ∀ args X H',zbo m args = some (X,H') → ACp Try.prog GG 91 args X := by
 intro args X H' h
 unfold zbo at h
 split at h
 ·exact z0B MIX (by
  intro f e h
  simp only [zcS,Prod.mk.injEq,List.mem_cons,List.not_mem_nil,or_false] at h
  obtain ⟨rfl,rfl⟩ := h
  ·exact z5W m) (f := 91) (c := zf2) Try.func91 rfl (by kernel_rfl) _ rfl Try.ntmps91 (Nat.le_of_ble_eq_true rfl) zf0 h
 ·cases h
noncomputable def zeS : Code := (Try.f90.body).getD .skip
def zeV : Hint := (.two .n (.two .n .n))
noncomputable def zd1 (m : Nat) : Env := [(67, .tell (zcF m)),(41, .tell (za1 m))]
noncomputable abbrev zhS : KO (AV × List AObj) := z3I Try.prog [.tmp 6]
noncomputable def zaT (m : Nat) (t0 t1 t2 : AV) : RO := exec Try.prog GG (zd1 m) m ⟨18,[]⟩ zeS zeV ⟨[],argsT 0 [t0,t1,t2]⟩ (zhS)
theorem zj9 (m : Nat) (t0 t1 t2 : AV) : zaT m t0 t1 t2 =
 binE none false false .gtr t2 (V (.int .i64 0)) fun t8 =>
 condE t8 (
  tellE (zdI m (ro [] t1)) [(ro [] t1)] fun t12 =>
  binE none false false .and t0 t12 fun t13 =>
  tellE (zaj m (ro [] t13)) [(ro [] t13)] fun t14 =>
  binE none false false .geq t14 t2 fun t16 =>
  tellK [] (ro [] t16)) (
  tellK [] (ro [] (V (.bool false)))) := by
 refine (tellX _ _ _ _ _ _ _ _ _).trans ?_
 kernel_rfl
noncomputable def zbq (m : Nat) : List AV → RO|[t0,t1,t2]=>zaT m t0 t1 t2|_=>none
theorem ziD (m : Nat) : ∀ args X H',zbq m args = some (X,H') → ACp Try.prog GG 90 args X := by
 intro args X H' h
 unfold zbq at h
 split at h
 ·exact z0B MIX (by
  intro f e h
  simp only [zd1,Prod.mk.injEq,List.mem_cons,List.not_mem_nil,or_false] at h
  rcases h with ⟨rfl,rfl⟩|⟨rfl,rfl⟩
  ·exact zhh m
  ·exact zeW m) (f := 90) (c := zeS) Try.func90 rfl (by kernel_rfl) _ rfl Try.ntmps90 (Nat.le_of_ble_eq_true rfl) zeV h
 ·cases h
noncomputable def zd3 : Code := (Try.f63.body).getD .skip
def zcW : Hint := (.two .n (.two .n .n))
noncomputable def zaN (m : Nat) : Env := [(91, .tell (zbo m)),(90, .tell (zbq m))]
noncomputable abbrev zgq : KO (AV × List AObj) := z3I Try.prog [.tmp 4]
noncomputable def z79 (m : Nat) (t0 t1 : AV) : RO := exec Try.prog GG (zaN m) m ⟨10,[]⟩ zd3 zcW ⟨[],argsT 0 [t0,t1]⟩ (zgq)
theorem zh9 (m : Nat) (t0 t1 : AV) : z79 m t0 t1 =
 tellE (zaJ m (ro [] t1)) [(ro [] t1)] fun t8 =>
 tellE (zaT m (ro [] t0) (ro [] t1) (ro [] t8)) [(ro [] t0),(ro [] t1),(ro [] t8)] fun t9 =>
 tellK [] (ro [] t9) := by
 refine (tellX _ _ _ _ _ _ _ _ _).trans ?_
 kernel_rfl
noncomputable def z7f (m : Nat) : List AV → RO|[t0,t1]=>z79 m t0 t1|_=>none
theorem zbR (m : Nat) : ∀ args X H',z7f m args = some (X,H') → ACp Try.prog GG 63 args X := by
 intro args X H' h
 unfold z7f at h
 split at h
 ·exact z0B MIX (by
  intro f e h
  simp only [zaN,Prod.mk.injEq,List.mem_cons,List.not_mem_nil,or_false] at h
  rcases h with ⟨rfl,rfl⟩|⟨rfl,rfl⟩
  ·exact ziT m
  ·exact ziD m) (f := 63) (c := zd3) Try.func63 rfl (by kernel_rfl) _ rfl Try.ntmps63 (Nat.le_of_ble_eq_true rfl) zcW h
 ·cases h
noncomputable def zih : Code := (Try.f38.body).getD .skip
def zj1 : Hint := (.two .n (.two .n .n))
noncomputable def zfV (m : Nat) : Env := [(64, .tell (z97 m))]
noncomputable abbrev zkm : KO (AV × List AObj) := z3I Try.prog [.tmp 4]
noncomputable def zdV (m : Nat) (t0 t1 : AV) : RO := exec Try.prog GG (zfV m) m ⟨10,[]⟩ zih zj1 ⟨[],argsT 0 [t0,t1]⟩ (zkm)
theorem zlI (m : Nat) (t0 t1 : AV) : zdV m t0 t1 =
 tellE (zar m (ro [] t1)) [(ro [] t1)] fun t7 =>
 binE none false false .and t0 t7 fun t8 =>
 binE none false false .neq t8 (V (.int .u64 0)) fun t9 =>
 tellK [] (ro [] t9) := by
 refine (tellX _ _ _ _ _ _ _ _ _).trans ?_
 kernel_rfl
noncomputable def zcD (m : Nat) : List AV → RO|[t0,t1]=>zdV m t0 t1|_=>none
theorem zho (m : Nat) : ∀ args X H',zcD m args = some (X,H') → ACp Try.prog GG 38 args X := by
 intro args X H' h
 unfold zcD at h
 split at h
 ·exact z0B MIX (by
  intro f e h
  simp only [zfV,Prod.mk.injEq,List.mem_cons,List.not_mem_nil,or_false] at h
  obtain ⟨rfl,rfl⟩ := h
  ·exact zb0 m) (f := 38) (c := zih) Try.func38 rfl (by kernel_rfl) _ rfl Try.ntmps38 (Nat.le_of_ble_eq_true rfl) zj1 h
 ·cases h
noncomputable def zei : Code := (Try.f65.body).getD .skip
def quorum_Of_h : Hint := (.two .n (.two .n (.join [3] (.two .n (.one (.lp [] [3,6,7,8] [3] (.two .n (.two (.two .n .n) (.two (.one (.two .n .n)) .n)))))) (.two .n .n))))
noncomputable def zaS (m : Nat) : Env := [(75, .tell (zaM m))]
noncomputable abbrev zdZ : KO (AV × List AObj) := z3I Try.prog [.tmp 2]
noncomputable def zif (m : Nat) (s : ASt) : RO := joinW Try.prog GG (zaS m) m ⟨17,[]⟩ (cdR (cdR (cdR zei))) quorum_Of_h.r.r.r s (zdZ)
noncomputable def zii (m : Nat) (s : ASt) (kc : ASt → RO) (kx : KO (AV × List AObj)) : RO := bodyW Try.prog GG (zaS m) m ⟨17,[]⟩ (cdL (cdL (cdR (cdL (cdR (cdR zei)))))) quorum_Of_h.r.r.l.r.c.c [3,6,7,8] [3] s kc kx
noncomputable def zi4 (m : Nat) (t0 : AV) : RO := exec Try.prog GG (zaS m) m ⟨17,[]⟩ zei quorum_Of_h ⟨[],argsT 0 [t0]⟩ (zdZ)
theorem zjy (m : Nat) (H : List AObj) (t3 : AV) : zif m ⟨H,[(3,t3)]⟩ =
 tellK H (ro H t3) := by
 refine (z04 _ _ _ _ _ _ _ _ _).trans ?_
 kernel_rfl
theorem zjz (m : Nat) (H : List AObj) (t3 t6 t7 t8 : AV) (kc : ASt → RO) (kx : KO (AV × List AObj)) : zii m ⟨H,[(3,t3),(6,t6),(7,t7),(8,t8)]⟩ kc kx =
 binE none false false .lss t8 t7 fun t9 =>
 condE t9 (
  idxSE 1 H t6 t8 fun t10 =>
  loadE 1 H t10 fun t11 =>
  tellE (zbL m (ro H t3) (ro H t11)) [(ro H t3),(ro H t11)] fun t14 =>
  binE none false false .add t8 (V (.int .i64 1)) fun t15 =>
  backE H.length H [(3,t14),(6,t6),(7,t7),(8,t15)] kc) (
  kx (.exit 0) ⟨H,[(3,t3)]⟩) := by
 refine (z2i _ _ _ _ _ _ _ _ _ _ _ _).trans ?_
 kernel_rfl
theorem zmr (m : Nat) (t0 : AV) : zi4 m t0 =
 lenE false true [] t0 fun t7 =>
 iterC m (zii m) ⟨[],[(3,(V (.int .u64 0))),(6,t0),(7,t7),(8,(V (.int .i64 0)))]⟩ (z3K 0 (seqX (fun s=>zif m ⟨s.H,[(3,gt s.T 3)]⟩) (zdZ))) := by
 refine (tellX _ _ _ _ _ _ _ _ _).trans ?_
 kernel_rfl
noncomputable def zgr (m : Nat) : List AV → RO|[t0]=>zi4 m t0|_=>none
theorem zma (m : Nat) : ∀ args X H',zgr m args = some (X,H') → ACp Try.prog GG 65 args X := by
 intro args X H' h
 unfold zgr at h
 split at h
 ·exact z0B MIX (by
  intro f e h
  simp only [zaS,Prod.mk.injEq,List.mem_cons,List.not_mem_nil,or_false] at h
  obtain ⟨rfl,rfl⟩ := h
  ·exact zg6 m) (f := 65) (c := zei) Try.func65 rfl (by kernel_rfl) _ rfl Try.ntmps65 (Nat.le_of_ble_eq_true rfl) quorum_Of_h h
 ·cases h
noncomputable def zdK : Code := (Try.f37.body).getD .skip
def zdT : Hint := (.two .n (.two (.two .n (.two (.two .n .n) .n)) (.two .n (.two (.two .n (.two .n .n)) (.two .n .n)))))
noncomputable def zhd (m : Nat) : Env := []
noncomputable abbrev zh1 : KO (AV × List AObj) := z3I Try.prog [.tmp 4]
noncomputable def z7W (m : Nat) (t0 t1 : AV) : RO := exec Try.prog GG (zhd m) m ⟨17,[]⟩ zdK zdT ⟨[],argsT 0 [t0,t1]⟩ (zh1)
theorem zhY (m : Nat) (t0 t1 : AV) : z7W m t0 t1 =
 binE none false false .lss t1 (V (.int .i64 1)) fun t7 =>
 condE t7 (
  tellK [] (ro [] (V (.int .i64 0)))) (
  binE none false false .rem t0 t1 fun t10 =>
  binE none false false .lss t10 (V (.int .i64 0)) fun t12 =>
  condE t12 (
   binE none false false .add t10 t1 fun t15 =>
   tellK [] (ro [] t15)) (
   tellK [] (ro [] t10))) := by
 refine (tellX _ _ _ _ _ _ _ _ _).trans ?_
 kernel_rfl
noncomputable def z8r (m : Nat) : List AV → RO|[t0,t1]=>z7W m t0 t1|_=>none
theorem zd9 (m : Nat) : ∀ args X H',z8r m args = some (X,H') → ACp Try.prog GG 37 args X := by
 intro args X H' h
 unfold z8r at h
 split at h
 ·exact z0B MIX (by intro f e h;cases h) (f := 37) (c := zdK) Try.func37 rfl (by kernel_rfl) _ rfl Try.ntmps37 (Nat.le_of_ble_eq_true rfl) zdT h
 ·cases h
noncomputable def z56 : Code := (Try.f42.body).getD .skip
def plenumref05_Faults_h : Hint := (.two .n (.join [] (.two .n (.one (.lp [] [0,3] [2] (.two (.two .n (.two .n .n)) (.two (.one (.two .n (.two (.two .n .n) .n))) .n))))) (.two .n .n)))
noncomputable def z5Y (m : Nat) : Env := []
noncomputable abbrev z5V : KO (AV × List AObj) := z3I Try.prog [.tmp 2]
noncomputable def z9W (m : Nat) (s : ASt) : RO := joinW Try.prog GG (z5Y m) m ⟨14,[]⟩ (cdR (cdR z56)) plenumref05_Faults_h.r.r s (z5V)
noncomputable def z9X (m : Nat) (s : ASt) (kc : ASt → RO) (kx : KO (AV × List AObj)) : RO := bodyW Try.prog GG (z5Y m) m ⟨14,[]⟩ (cdL (cdL (cdR (cdL (cdR z56))))) plenumref05_Faults_h.r.l.r.c.c [0,3] [2] s kc kx
noncomputable def z4G (m : Nat) (t0 : AV) : RO := exec Try.prog GG (z5Y m) m ⟨14,[]⟩ z56 plenumref05_Faults_h ⟨[],argsT 0 [t0]⟩ (z5V)
theorem zcy (m : Nat) (H : List AObj) : z9W m ⟨H,[]⟩ =
 tellK H (ro H (V (.int .i64 0))) := by
 refine (z04 _ _ _ _ _ _ _ _ _).trans ?_
 kernel_rfl
theorem zcf (m : Nat) (H : List AObj) (t0 t3 : AV) (kc : ASt → RO) (kx : KO (AV × List AObj)) : z9X m ⟨H,[(0,t0),(3,t3)]⟩ kc kx =
 binE none false false .leq t3 (V (.int .i64 5)) fun t5 =>
 condE t5 (
  binE none false false .mul (V (.int .i64 3)) t3 fun t10 =>
  binE none false false .add t10 (V (.int .i64 1)) fun t11 =>
  binE none false false .eql t0 t11 fun t12 =>
  condE t12 (
   kx .ret ⟨H,[(2,t3)]⟩) (
   binE none false false .add t3 (V (.int .i64 1)) fun t7 =>
   backE H.length H [(0,t0),(3,t7)] kc)) (
  kx (.exit 0) ⟨H,[(2, .nil)]⟩) := by
 refine (z2i _ _ _ _ _ _ _ _ _ _ _ _).trans ?_
 kernel_rfl
theorem zev (m : Nat) (t0 : AV) : z4G m t0 =
 iterC m (z9X m) ⟨[],[(0,t0),(3,(V (.int .i64 1)))]⟩ (z3K 0 (seqX (fun s=>z9W m ⟨s.H,[]⟩) (z5V))) := by
 refine (tellX _ _ _ _ _ _ _ _ _).trans ?_
 kernel_rfl
noncomputable def z52 (m : Nat) : List AV → RO|[t0]=>z4G m t0|_=>none
theorem z9M (m : Nat) : ∀ args X H',z52 m args = some (X,H') → ACp Try.prog GG 42 args X := by
 intro args X H' h
 unfold z52 at h
 split at h
 ·exact z0B MIX (by intro f e h;cases h) (f := 42) (c := z56) Try.func42 rfl (by kernel_rfl) _ rfl Try.ntmps42 (Nat.le_of_ble_eq_true rfl) plenumref05_Faults_h h
 ·cases h
noncomputable def z9K : Code := (Try.f44.body).getD .skip
def z9S : Hint := (.two .n (.two (.two .n (.two (.two .n .n) .n)) (.two .n (.two (.two .n (.two .n .n)) (.two .n .n)))))
noncomputable def zdl (m : Nat) : Env := []
noncomputable abbrev zdk : KO (AV × List AObj) := z3I Try.prog [.tmp 4]
noncomputable def z5t (m : Nat) (t0 t1 : AV) : RO := exec Try.prog GG (zdl m) m ⟨17,[]⟩ z9K z9S ⟨[],argsT 0 [t0,t1]⟩ (zdk)
theorem ze2 (m : Nat) (t0 t1 : AV) : z5t m t0 t1 =
 binE none false false .lss t1 (V (.int .i64 1)) fun t7 =>
 condE t7 (
  tellK [] (ro [] (V (.int .i64 0)))) (
  binE none false false .rem t0 t1 fun t10 =>
  binE none false false .lss t10 (V (.int .i64 0)) fun t12 =>
  condE t12 (
   binE none false false .add t10 t1 fun t15 =>
   tellK [] (ro [] t15)) (
   tellK [] (ro [] t10))) := by
 refine (tellX _ _ _ _ _ _ _ _ _).trans ?_
 kernel_rfl
noncomputable def z6Z (m : Nat) : List AV → RO|[t0,t1]=>z5t m t0 t1|_=>none
theorem ze0 (m : Nat) : ∀ args X H',z6Z m args = some (X,H') → ACp Try.prog GG 44 args X := by
 intro args X H' h
 unfold z6Z at h
 split at h
 ·exact z0B MIX (by intro f e h;cases h) (f := 44) (c := z9K) Try.func44 rfl (by kernel_rfl) _ rfl Try.ntmps44 (Nat.le_of_ble_eq_true rfl) z9S h
 ·cases h
noncomputable def zjD : Code := (Try.f62.body).getD .skip
def zk3 : Hint := (.two .n (.two .n .n))
noncomputable def zlG (m : Nat) : Env := []
noncomputable abbrev zlp : KO (AV × List AObj) := z3I Try.prog [.tmp 2]
noncomputable def zfT (m : Nat) (t0 : AV) : RO := exec Try.prog GG (zlG m) m ⟨10,[]⟩ zjD zk3 ⟨[],argsT 0 [t0]⟩ (zlp)
theorem zmq (m : Nat) (t0 : AV) : zfT m t0 =
 binE none false false .gtr t0 (V (.int .i64 0)) fun t4 =>
 condE t4 (
  binE none false false .rem t0 (V (.int .i64 4)) fun t7 =>
  binE none false false .eql t7 (V (.int .i64 0)) fun t8 =>
  tellK [] (ro [] t8)) (
  tellK [] (ro [] (V (.bool false)))) := by
 refine (tellX _ _ _ _ _ _ _ _ _).trans ?_
 kernel_rfl
noncomputable def zem (m : Nat) : List AV → RO|[t0]=>zfT m t0|_=>none
theorem ziA (m : Nat) : ∀ args X H',zem m args = some (X,H') → ACp Try.prog GG 62 args X := by
 intro args X H' h
 unfold zem at h
 split at h
 ·exact z0B MIX (by intro f e h;cases h) (f := 62) (c := zjD) Try.func62 rfl (by kernel_rfl) _ rfl Try.ntmps62 (Nat.le_of_ble_eq_true rfl) zk3 h
 ·cases h
noncomputable def zd6 : Code := (Try.f48.body).getD .skip
def zd8 : Hint := (.two .n (.two .n .n))
noncomputable def zg4 (m : Nat) : Env := []
noncomputable abbrev zfY : KO (AV × List AObj) := z3I Try.prog [.tmp 2]
noncomputable def z9e (m : Nat) (t0 : AV) : RO := exec Try.prog GG (zg4 m) m ⟨10,[]⟩ zd6 zd8 ⟨[],argsT 0 [t0]⟩ (zfY)
theorem zgS (m : Nat) (t0 : AV) : z9e m t0 =
 binE none false false .gtr t0 (V (.int .i64 0)) fun t4 =>
 condE t4 (
  binE none false false .rem t0 (V (.int .i64 4)) fun t7 =>
  binE none false false .eql t7 (V (.int .i64 0)) fun t8 =>
  tellK [] (ro [] t8)) (
  tellK [] (ro [] (V (.bool false)))) := by
 refine (tellX _ _ _ _ _ _ _ _ _).trans ?_
 kernel_rfl
noncomputable def z9A (m : Nat) : List AV → RO|[t0]=>z9e m t0|_=>none
theorem zgW (m : Nat) : ∀ args X H',z9A m args = some (X,H') → ACp Try.prog GG 48 args X := by
 intro args X H' h
 unfold z9A at h
 split at h
 ·exact z0B MIX (by intro f e h;cases h) (f := 48) (c := zd6) Try.func48 rfl (by kernel_rfl) _ rfl Try.ntmps48 (Nat.le_of_ble_eq_true rfl) zd8 h
 ·cases h
end Go.Proofs.Ytaaogcnjfkgnoaa

namespace Go.Proofs.Ytaaogcnjfkgnoaa
open Go.RowKit
end Go.Proofs.Ytaaogcnjfkgnoaa

namespace Go.Proofs.Ytaaogcnjfkgnoaa
open Go.RowKit
noncomputable abbrev sltK (T : Tm) (l : List Tmp) : List AV := List.rec (motive := fun _=>List AV) [] (fun t _ ih=>slotK T t :: ih) l
theorem zrl (T : Tm) : ∀ l,sltK T l = l.map (get T)
 |[]=>rfl
 |t :: r=>by
  have ih := zrl T r
  show slotK T t :: sltK T r = get T t :: r.map (get T)
  rw [ih,slotK_eq]
noncomputable abbrev nslFK (rs : List Tmp) : KO (AV × List AObj) := fun e s=>match e with
 |.normal=>some (TU (sltK s.T rs),s.H)
 |_=>none
theorem nslX (P : Program) (G : Gl) (E : Env) (M : Nat) (N : FS) (c : Code) (h : Hint) (s : ASt) (rs : List Tmp) : exec P G E M N c h s (nslFK rs) = execK P G E M N c h s (nslFK rs) := (z8w c h s _).symm
section
variable {P : Program} {G : Gl} {E : Env} {M n : Nat} {H : List AObj}
noncomputable abbrev orwFK (P : Program) (n : Nat) (rs : List ResultVar) : KO (AV × List AObj) := fun e s=>match e with
 |.normal=>resEK P s.H s.T rs fun ds=>openK s.H (oneOf ds)
 |.ret=>resEK P s.H s.T rs fun ds=>openK s.H (oneOf ds)
 |_=>none
theorem orwX (P : Program) (G : Gl) (E : Env) (M : Nat) (N : FS) (n : Nat) (c : Code) (h : Hint) (s : ASt) (rs : List ResultVar) : exec P G E M N c h s (orwFK P n rs) = execK P G E M N c h s (orwFK P n rs) := (z8w c h s _).symm
theorem zys {N : Nat} (hm : P.follows .mixedOrders = true) (hE : EnvOk P G E) {f : FuncId} {fn : Func} {c : Code} {args : List AV} (hf : P.funcs[f]? = some fn) (hb : fn.body = some c) (hc : zdb P f = true) (rs : List ResultVar) (hrs : fn.results.toList = rs) (hN : fn.ntmps = N) (hargs : args.length ≤ N) (h : Hint)
  {X : AV} {H' : List AObj} (hx : exec P G E M (F0 N) c h ⟨H,argsT 0 args⟩ (orwFK P n rs) = some (X,H')) : AC P G f args H (Is X H') := by
 have key := AWp.len (zat (n := H.length) hm hE c h ⟨H,argsT 0 args⟩ _ (Nat.le_refl _) hx) (Nat.le_refl _)
 have fin : ∀ s : ASt,(resEK P s.H s.T rs fun ds=>openK s.H (oneOf ds)) = some (X,H') → H.length ≤ s.H.length →
   resC P s.H s.T rs fun ds=>∃ X' H'',(X' = oneOf ds ∨ X' = ro s.H (oneOf ds)) ∧ HLe s.H H'' ∧ H''.all (ltO H''.length) = true ∧ H.length ≤ H''.length ∧ ltT H''.length X' = true ∧ Is X H' X' H'' := by
  intro s q hl
  rw [zf7] at q
  refine z9f (fun ds w=>?_) (zjb q)
  obtain ⟨h1,h2⟩ := z03 w
  simp only [Bool.and_eq_true] at h1
  cases h2
  exact ⟨_,_, .inl rfl,HLe.refl _,h1.1,hl,h1.2,rfl,rfl⟩
 refine zkO hf hb hc rs hrs N hN hargs (AWp.mono key fun e s q=>?_)
 obtain ⟨q,hl⟩ := q
 cases e with
 |normal=>exact fin s q hl
 |ret=>exact fin s q hl
 |exit id=>cases q
 |goto l=>cases q
 |panic ch=>cases q
 |outgrown=>cases q
end
end Go.Proofs.Ytaaogcnjfkgnoaa

namespace Go.Proofs.Ytaaogcnjfkgnoaa
open Go.RowKit
abbrev FL (lo : Option Nat) : Fence := { Fence.wide with round := lo }
section
variable {lo : Option Nat} {d : Nat} {P : Program} {G : Gl} {N : FS} {n : Nat}
theorem zog {f : FuncId} {args : Array Value} {w : World} {R : Ending → World → Prop} (h : Calls P f args w R) : CallsIn (FL lo) d P f args w R := callsIn_wide.2 h
theorem zq9 {row : String} {args : Array Value} {w : World} {R : Value → World → Prop} (h : Rows P row args w R) : RowsIn (FL lo) d P row args w R := fun c cs _ =>
 let ⟨v,w',r,s⟩ := h c cs;⟨v,w',r,stepsIn_wide.2 s⟩
theorem op_in {o : Oper} {a : Act} {w : World} {next : Act → World → Prop} {Q : Exit → Act → World → Prop} (hd : ∀ c,o.op ≠ .defer c) (h : o.wp P a w next Q) : o.wpIn (FL lo) d P a w next Q := by
 refine ⟨fun _ _=>trivial,?_⟩
 have e : Oper.semAt (FL lo).round a.eval o = execOp a.eval o := by
  cases lo with
  |none=>exact Oper.semAt_none _ _
  |some l=>exact Oper.semAt_some _ _ _ hd
 rw [e]
 unfold Oper.wp at h
 generalize (execOp a.eval o).run P w = r at h ⊢
 cases r with
 |ok x w' =>
  cases x <;> simp only [Oper.upon,Oper.uponIn] at h ⊢ <;>
   first
    |exact h
    |exact h.elim
    |exact ⟨fun q=>(by cases q),(zog h).mono fun e w'' he=>by cases e <;> exact he⟩
    |exact ⟨fun q=>(by cases q),zq9 h⟩
 |halt x w'=>cases x <;> simp only [Oper.upon,Oper.uponIn] at h ⊢ <;> first|exact h|exact h.elim
theorem zil {o : Oper} {s : ASt} {K : AV → List AObj → Prop} (h : z0w P G o s K) : ∀ c,o.op ≠ .defer c := by
 intro c e
 unfold z0w at h
 rw [e] at h
 exact h
theorem zi3 {ops : List Oper} {K : ASt → Prop} {Q : Exit → ASt → Prop} (hK : ∀ s,K s → Q .normal s) {w0 : World} {S0 : SS} {μ0 : List Value} {H0 : List AObj} (hn : n ≤ H0.length) (hl0 : μ0.length = H0.length) : ∀ (l : List Oper) (s : ASt),zbu P G ops l s K → fits N l = true →
  ∀ w S μ a,Rel w S μ s.H → Fr S μ N s.T a → GOk G S → Step n w0 S0 μ0 H0 w S μ s.H → wpListIn (FL lo) d P ops.toArray (Lift N n w0 S0 μ0 H0 Q) l a w
 |[],s,h,_,w,S,μ,a,hr,hf,hg,hs=>⟨s,S,μ,hK s h,hr,hf,hs⟩
 |o :: r,s,h,hfit,w,S,μ,a,hr,hf,hg,hs=>by
  have hfit' := hfit
  simp only [fits,List.all_cons,Bool.and_eq_true] at hfit'
  have hd : ∀ i,o.dst = some i → i < N := fun i e=>by have := hfit'.1;rw [e] at this;simpa using this
  have hgo : ∀ (hw : Region.wanted o (yielded ops.toArray a.tmps) = true),z0w P G o s (fun d H=>zbu P G ops r (s.set H o.dst d) K) → wpListIn (FL lo) d P ops.toArray (Lift N n w0 S0 μ0 H0 Q) (o :: r) a w := by
   intro hw hstep
   unfold wpListIn
   rw [if_pos hw]
   have hop := zeh hstep hr hf hg (Lift N n w0 S0 μ0 H0 Q)
   refine op_in (zil hstep) (_root_.Go.Proofs.Ytaaogcnjfkgnoaa.Oper.wp_next hop fun a' w'=>?_)
   rintro ⟨d,u,H',S',μ',hrest,rfl,hrep,hr',hs',_⟩
   have hst := (hf.ext (hs'.toExt hr)).put o.dst hd hrep
   have hn' : n ≤ s.H.length := by
    have := hs.objs
    rcases Nat.lt_or_ge s.H.length n with hlt|hge
    ·have hlm : s.H.length < μ0.length := by omega
     obtain ⟨x',hx',_⟩ := hs.objs s.H.length μ0[s.H.length] hlt (List.getElem?_eq_getElem hlm)
     have := (List.getElem?_eq_some_iff.1 hx').1
     rw [hr.len] at this;omega
    ·exact hge
   exact zi3 hK hn hl0 r _ hrest hfit'.2 w' S' μ' _ hr' hst (hg.ext hs'.still) (hs.trans (hs'.less hn'))
  have hno : Region.wanted o (yielded ops.toArray a.tmps) = false → wpListIn (FL lo) d P ops.toArray (Lift N n w0 S0 μ0 H0 Q) r (a.put o.dst undef) w → wpListIn (FL lo) d P ops.toArray (Lift N n w0 S0 μ0 H0 Q) (o :: r) a w := by
   intro hw hrest
   unfold wpListIn
   rw [if_neg (by rw [hw];exact Bool.false_ne_true)]
   exact ⟨fun _ _=>trivial,hrest⟩
  unfold zbu at h
  split at h
  ·rename_i hgd
   exact hgo (by simp [Region.wanted,hgd]) h
  ·rename_i j want hgd
   split at h
   ·rename_i t ht
    unfold zhV at h
    split at h
    ·rename_i b hb
     have hy := za6 hf ht hb
     by_cases e : b = want
     ·exact hgo (by simp [Region.wanted,hgd,hy,e]) (h.1 e)
     ·have hrest := h.2 (by cases b <;> cases want <;> simp_all)
      have hst := hf.put o.dst hd (zmc S μ)
      exact hno (by simp [Region.wanted,hgd,hy,e]) (zi3 hK hn hl0 r _ hrest hfit'.2 w S μ _ hr hst hg hs)
    ·rename_i q hb
     have hy := zfB hf ht hb
     have hst := hf.put o.dst hd (zmc S μ)
     exact hno (by simp [Region.wanted,hgd,hy]) (zi3 hK hn hl0 r _ h hfit'.2 w S μ _ hr hst hg hs)
    ·exact h.elim
   ·exact h.elim
def AWi (lo : Option Nat) (d : Nat) (P : Program) (G : Gl) (N : FS) (n : Nat) (c : Code) (Q : Exit → ASt → Prop) (s : ASt) : Prop :=
 ∀ w S μ a,Rel w S μ s.H → Fr S μ N s.T a → GOk G S → c.wpIn (FL lo) d P (Lift N n w S μ s.H Q) a w
variable {Q : Exit → ASt → Prop} {s : ASt} {H : List AObj} {T T' : Tm}
theorem AWi.mono {c : Code} {Q' : Exit → ASt → Prop} (h : AWi lo d P G N n c Q s) (k : ∀ e s,Q e s → Q' e s) : AWi lo d P G N n c Q' s :=
 fun w S μ a hr hf hg=>wpIn_mono (h w S μ a hr hf hg) fun _ _ _ ⟨s',S',μ',hq,r⟩=>⟨s',S',μ',k _ _ hq,r⟩
theorem AWi.text {c : Code} (h : TEq T T') (k : AWi lo d P G N n c Q ⟨H,T'⟩) : AWi lo d P G N n c Q ⟨H,T⟩ :=
 fun w S μ a hr hf hg=>k w S μ a hr ⟨hf.size,hf.nodef,fun i=>by rw [← h i];exact hf.slot i⟩ hg
theorem AWi.forget {c : Code} (h : ∀ i,get T' i = get T i ∨ get T' i = .nil) (k : AWi lo d P G N n c Q ⟨H,T'⟩) : AWi lo d P G N n c Q ⟨H,T⟩ := by
 intro w S μ a hr hf hg
 refine k w S μ a hr ⟨hf.size,hf.nodef,fun i=>?_⟩ hg
 rcases h i with e|e
 ·rw [e];exact hf.slot i
 ·rw [e];exact zlJ _ _ _
theorem AWi.len {c : Code} (h : AWi lo d P G N n c Q s) (hn : n ≤ s.H.length) : AWi lo d P G N n c (fun e s'=>Q e s' ∧ n ≤ s'.H.length) s := by
 intro w S μ a hr hf hg
 refine wpIn_mono (h w S μ a hr hf hg) ?_
 rintro e a' w' ⟨s',S',μ',hq,hr',hf',hst⟩
 refine ⟨s',S',μ',⟨hq,?_⟩,hr',hf',hst⟩
 rw [← hr'.len]
 cases n with
 |zero=>exact Nat.zero_le _
 |succ m =>
  have hm : m < μ.length := by rw [hr.len];omega
  obtain ⟨x',hx',_⟩ := hst.objs m _ (Nat.lt_succ_self m) (List.getElem?_eq_getElem hm)
  exact (List.getElem?_eq_some_iff.1 hx').1
theorem AWi.post {c : Code} {Q' : Exit → ASt → Prop} (h : AWi lo d P G N n c Q s) (q : ∀ e s',Q e s' → ∃ T2,(∀ i,get T2 i = get s'.T i ∨ get T2 i = .nil) ∧ Q' e ⟨s'.H,T2⟩) : AWi lo d P G N n c Q' s := by
 intro w S μ a hr hf hg
 refine wpIn_mono (h w S μ a hr hf hg) ?_
 rintro e a' w' ⟨s',S',μ',hq,hr',hf',hst⟩
 obtain ⟨T2,ht,q'⟩ := q e s' hq
 refine ⟨⟨s'.H,T2⟩,S',μ',q',hr',⟨hf'.size,hf'.nodef,fun i=>?_⟩,hst⟩
 rcases ht i with e|e
 ·rw [e];exact hf'.slot i
 ·rw [e];exact zlJ _ _ _
theorem ztJ (h : Q .normal s) : AWi lo d P G N n .skip Q s := fun w S μ _ hr hf _=>wpIn_skip ⟨s,S,μ,h,hr,hf,Step.refl _ _ _ _ _⟩
theorem ztT (h : Q .ret s) : AWi lo d P G N n .ret Q s := fun w S μ _ hr hf _=>wpIn_ret ⟨s,S,μ,h,hr,hf,Step.refl _ _ _ _ _⟩
theorem zt8 {id : Nat} (h : Q (.exit id) s) : AWi lo d P G N n (.exit id) Q s := fun w S μ _ hr hf _=>wpIn_exit ⟨s,S,μ,h,hr,hf,Step.refl _ _ _ _ _⟩
theorem zx7 {x y : Code} (h : AWi lo d P G N n x (thenA (AWi lo d P G N n y Q) Q) s) : AWi lo d P G N n (.seq x y) Q s := by
 intro w S μ a hr hf hg
 refine wpIn_seq (wpIn_mono (h w S μ a hr hf hg) ?_)
 rintro e a' w' ⟨s',S',μ',hq,hr',hf',hst⟩
 cases e with
 |normal=>exact wpIn_mono (hq w' S' μ' a' hr' hf' (hg.ext hst.still)) fun _ _ _ k=>Lift.trans hst k
 |exit id=>exact ⟨s',S',μ',hq,hr',hf',hst⟩
 |goto l=>exact ⟨s',S',μ',hq,hr',hf',hst⟩
 |ret=>exact ⟨s',S',μ',hq,hr',hf',hst⟩
 |panic ch=>exact ⟨s',S',μ',hq,hr',hf',hst⟩
 |outgrown=>exact ⟨s',S',μ',hq,hr',hf',hst⟩
theorem zq0 {id : Nat} {c : Code} (h : AWi lo d P G N n c (zgI id Q) s) : AWi lo d P G N n (.block id c) Q s := by
 intro w S μ a hr hf hg
 refine wpIn_block (wpIn_mono (h w S μ a hr hf hg) ?_)
 rintro e a' w' ⟨s',S',μ',hq,r⟩
 cases e with
 |exit id' =>
  simp only [zgI] at hq
  simp only [Exit.inBlock]
  split
  ·rename_i e;rw [if_pos e] at hq;exact ⟨s',S',μ',hq,r⟩
  ·rename_i e;rw [if_neg e] at hq;exact ⟨s',S',μ',hq,r⟩
 |normal=>exact ⟨s',S',μ',hq,r⟩
 |goto l=>exact ⟨s',S',μ',hq,r⟩
 |ret=>exact ⟨s',S',μ',hq,r⟩
 |panic ch=>exact ⟨s',S',μ',hq,r⟩
 |outgrown=>exact ⟨s',S',μ',hq,r⟩
theorem zoN {c : Operand} {x y : Code} {t : Bool} (hc : ev G s.T c = V (.bool t)) (h1 : t = true → AWi lo d P G N n x Q s) (h2 : t = false → AWi lo d P G N n y Q s) : AWi lo d P G N n (.cond c x y) Q s := by
 intro w S μ a hr hf hg
 have h := hf.ev hg c
 rw [hc] at h
 exact wpIn_cond_split h.1 (fun e=>h1 e w S μ a hr hf hg) (fun e=>h2 e w S μ a hr hf hg)
theorem zlx {id : Nat} {ops : List Oper} (hfit : fits N ops = true) (hn : n ≤ s.H.length) (h : zbu P G ops ops s fun s=>Q .normal s) : AWi lo d P G N n (.region id ops.toArray false) Q s :=
 fun w S μ a hr hf hg=>wpIn_region_lit (zi3 (K := fun s=>Q .normal s) (fun s h=>h) hn hr.len ops s h hfit w S μ a hr hf hg (Step.refl _ _ _ _ _))
theorem zxD {c : Code} (i off : Nat) (e : TypeId) (z : Nat) (hn : n ≤ s.H.length) (h : AWi lo d P G N n c Q (ghS i off e z s)) : AWi lo d P G N n c Q s := by
 unfold ghS at h
 split at h
 ·rename_i j hi
  split at h
  ·rename_i ob hj
   split at h
   ·rename_i hk hc
    intro w S μ a hr hf hg
    obtain ⟨h1,h2⟩ := hr.nilRow none e z
    have hjl : j < s.H.length := (List.getElem?_eq_some_iff.1 hj).1
    obtain ⟨h3,h4⟩ := h1.recell (off := off) (d' := OW s.H.length 0) (by rw [List.getElem?_append_left hjl];exact hj) hk hc (fun u hu=>⟨none,0,0,none,0,by rw [← hr.len];simp,Nat.le_refl _,hu.1,fun _=>⟨rfl,rfl⟩⟩)
    rw [List.set_append_left _ _ hjl] at h3 h4
    have hx : Ext S μ S (μ ++ [.slice none 0 0]) := zjZ S μ _
    have hf' : Fr S (μ ++ [.slice none 0 0]) N s.T a := ⟨hf.size,hf.nodef,fun k=>(hf.slot k).ext hx⟩
    refine wpIn_mono (h w S _ a h3 hf' hg) fun _ _ _ k=>Lift.trans ((h2.less hn).trans (h4.less ?_)) k
    simp only [List.length_append];omega
   ·exact h
  ·exact h
 ·exact h
theorem zrd {c : Code} (g : Option (Nat × Nat × TypeId × Nat)) (hn : n ≤ s.H.length) (h : AWi lo d P G N n c Q (ghJ g s)) : AWi lo d P G N n c Q s := by
 cases g with
 |none=>exact h
 |some q=>exact zxD _ _ _ _ hn h
def flatC : Code → Bool
 |.skip=>true
 |.region _ _ dr=>!dr
 |.seq a b=>flatC a && flatC b
 |.cond _ x y=>flatC x && flatC y
 |.block _ c=>flatC c
 |.exit _=>true
 |.ret=>true
 |_=>false
theorem zim {R : Type} {E : Env} {M : Nat} (hE : EnvOk P G E) (hp : E.any isPan = false) {r : R} : ∀ (c : Code) (h : Hint) (s : ASt) (k : KO R),flatC c = true → n ≤ s.H.length → exec P G E M N c h s k = some r → AWi lo d P G N n c (fun e s'=>k e s' = some r) s
 |.skip,h,s,k,hc,hn,hx=>ztJ hx
 |.region id ops draw,h,s,k,hc,hn,hx=>by
  cases draw with
  |true=>cases hc
  |false =>
   obtain ⟨h1,h2⟩ := z03 (show whenE (fits N ops.toList) (match panQ E ops.toList with
    |true=>runP P G E ops.toList s (fun s=>k .normal s) (fun u s=>k (.panic (pch u)) s)
    |false=>runE P G E false ops.toList [] ops.toList s fun s=>k .normal s) = some r from hx)
   have hq : panQ E ops.toList = false := by unfold panQ;rw [hp];rfl
   rw [hq] at h2
   have := zlx (lo := lo) (d := d) (n := n) (id := id) (s := s) (G := G) (Q := fun e s'=>e = .normal ∧ Aft (fun s=>k .normal s) r s') h1 hn (za7 (fun s q=>⟨rfl,q⟩) (zfD hE (TEq.refl s.T) SkOk.nil h2))
   rw [Array.toArray_toList] at this
   refine this.post fun e s' q=>?_
   obtain ⟨rfl,T2,ht,q⟩ := q
   exact ⟨T2,fun i=>.inl (ht i).symm,q⟩
 |.seq a b,h,s,k,hc,hn,hx=>by
  simp only [flatC,Bool.and_eq_true] at hc
  refine zx7 (AWi.mono (AWi.len (zim hE hp a h.l s _ hc.1 hn hx) hn) fun e s' q=>?_)
  obtain ⟨q,hl⟩ := q
  cases e with
  |normal =>
   have q : exec P G E M N b h.r (ghJ h.gho (joinS h.J s')) k = some r := q
   cases hj : h.J with
   |none=>rw [hj] at q;exact zrd h.gho hl (zim hE hp b h.r (ghJ h.gho s') k hc.2 (Nat.le_trans hl (zkR _ _)) q)
   |some L=>rw [hj] at q;exact AWi.forget (zek L s'.T) (zrd (s := ⟨s'.H,keepT L s'.T⟩) h.gho hl (zim hE hp b h.r (ghJ h.gho ⟨s'.H,keepT L s'.T⟩) k hc.2 (Nat.le_trans hl (zkR h.gho ⟨s'.H,keepT L s'.T⟩)) q))
  |exit id=>exact q
  |goto l=>exact q
  |ret=>exact q
  |panic ch=>exact q
  |outgrown=>exact q
 |.cond c x y,h,s,k,hc,hn,hx=>by
  simp only [flatC,Bool.and_eq_true] at hc
  have lit : ∀ b,ev G s.T c = V (.bool b) → TEq s.T (litC c b s.T) := by
   intro b hb
   cases c with
   |tmp t=>exact TEq.lit (TEq.refl _) hb
   |const v=>exact TEq.refl _
   |global g=>exact TEq.refl _
   |func f=>exact TEq.refl _
  rcases zdS (show condE (ev G s.T c) _ _ = some r from hx) with ⟨h1,h2⟩|⟨h1,h2⟩
  ·exact zoN h1 (fun _=>AWi.text (lit _ h1) (zim hE hp x h.l ⟨s.H,_⟩ k hc.1 hn h2)) (fun q=>by cases q)
  ·exact zoN h1 (fun q=>by cases q) (fun _=>AWi.text (lit _ h1) (zim hE hp y h.r ⟨s.H,_⟩ k hc.2 hn h2))
 |.block id c,h,s,k,hc,hn,hx=>by
  refine zq0 (AWi.mono (zim hE hp c h.c s _ hc hn hx) fun e s' q=>?_)
  cases e with
  |normal=>exact q
  |exit i =>
   simp only [zgI]
   split
   ·rename_i e
    have hb : Nat.beq i id = true := Nat.beq_eq.mpr e
    dsimp only at q
    rw [hb] at q;exact q
   ·rename_i e
    have hb : Nat.beq i id = false := by
     cases hb : Nat.beq i id with
     |false=>rfl
     |true=>exact absurd (Nat.eq_of_beq_eq_true hb) e
    dsimp only at q
    rw [hb] at q;exact q
  |goto l=>exact q
  |ret=>exact q
  |panic ch=>exact q
  |outgrown=>exact q
 |.loop c,h,s,k,hc,hn,hx=>by cases hc
 |.rangeFunc ..,h,s,k,hc,hn,hx=>by cases hc
 |.scope _,h,s,k,hc,hn,hx=>by cases hc
 |.label _,h,s,k,hc,hn,hx=>by cases hc
 |.goto _,h,s,k,hc,hn,hx=>by cases hc
 |.refuse _,h,s,k,hc,hn,hx=>by cases hc
 |.exit id,h,s,k,hc,hn,hx=>zt8 hx
 |.ret,h,s,k,hc,hn,hx=>ztT hx
end
end Go.Proofs.Ytaaogcnjfkgnoaa

namespace Go.Proofs.Ytaaogcnjfkgnoaa
open Go.RowKit
section
variable {P : Program} {G : Gl} {n d : Nat} {w w' w0 : World} {S S' S0 : SS} {μ μ' μ0 : List Value} {H H' H0 : List AObj}
def NoCells (w : World) (l : Nat) : Prop := (∀ cs t p,w.heap[l]? ≠ some (.cells cs t p)) ∧ ∀ es c,w.heap[l]? ≠ some (.map es c)
theorem NoCells.of {o : Obj} {l : Nat} (h : w.heap[l]? = some o) (ho : ∀ cs t p,o ≠ .cells cs t p) (ho2 : ∀ es c,o ≠ .map es c := by intro _ _ e;cases e) : NoCells w l := ⟨fun cs t p e=>by rw [h] at e;cases e;exact ho cs t p rfl,fun es c e=>by rw [h] at e;cases e;exact ho2 es c rfl⟩
theorem znZ (hr : Rel w S μ H) {b : Nat} (h : ownB μ H b) : (∃ cs t p,w.heap[b]? = some (.cells cs t p)) ∨ ∃ es c,w.heap[b]? = some (.map es c) := by
 obtain ⟨i,x,o,hx,ho,hk,hb⟩ := h
 have ho' := hr.objs i x o hx ho
 rcases hr.kinds i x o hx ho with h|h|h|h|h
 ·exact absurd h hk
 ·obtain ⟨b',cs,e,hc,_⟩ := ho'.1 h
  subst e;simp [blkOf] at hb;subst hb
  exact .inl ⟨_,_,_,hc⟩
 ·obtain ⟨us,A,c,e,_,_,hc,_⟩ := ho'.2.1 h
  subst e
  cases A with
  |none=>simp [blkOf] at hb
  |some a =>
   simp only [blkOf] at hb
   split at hb
   ·cases hb
   ·rename_i h0
    injection hb with hb;subst hb
    rcases (hc h0).2 with ⟨q,_⟩|⟨g,cap,cur,hv,_,hh,_⟩
    ·cases q
    ·injection hv with hv1 _ _
     injection hv1 with hv1
     subst hv1
     exact .inl ⟨_,_,_,hh⟩
 ·obtain ⟨A,c,e,_,_,_,hc⟩ := ho'.2.2.1 h
  subst e
  cases A with
  |none=>simp [blkOf] at hb
  |some a =>
   simp only [blkOf] at hb
   split at hb
   ·cases hb
   ·rename_i h0
    injection hb with hb;subst hb
    obtain ⟨b,cs,q1,q2,_⟩ := hc h0
    injection q1 with q1;subst q1
    exact .inl ⟨_,_,_,q2⟩
 ·obtain ⟨b',e,es,clock,hc,_⟩ := ho'.2.2.2 h
  subst e;simp [blkOf] at hb;subst hb
  exact .inr ⟨_,_,hc⟩
theorem NoCells.own {l : Nat} (hl : NoCells w l) (hr : Rel w S μ H) : ¬ ownB μ H l := fun q=>by
 rcases znZ hr q with ⟨cs,t,p,e⟩|⟨es,c,e⟩
 ·exact hl.1 cs t p e
 ·exact hl.2 es c e
theorem NoCells.still {l : Nat} (hl : NoCells w l) (hr : Rel w S μ H) {j : Nat} {x : AV} (h : S l j x) : False := by
 obtain ⟨u,hu,_⟩ := hr.still l j x h
 unfold World.cell? at hu
 split at hu
 ·rename_i cs t p e;exact hl.1 _ _ _ e
 ·cases hu
theorem Rel.touch (hr : Rel w S μ H) (l : Nat) (hl : NoCells w l) (hb : ∀ b,b ≠ l → b < w.heap.size → w'.heap[b]? = w.heap[b]?) : Rel w' S μ H := by
 refine ⟨hr.len,fun b j x hs=>?_,hr.kinds,fun i x o hx ho=>?_,hr.sep,hr.apart⟩
 ·obtain ⟨u,hu,h1,h2⟩ := hr.still b j x hs
  refine ⟨u,?_,h1,h2⟩
  have hne : b ≠ l := fun e=>by subst e;exact hl.still hr hs
  have hlt : b < w.heap.size := by
   apply Nat.lt_of_not_le
   intro q
   unfold World.cell? at hu
   rw [Array.getElem?_eq_none q] at hu
   cases hu
  unfold World.cell? at hu ⊢
  rw [hb b hne hlt];exact hu
 ·by_cases hk : o.k = 0
  ·exact objRep.zero hk
  ·exact (hr.objs i x o hx ho).move (Ext.refl _ _) fun b hbk=>hb b (fun e=>by subst e;exact hl.own hr ⟨i,x,o,hx,ho,hk,hbk⟩) (hr.own_lt hx ho hk hbk)
theorem Step.touch (h : Step n w0 S0 μ0 H0 w S μ H) {l : Nat} (hl : w0.heap.size ≤ l) (h1 : w'.os = w.os) (h2 : w'.tape = w.tape) (h3 : w'.output = w.output) (h4 : w.heap.size ≤ w'.heap.size) (hb : ∀ b,b ≠ l → b < w.heap.size → w'.heap[b]? = w.heap[b]?) : Step n w0 S0 μ0 H0 w' S μ H :=
 ⟨h1.trans h.os,h2.trans h.tape,h3.trans h.output,Nat.le_trans h.size h4,fun b hb1 hn=>(hb b (by omega) (Nat.lt_of_lt_of_le hb1 h.size)).trans (h.block b hb1 hn),h.still,h.objs,h.old,h.mine⟩
theorem Step.keeps (h : Step n w S μ H w' S' μ' H') (hr : Rel w S μ H) {b : Nat} {o : Obj} (hb : w.heap[b]? = some o) (ho : ∀ cs t p,o ≠ .cells cs t p) (ho2 : ∀ es c,o ≠ .map es c := by intro _ _ e;cases e) : w'.heap[b]? = some o :=
 (h.block b (Array.getElem?_eq_some_iff.1 hb).1 ((NoCells.of hb ho ho2).own hr)).trans hb
theorem z8Y (w : World) (l : Nat) (o : Obj) : ∀ b,b ≠ l → b < w.heap.size → (w.putObj l o).heap[b]? = w.heap[b]? := fun b hb _=>World.putObj_heap_other hb
theorem z7M (w : World) (l : Nat) (o : Obj) : (w.putObj l o).heap.size = w.heap.size := by simp [World.putObj]
theorem zbv (w : World) (o : Obj) : ∀ b,b ≠ w.heap.size → b < w.heap.size → (w.alloc o).heap[b]? = w.heap[b]? := fun b _ hb=>Below.heap_alloc _ _ _ hb
theorem zoB (w : World) : NoCells w w.heap.size := ⟨fun cs t p e=>(by rw [Array.getElem?_eq_none (Nat.le_refl _)] at e;cases e),fun es c e=>(by rw [Array.getElem?_eq_none (Nat.le_refl _)] at e;cases e)⟩
theorem Step.swap {l : Nat} {A o : Obj} (hr : Rel w S μ H) (h : Step n (w.putObj l A) S μ H w' S' μ' H') (hl : w.heap[l]? = some o) (ho : ∀ cs t p,o ≠ .cells cs t p) (ho2 : ∀ es c,o ≠ .map es c := by intro _ _ e;cases e) : Step n w S μ H (w'.putObj l o) S' μ' H' := by
 have hs := h.size
 rw [z7M] at hs
 have hll := (Array.getElem?_eq_some_iff.1 hl).1
 refine ⟨h.os,h.tape,h.output,by rw [z7M];exact hs,fun b hb hn=>?_,h.still,h.objs,fun b j x q hb=>h.old b j x q (by rw [z7M];exact hb),fun b q hb=>h.mine b q (by rw [z7M];exact hb)⟩
 rcases Nat.decEq b l with e|e
 ·rw [World.putObj_heap_other e,h.block b (by rw [z7M];exact hb) hn,World.putObj_heap_other e]
 ·subst e
  rw [World.putObj_heap_same (Nat.lt_of_lt_of_le hll hs),hl]
def zqw : Exit → Option Code
 |.ret=>some .ret
 |.exit id=>some (.exit id)
 |_=>none
def setPs : List Nat → List AV → Tm → Tm
 |p :: ps,x :: xs,T=>setPs ps xs ((p,x) :: T)
 |_,_,T=>T
theorem zpR {xs : List AV} {T : Tm} : setPs [] xs T = T := by cases xs <;> rfl
theorem znS {N : FS} {df : List Deferred} : ∀ {ps : List Nat} {xs : List AV} {vs : List Value} {T : Tm} {tm : Array Value},Fr S μ N T ⟨tm,df⟩ → (∀ p ∈ ps,p < N.n) → vs.length = xs.length → (∀ (j : Nat) (x : AV) (v : Value),xs[j]? = some x → vs[j]? = some v → rep S μ x v) →
  Fr S μ N (setPs ps xs T) ⟨(ps.zip vs).foldl (fun tmps p=>tmps.setIfInBounds p.1 p.2) tm,df⟩
 |[],xs,vs,T,tm,h,_,_,_=>by rw [zpR];exact h
 |p :: ps,[],vs,T,tm,h,_,hl,_=>by
  have : vs = [] := List.eq_nil_of_length_eq_zero hl
  subst this
  exact h
 |p :: ps,x :: xs,[],T,tm,h,_,hl,_=>by cases hl
 |p :: ps,x :: xs,v :: vs,T,tm,h,hp,hl,hv=>by
  have h1 := h.put (some p) (fun i e=>by cases e;exact hp p (List.mem_cons_self ..)) (hv 0 x v rfl rfl)
  exact znS (ps := ps) h1 (fun q hq=>hp q (List.mem_cons_of_mem _ hq)) (by simpa using hl) fun j y u hy hu=>hv (j + 1) y u hy hu
def YPost (l : Nat) (r : Loop) (w : World) (S : SS) (μ : List Value) (H : List AObj) (Q : Exit → List AObj → Prop) (e : Ending) (w' : World) : Prop :=
 ∃ w2 S' μ' H' x,Q x H' ∧ Rel w2 S' μ' H' ∧ Step H.length w S μ H w2 S' μ' H' ∧ w2.heap[l]? = some (.loop r) ∧ ((x = .normal ∧ e = .returned (.bool true) ∧ w' = w2) ∨ (∃ c,zqw x = some c ∧ e = .returned (.bool false) ∧ w' = w2.putObj l (.loop { r with state := .done,pending := some c })))
theorem zsH {l fn D N : Nat} {tm : Array Value} {ps : List Nat} {assign body : Code} {T : Tm} {xs : List AV} {vs : List Value} {Q : Exit → ASt → Prop} {Q' : Exit → List AObj → Prop}
  (hr : Rel w S μ H) (hf : Fr S μ (F0 N) T ⟨tm,[]⟩) (hg : GOk G S) (hp : ∀ p ∈ ps,p < N) (hl : w.heap[l]? = some (.loop ⟨.ready,none,fn,tm,ps.toArray,assign,body,D⟩)) (h1 : vs.length = xs.length) (h2 : xs.length = ps.length)
  (hv : ∀ (j : Nat) (x : AV) (v : Value),xs[j]? = some x → vs[j]? = some v → rep S μ x v)
  (ha : AWi (some l) d P G (F0 N) H.length assign (thenA (AWi (some l) d P G (F0 N) H.length body Q) fun _ _=>False) ⟨H,setPs ps xs T⟩)
  (hQ : ∀ x s,Q x s → (x = .normal ∨ ∃ c,zqw x = some c) ∧ ∃ H',HLe s.H H' ∧ H'.all (ltO H'.length) = true ∧ H.length ≤ H'.length ∧ Q' x H') :
  YieldAt Fence.wide d P l vs.toArray w (YPost l ⟨.ready,none,fn,tm,ps.toArray,assign,body,D⟩ w S μ H Q') := by
 have hnl : ∀ r cs t p,(Obj.loop r) ≠ .cells cs t p := fun _ _ _ _ e=>by cases e
 refine ⟨fn,(ps.zip vs).foldl (fun tmps p=>tmps.setIfInBounds p.1 p.2) tm,assign,body,?_,roundIn_of_wpIn trivial ?_⟩
 ·have := run_yield (P := P) (args := vs.toArray) hl (by simp [h1,h2])
  rw [this]
  simp [← Array.foldl_toList,Array.toList_zip]
 ·have hfr := znS hf hp h1 hv
  refine wpIn_mono (ha w S μ _ hr hfr hg) ?_
  rintro e a1 w1 ⟨s1,S1,μ1,hq1,hr1,hf1,hs1⟩
  cases e with
  |normal =>
   have hl1 := hs1.keeps hr hl (hnl _)
   have hll1 := (Array.getElem?_eq_some_iff.1 hl1).1
   refine ⟨_,run_beginRound hl1 rfl,?_⟩
   have hr1' : Rel (w1.putObj l (.loop ⟨.busy,none,fn,tm,ps.toArray,assign,body,D⟩)) S1 μ1 s1.H := hr1.touch l (NoCells.of hl1 (hnl _)) (z8Y _ _ _)
   have hq1 : AWi (some l) d P G (F0 N) H.length body Q s1 := hq1
   refine wpIn_mono (hq1 _ S1 μ1 a1 hr1' hf1 (hg.ext hs1.still)) ?_
   rintro e2 a2 w3 ⟨s3,S3,μ3,hq3,hr3,hf3,hs3⟩
   obtain ⟨hx,H',hle,hlt,hn,hQ'⟩ := hQ e2 s3 hq3
   have hlb : (w1.putObj l (.loop ⟨.busy,none,fn,tm,ps.toArray,assign,body,D⟩)).heap[l]? = some (.loop ⟨.busy,none,fn,tm,ps.toArray,assign,body,D⟩) := World.putObj_heap_same hll1
   have hl3 := hs3.keeps hr1' hlb (hnl _)
   have hll3 := (Array.getElem?_eq_some_iff.1 hl3).1
   have hst : Step H.length w S μ H (w3.putObj l (.loop ⟨.ready,none,fn,tm,ps.toArray,assign,body,D⟩)) S3 (μ3.take H'.length) H' :=
    (hs1.trans (Step.swap hr1 hs3 hl1 (hnl _))).trans (Le.step (s := s3) (s' := ⟨H',[]⟩) ⟨hle,hlt,trivial⟩ hn _ _ _)
   have hrl : Rel (w3.putObj l (.loop ⟨.ready,none,fn,tm,ps.toArray,assign,body,D⟩)) S3 (μ3.take H'.length) H' :=
    (hr3.touch l (NoCells.of hl3 (hnl _)) (z8Y _ _ _)).le hle hlt
   have hpp : ∀ o o' : Obj,(w3.putObj l o).putObj l o' = w3.putObj l o' := fun o o'=>by
    unfold World.putObj
    simp [Array.setIfInBounds_setIfInBounds]
   cases e2 with
   |normal =>
    refine ⟨_,_,run_endRound none hl3,_,S3,_,H', .normal,hQ',hrl,hst,World.putObj_heap_same hll3, .inl ⟨rfl,rfl,rfl⟩⟩
   |ret =>
    refine ⟨_,_,run_endRound (some .ret) hl3,_,S3,_,H', .ret,hQ',hrl,hst,World.putObj_heap_same hll3, .inr ⟨_,rfl,rfl,?_⟩⟩
    rw [hpp];rfl
   |exit id =>
    refine ⟨_,_,run_endRound (some (.exit id)) hl3,_,S3,_,H', .exit id,hQ',hrl,hst,World.putObj_heap_same hll3, .inr ⟨_,rfl,rfl,?_⟩⟩
    rw [hpp];rfl
   |goto t=>rcases hx with q|⟨c,q⟩ <;> cases q
   |panic ch=>rcases hx with q|⟨c,q⟩ <;> cases q
   |outgrown=>rcases hx with q|⟨c,q⟩ <;> cases q
  |exit id=>exact hq1.elim
  |goto l=>exact hq1.elim
  |ret=>exact hq1.elim
  |panic ch=>exact hq1.elim
  |outgrown=>exact hq1.elim
end
end Go.Proofs.Ytaaogcnjfkgnoaa

