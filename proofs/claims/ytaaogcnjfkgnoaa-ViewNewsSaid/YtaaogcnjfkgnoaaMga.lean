/-
  Texts laid together, part 1 of 8: laws of a walk over data, contracts of functions, each whole by itself.
-/
import Derived.WalkKit
import Derived.Deep.LoopGhost
import Derived.Maps.Own
import Derived.Maps.OwnSet
import Derived.Maps.Views
import Derived.Test.YtaaogcnjfkgnoaaProg
import Derived.Laws.Cover3
import Derived.Laws.Pointers
import Derived.Laws.IdiomStrings
import Derived.Laws.BytesArg
import Derived.Deep.Upon
import Derived.Carry
import Derived.Deep.AppendLies
import Derived.Deep.Draws
import Derived.Lib.AppendStr
import Derived.RegionTactic
set_option maxRecDepth 100000
noncomputable section
set_option linter.unusedVariables false
set_option linter.unusedSimpArgs false
namespace Go.Proofs.Ytaaogcnjfkgnoaa
open Go.RowKit
abbrev AV := DataW (Value ⊕ ((Nat × Nat) ⊕ (Nat × Nat)))
abbrev V (u : Value) : AV := .held (.inl u)
abbrev OP (i o : Nat) : AV := .held (.inr (.inl (i,o)))
abbrev OW (i n : Nat) : AV := .held (.inr (.inr (i,n)))
abbrev SL (es : List AV) : AV := .slice es []
abbrev CL (fn : Fn) (k : Nat) (caps : List AV) : AV := .slice caps [.held (.inl (.func fn #[] #[])), .held (.inr (.inl (k,0)))]
abbrev TU (ds : List AV) : AV := .iface "" (.agg ds)
abbrev PR (i n : Nat) : AV := .slice [] [.held (.inr (.inl (i,n)))]
abbrev ZV : AV := .slice [] [.held (.inl (.bool true))]
abbrev MR (A : Option Addr) (n c : Nat) : Value := .tuple #[.slice A n c]
abbrev MP (i : Nat) : AV := .slice [] [.held (.inr (.inr (i,0)))]
def zzk : Value → Option Nat
 |.pointer (some a)=>some a.block
 |.tuple ⟨[.slice (some a) _ _]⟩=>some a.block
 |_=>none
def cellsOf : AV → List AV|.agg cs=>cs|d=>[d]
abbrev SS := Nat → Nat → AV → Prop
def inS (S : SS) (b o z : Nat) (es : List AV) : Prop :=
 ∀ (i : Nat) (d : AV),es[i]? = some d → (cellsOf d).length = z ∧ ∀ (j : Nat) (y : AV),(cellsOf d)[j]? = some y → S b (o + i * z + j) y
def rep0 (S : SS) (μ : List Value) : AV → Value → Prop
 |.nil,_=>True
 |.held (.inl u),v=>v = u ∧ u.oneCell' = true
 |.held (.inr (.inl (i,o))),v=>∃ b x,μ[i]? = some x ∧ zzk x = some b ∧ v = .pointer (some ⟨b,o,none⟩)
 |.ptr d,v=>∃ b o,v = .pointer (some ⟨b,o,none⟩) ∧ ∀ (j : Nat) (y : AV),(cellsOf d)[j]? = some y → S b (o + j) y
 |_,_=>False
def rep1 (S : SS) (μ : List Value) : AV → Value → Prop
 |.nil,_=>True
 |.held (.inl u),v=>v = u ∧ u.oneCell' = true
 |.held (.inr (.inl (i,o))),v=>∃ b x,μ[i]? = some x ∧ zzk x = some b ∧ v = .pointer (some ⟨b,o,none⟩)
 |.held (.inr (.inr (i,n))),v=>∃ A m c A' c',μ[i]? = some (.slice A m c) ∧ n ≤ m ∧ v = .slice A' n c' ∧ (n = m → A' = A ∧ c' = c)
 |.slice es [],v=>∃ A c,v = .slice A es.length c ∧ es.length ≤ c ∧ c ≤ maxLen ∧ (es ≠ [] → ∃ b o z,A = some ⟨b,o,none⟩ ∧ inS S b o z es)
 |.slice _ [.held (.inr (.inl (i,n)))],v=>∃ A c,μ[i]? = some (MR A n c) ∧ v = .slice A n c ∧ n ≤ c ∧ c ≤ maxLen
 |.slice _ [.held (.inl (.bool _))],v=>∃ A,v = .slice A 0 0
 |.slice _ [.held (.inr (.inr (i,_)))],v=>∃ b,μ[i]? = some (.map (some b)) ∧ v = .map (some b)
 |.ptr d,v=>∃ b o,v = .pointer (some ⟨b,o,none⟩) ∧ ∀ (j : Nat) (y : AV),(cellsOf d)[j]? = some y → S b (o + j) y
 |.slice caps [.held (.inl (.func fn _ _)), .held (.inr (.inl (k,_)))],v=>∃ us : List Value,v = .func fn (us.take k).toArray (us.drop k).toArray ∧ us.length = caps.length ∧ ∀ (j : Nat) (d : AV) (u : Value),caps[j]? = some d → us[j]? = some u → rep0 S μ d u
 |_,_=>False
def reps (S : SS) (μ : List Value) (cs : List AV) (us : List Value) : Prop :=
 us.length = cs.length ∧ ∀ (j : Nat) (d : AV) (u : Value),cs[j]? = some d → us[j]? = some u → u.oneCell' = true ∧ rep1 S μ d u
def repA (S : SS) (μ : List Value) : AV → Value → Prop
 |.agg cs,v=>∃ us : List Value,v = .agg us.toArray ∧ reps S μ cs us
 |d,v=>rep1 S μ d v
def rep (S : SS) (μ : List Value) : AV → Value → Prop
 |.iface _ (.agg ds),v=>∃ us : List Value,v = .tuple us.toArray ∧ us.length = ds.length ∧ ∀ (j : Nat) (d : AV) (u : Value),ds[j]? = some d → us[j]? = some u → repA S μ d u
 |d,v=>repA S μ d v
def zN0 (es : List AV) : List AV := es.flatMap cellsOf
def allC (z : Nat) (es : List AV) : Prop := ∀ d ∈ es,(cellsOf d).length = z
theorem z3Y {z : Nat} : ∀ {es : List AV},allC z es → (zN0 es).length = es.length * z
 |[],_=>by simp [zN0]
 |d :: es,h=>by
  have h1 := z3Y (es := es) (fun x hx=>h x (List.mem_cons_of_mem _ hx))
  have h2 := h d (List.mem_cons_self ..)
  simp only [zN0,List.flatMap_cons,List.length_append,List.length_cons] at h1 ⊢
  rw [h1,h2,Nat.succ_mul];omega
structure AObj where
 k : Nat
 e : TypeId
 z : Nat
 c : List AV
def z60 : Value → Option Nat
 |.pointer (some a)=>some a.block
 |.slice (some a) _ c=>if c = 0 then none else some a.block
 |.tuple ⟨[.slice (some a) _ c]⟩=>if c = 0 then none else some a.block
 |.map (some b)=>some b
 |_=>none
def zNo : AV → List UInt8
 |.iface _ (.agg [.held (.inl (.string s)),_])=>s.data.toList
 |_=>[]
def zM5 : AV → DataW Unit
 |.iface _ (.agg [_, .held (.inl (.int q a))])=>.lit (.int q a)
 |_=>.lit (.bool false)
def zNc (c : List AV) : DataW Unit := c.foldl (fun D e=>D.put (.string (zNo e)) (zM5 e)) (.map [])
def objRep (w : World) (S : SS) (μ : List Value) (x : Value) (o : AObj) : Prop :=
 (o.k = 1 → ∃ b cs,x = .pointer (some ⟨b,0,none⟩) ∧ w.heap[b]? = some (.cells cs o.e (0,0)) ∧ reps S μ o.c cs.toList) ∧
 (o.k = 2 → ∃ us A c,x = .slice A o.c.length c ∧ o.c.length ≤ c ∧ c ≤ maxLen ∧ (c ≠ 0 → w.ownsRow 0 o.e o.z x o.c.length us) ∧ (o.c ≠ [] → ∃ b,A = some ⟨b,0,none⟩ ∧ inS S b 0 o.z o.c)) ∧
 (o.k = 4 → ∃ A c,x = MR A o.c.length c ∧ o.c.length ≤ c ∧ c ≤ maxLen ∧ allC o.z o.c ∧ (c ≠ 0 → ∃ b cs,A = some ⟨b,0,none⟩ ∧ w.heap[b]? = some (.cells cs o.e (0,0)) ∧ cs.size = c * o.z ∧ reps S μ (zN0 o.c) (cs.toList.take (o.c.length * o.z)))) ∧
 (o.k = 5 → ∃ b,x = .map (some b) ∧ w.ownsMap Try.prog o.e (plainElem Try.prog o.z) b o.c.length (zNc o.c))
theorem objRep.zero {w : World} {S : SS} {μ : List Value} {x : Value} {o : AObj} (h : o.k = 0) : objRep w S μ x o := ⟨fun e=>by omega,fun e=>by omega,fun e=>by omega,fun e=>by omega⟩
def zLD (μ : List Value) (H : List AObj) (b : Nat) : Prop := ∃ (i : Nat) (x : Value) (o : AObj),μ[i]? = some x ∧ H[i]? = some o ∧ o.k ≠ 0 ∧ z60 x = some b
structure Rel (w : World) (S : SS) (μ : List Value) (H : List AObj) : Prop where
 len : μ.length = H.length
 still : ∀ b j d,S b j d → ∃ u,w.cell? ⟨b,j,none⟩ = some u ∧ u.oneCell' = true ∧ rep1 S [] d u
 kinds : ∀ (i : Nat) (x : Value) (o : AObj),μ[i]? = some x → H[i]? = some o → o.k = 0 ∨ o.k = 1 ∨ o.k = 2 ∨ o.k = 4 ∨ o.k = 5
 objs : ∀ (i : Nat) (x : Value) (o : AObj),μ[i]? = some x → H[i]? = some o → objRep w S μ x o
 sep : ∀ (i i' : Nat) (x x' : Value) (o o' : AObj) (b : Nat),μ[i]? = some x → H[i]? = some o → o.k ≠ 0 → z60 x = some b → μ[i']? = some x' → H[i']? = some o' → o'.k ≠ 0 → z60 x' = some b → i = i'
 apart : ∀ (i : Nat) (x : Value) (o : AObj) (b : Nat),μ[i]? = some x → H[i]? = some o → o.k ≠ 0 → z60 x = some b → ∀ j d,S b j d → o.k = 2 ∧ j < o.c.length * o.z
structure Ext (S : SS) (μ : List Value) (S' : SS) (μ' : List Value) : Prop where
 still : ∀ b j d,S b j d → S' b j d
 objs : ∀ (i : Nat) (x : Value),μ[i]? = some x → ∃ x',μ'[i]? = some x' ∧ (x' = x ∨ (∃ (A : Option Addr) (m c : Nat) (A' : Option Addr) (m' c' : Nat),x = Value.slice A m c ∧ x' = Value.slice A' m' c' ∧ m < m') ∨ x = Value.bool false)
theorem Ext.refl (S : SS) (μ : List Value) : Ext S μ S μ := ⟨fun _ _ _ h=>h,fun _ x h=>⟨x,h, .inl rfl⟩⟩
theorem Ext.trans {S S' S'' : SS} {μ μ' μ'' : List Value} (h : Ext S μ S' μ') (k : Ext S' μ' S'' μ'') : Ext S μ S'' μ'' := by
 refine ⟨fun b j d q=>k.still _ _ _ (h.still _ _ _ q),fun i x hx=>?_⟩
 obtain ⟨x',hx',h1⟩ := h.objs i x hx
 obtain ⟨x'',hx'',h2⟩ := k.objs i x' hx'
 refine ⟨x'',hx'',?_⟩
 rcases h1 with rfl|⟨A,m,c,A',m',c',rfl,rfl,hm⟩|rfl
 ·exact h2
 ·rcases h2 with rfl|⟨A2,m2,c2,A3,m3,c3,e1,rfl,hm2⟩|e1
  ·exact .inr (.inl ⟨A,m,c,A',m',c',rfl,rfl,hm⟩)
  ·injection e1 with e1 e2 e3
   exact .inr (.inl ⟨A,m,c,A3,m3,c3,rfl,rfl,by omega⟩)
  ·cases e1
 ·exact .inr (.inr rfl)
theorem inS.ext {S S' : SS} (h : ∀ b j d,S b j d → S' b j d) {b o z : Nat} {es : List AV} (k : inS S b o z es) : inS S' b o z es :=
 fun i d hd=>⟨(k i d hd).1,fun j y hy=>h _ _ _ ((k i d hd).2 j y hy)⟩
theorem rep0.ext {S S' : SS} {μ μ' : List Value} (h : Ext S μ S' μ') {d : AV} {v : Value} (k : rep0 S μ d v) : rep0 S' μ' d v := by
 match d,k with
 |.nil,_=>trivial
 |.held (.inl u),k=>exact k
 |.held (.inr (.inl (i,o))),k =>
  obtain ⟨b,x,hb,hp,rfl⟩ := k
  obtain ⟨x',hx',h1⟩ := h.objs _ _ hb
  rcases h1 with rfl|⟨A,m,c,A',m',c',e,_⟩|e
  ·exact ⟨b,_,hx',hp,rfl⟩
  ·subst e;cases hp
  ·subst e;cases hp
 |.ptr d,k =>
  obtain ⟨b,o,e,hs⟩ := k
  exact ⟨b,o,e,fun j y hy=>h.still _ _ _ (hs j y hy)⟩
theorem rep1.ext {S S' : SS} {μ μ' : List Value} (h : Ext S μ S' μ') {d : AV} {v : Value} (k : rep1 S μ d v) : rep1 S' μ' d v := by
 match d,k with
 |.nil,_=>trivial
 |.held (.inl u),k=>exact k
 |.held (.inr (.inl (i,o))),k =>
  obtain ⟨b,x,hb,hp,rfl⟩ := k
  obtain ⟨x',hx',h1⟩ := h.objs _ _ hb
  rcases h1 with rfl|⟨A,m,c,A',m',c',e,_⟩|e
  ·exact ⟨b,_,hx',hp,rfl⟩
  ·subst e;cases hp
  ·subst e;cases hp
 |.held (.inr (.inr (i,n))),k =>
  obtain ⟨A,m,c,A0,c0,hb,hn,hv,he⟩ := k
  obtain ⟨x',hx',h1⟩ := h.objs _ _ hb
  rcases h1 with rfl|⟨A1,m1,c1,A',m',c',e,rfl,hm⟩|e
  ·exact ⟨A,m,c,A0,c0,hx',hn,hv,he⟩
  ·injection e with e1 e2 e3
   exact ⟨A',m',c',A0,c0,hx',by omega,hv,fun q=>by omega⟩
  ·cases e
 |.slice caps [.held (.inl (.func fn _ _)), .held (.inr (.inl (q,_)))],k =>
  obtain ⟨us,e,hl,hc⟩ := k
  exact ⟨us,e,hl,fun j d u hd hu=>(hc j d u hd hu).ext h⟩
 |.slice es [],k =>
  obtain ⟨A,c,e,h1,h2,h3⟩ := k
  refine ⟨A,c,e,h1,h2,fun hne=>?_⟩
  obtain ⟨b,o,z,e2,hs⟩ := h3 hne
  exact ⟨b,o,z,e2,hs.ext h.still⟩
 |.slice _ [.held (.inr (.inl (i,n)))],k =>
  obtain ⟨A,c,hb,r⟩ := k
  obtain ⟨x',hx',h1⟩ := h.objs _ _ hb
  rcases h1 with rfl|⟨A,m,c,A',m',c',e,_⟩|e
  ·exact ⟨A,c,hx',r⟩
  ·cases e
  ·cases e
 |.slice _ [.held (.inl (.bool _))],k=>exact k
 |.slice _ [.held (.inr (.inr (i,n)))],k =>
  obtain ⟨b,hb,r⟩ := k
  obtain ⟨x',hx',h1⟩ := h.objs _ _ hb
  rcases h1 with rfl|⟨A,m,c,A',m',c',e,_⟩|e
  ·exact ⟨b,hx',r⟩
  ·cases e
  ·cases e
 |.ptr d,k =>
  obtain ⟨b,o,e,hs⟩ := k
  exact ⟨b,o,e,fun j y hy=>h.still _ _ _ (hs j y hy)⟩
theorem reps.ext {S S' : SS} {μ μ' : List Value} (h : Ext S μ S' μ') {cs : List AV} {us : List Value} (k : reps S μ cs us) : reps S' μ' cs us :=
 ⟨k.1,fun j d u hd hu=>⟨(k.2 j d u hd hu).1,(k.2 j d u hd hu).2.ext h⟩⟩
theorem repA.ext {S S' : SS} {μ μ' : List Value} (h : Ext S μ S' μ') {d : AV} {v : Value} (k : repA S μ d v) : repA S' μ' d v := by
 unfold repA at k ⊢
 split
 ·simp only at k
  obtain ⟨us,e,hr⟩ := k
  exact ⟨us,e,hr.ext h⟩
 ·rename_i hne
  split at k
  ·exact absurd rfl (hne _)
  ·exact rep1.ext h k
theorem rep.ext {S S' : SS} {μ μ' : List Value} (h : Ext S μ S' μ') {d : AV} {v : Value} (k : rep S μ d v) : rep S' μ' d v := by
 unfold rep at k ⊢
 split
 ·simp only at k
  obtain ⟨us,e,hl,hr⟩ := k
  exact ⟨us,e,hl,fun j d u hd hu=>(hr j d u hd hu).ext h⟩
 ·rename_i hne
  split at k
  ·exact absurd rfl (hne _ _)
  ·exact repA.ext h k
theorem rep1.free {S : SS} {μ : List Value} {d : AV} {v : Value} (k : rep1 S [] d v) : rep1 S μ d v := by
 match d,k with
 |.nil,_=>trivial
 |.held (.inl u),k=>exact k
 |.held (.inr (.inl (i,o))),k=>obtain ⟨b,x,hb,_⟩ := k;simp at hb
 |.held (.inr (.inr (i,n))),k=>obtain ⟨A,m,c,A0,c0,hb,_⟩ := k;simp at hb
 |.slice _ [.held (.inr (.inl (i,n)))],k=>obtain ⟨A,c,hb,_⟩ := k;simp at hb
 |.slice _ [.held (.inl (.bool _))],k=>exact k
 |.slice _ [.held (.inr (.inr (i,n)))],k=>obtain ⟨b,hb,_⟩ := k;simp at hb
 |.slice caps [.held (.inl (.func fn _ _)), .held (.inr (.inl (q,_)))],k =>
  obtain ⟨us,e,hl,hc⟩ := k
  refine ⟨us,e,hl,fun j d u hd hu=>?_⟩
  have := hc j d u hd hu
  match d,this with
  |.nil,_=>trivial
  |.held (.inl u),k=>exact k
  |.held (.inr (.inl (i,o))),k=>obtain ⟨b,x,hb,_⟩ := k;simp at hb
  |.ptr d,k=>exact k
 |.slice es [],k=>exact k
 |.ptr d,k=>exact k
structure Step (n : Nat) (w : World) (S : SS) (μ : List Value) (H : List AObj) (w' : World) (S' : SS) (μ' : List Value) (H' : List AObj) : Prop where
 os : w'.os = w.os
 tape : w'.tape = w.tape
 output : w'.output = w.output
 size : w.heap.size ≤ w'.heap.size
 block : ∀ b,b < w.heap.size → ¬ zLD μ H b → w'.heap[b]? = w.heap[b]?
 still : ∀ b j d,S b j d → S' b j d
 objs : ∀ (i : Nat) (x : Value),i < n → μ[i]? = some x → ∃ x',μ'[i]? = some x' ∧ (x' = x ∨ (∃ (A : Option Addr) (m c : Nat) (A' : Option Addr) (m' c' : Nat),x = Value.slice A m c ∧ x' = Value.slice A' m' c' ∧ m < m') ∨ x = Value.bool false)
 old : ∀ b j d,S' b j d → b < w.heap.size → S b j d ∨ zLD μ H b
 mine : ∀ b,zLD μ' H' b → b < w.heap.size → zLD μ H b
theorem Step.refl (n : Nat) (w : World) (S : SS) (μ : List Value) (H : List AObj) : Step n w S μ H w S μ H :=
 ⟨rfl,rfl,rfl,Nat.le_refl _,fun _ _ _=>rfl,fun _ _ _ h=>h,fun _ x _ h=>⟨x,h, .inl rfl⟩,fun _ _ _ h _=>.inl h,fun _ h _=>h⟩
theorem Step.trans {n : Nat} {w w' w'' : World} {S S' S'' : SS} {μ μ' μ'' : List Value} {H H' H'' : List AObj} (h : Step n w S μ H w' S' μ' H') (k : Step n w' S' μ' H' w'' S'' μ'' H'') : Step n w S μ H w'' S'' μ'' H'' := by
 refine ⟨k.os.trans h.os,k.tape.trans h.tape,k.output.trans h.output,Nat.le_trans h.size k.size,fun b hb hn=>?_,fun b j d q=>k.still _ _ _ (h.still _ _ _ q),fun i x hi hx=>?_,fun b j d hs hb=>?_,fun b ho hb=>?_⟩
 ·rw [k.block b (Nat.lt_of_lt_of_le hb h.size) (fun q=>hn (h.mine b q hb)),h.block b hb hn]
 ·obtain ⟨x',hx',h1⟩ := h.objs i x hi hx
  obtain ⟨x'',hx'',h2⟩ := k.objs i x' hi hx'
  refine ⟨x'',hx'',?_⟩
  rcases h1 with rfl|⟨A,m,c,A',m',c',rfl,rfl,hm⟩|rfl
  ·exact h2
  ·rcases h2 with rfl|⟨A2,m2,c2,A3,m3,c3,e1,rfl,hm2⟩|e1
   ·exact .inr (.inl ⟨A,m,c,A',m',c',rfl,rfl,hm⟩)
   ·injection e1 with e1 e2 e3
    exact .inr (.inl ⟨A,m,c,A3,m3,c3,rfl,rfl,by omega⟩)
   ·cases e1
  ·exact .inr (.inr rfl)
 ·rcases k.old b j d hs (Nat.lt_of_lt_of_le hb h.size) with q|q
  ·exact h.old b j d q hb
  ·exact .inr (h.mine b q hb)
 ·exact h.mine b (k.mine b ho (Nat.lt_of_lt_of_le hb h.size)) hb
theorem Step.below {n : Nat} {w w' : World} {S S' : SS} {μ' : List Value} {H' : List AObj} (h : Step n w S [] [] w' S' μ' H') : Below w.heap.size w w' :=
 ⟨h.os,h.tape,h.output,h.size,fun b hb=>h.block b hb (by rintro ⟨i,x,o,hi,_⟩;simp at hi)⟩
abbrev Tm := List (Nat × AV)
def get : Tm → Nat → AV
 |[],_=>.nil
 |(j,d) :: r,i=>if j = i then d else get r i
def zLw (T : Tm) (i : Nat) (v : AV) : Tm := (i,v) :: T
theorem zfg (T : Tm) (i : Nat) (v : AV) : get (zLw T i v) i = v := by simp [zLw,get]
theorem z9r (T : Tm) (i k : Nat) (v : AV) (h : k ≠ i) : get (zLw T i v) k = get T k := by simp [zLw,get,Ne.symm h]
structure ASt where
 H : List AObj
 T : Tm
def ASt.set (s : ASt) (H : List AObj) (dst : Option Tmp) (v : AV) : ASt := ⟨H,match dst with|some d=>zLw s.T d v|none=>s.T⟩
structure FS where
 n : Nat
 d : List Deferred
instance : Coe FS Nat := ⟨FS.n⟩
abbrev F0 (n : Nat) : FS := ⟨n,[]⟩
structure Fr (S : SS) (μ : List Value) (N : FS) (T : Tm) (a : Act) : Prop where
 size : a.tmps.size = N.n
 nodef : a.defers = N.d
 slot : ∀ i,rep S μ (get T i) (a.tmps.getD i undef)
theorem Fr.ext {S S' : SS} {μ μ' : List Value} {N : FS} {T : Tm} {a : Act} (h : Fr S μ N T a) (k : Ext S μ S' μ') : Fr S' μ' N T a := ⟨h.size,h.nodef,fun i=>(h.slot i).ext k⟩
theorem zp6 (S : SS) (μ : List Value) (v : Value) : rep S μ .nil v := trivial
theorem Fr.put {S : SS} {μ : List Value} {N : FS} {T : Tm} {a : Act} (h : Fr S μ N T a) (d : Option Tmp) (hd : ∀ i,d = some i → i < N) {v : AV} {u : Value} (hr : rep S μ v u) :
  Fr S μ N (ASt.set ⟨[],T⟩ [] d v).T (a.put d u) := by
 cases d with
 |none=>exact h
 |some i =>
  have hi := hd i rfl
  refine ⟨by simp [Act.put,h.size],h.nodef,fun k=>?_⟩
  simp only [ASt.set,Act.put]
  by_cases e : k = i
  ·subst e
   rw [zfg]
   have : (a.tmps.setIfInBounds k u).getD k undef = u := by
    simp [Array.getD,h.size,hi]
   rw [this];exact hr
  ·rw [z9r _ _ _ _ e]
   have : (a.tmps.setIfInBounds i u).getD k undef = a.tmps.getD k undef := by
    simp only [Array.getD_eq_getD_getElem?,Array.getElem?_setIfInBounds]
    rw [if_neg (Ne.symm e)]
   rw [this];exact h.slot k
abbrev Gl := List (Nat × AV)
def GOk (G : Gl) (S : SS) : Prop := ∀ (g : Nat) (d : AV),(g,d) ∈ G → ∀ (j : Nat) (y : AV),(cellsOf d)[j]? = some y → S g j y
theorem GOk.ext {G : Gl} {S S' : SS} (h : GOk G S) (k : ∀ b j d,S b j d → S' b j d) : GOk G S' := fun g d hg j y hy=>k _ _ _ (h g d hg j y hy)
def Lift (N : FS) (n : Nat) (w : World) (S : SS) (μ : List Value) (H : List AObj) (Q : Exit → ASt → Prop) : Exit → Act → World → Prop :=
 fun e a' w'=>∃ s' S' μ',Q e s' ∧ Rel w' S' μ' s'.H ∧ Fr S' μ' N s'.T a' ∧ Step n w S μ H w' S' μ' s'.H
def AWp (P : Program) (G : Gl) (N : FS) (n : Nat) (c : Code) (Q : Exit → ASt → Prop) (s : ASt) : Prop :=
 ∀ w S μ a,Rel w S μ s.H → Fr S μ N s.T a → GOk G S → c.wp P (Lift N n w S μ s.H Q) a w
section rules
variable {P : Program} {G : Gl} {N : FS} {n : Nat} {Q : Exit → ASt → Prop} {s : ASt}
theorem Lift.trans {w w' : World} {S S' : SS} {μ μ' : List Value} {H H' : List AObj} (h : Step n w S μ H w' S' μ' H') {Q : Exit → ASt → Prop} {e : Exit} {a : Act} {w'' : World} (k : Lift N n w' S' μ' H' Q e a w'') : Lift N n w S μ H Q e a w'' := by
 obtain ⟨s',S2,μ2,hq,hr,hf,hs⟩ := k
 exact ⟨s',S2,μ2,hq,hr,hf,h.trans hs⟩
theorem AWp.mono {c : Code} {Q' : Exit → ASt → Prop} (h : AWp P G N n c Q s) (k : ∀ e s,Q e s → Q' e s) : AWp P G N n c Q' s :=
 fun w S μ a hr hf hg=>wp_mono (h w S μ a hr hf hg) fun _ _ _ ⟨s',S',μ',hq,r⟩=>⟨s',S',μ',k _ _ hq,r⟩
theorem zAl (h : Q .normal s) : AWp P G N n .skip Q s := fun w S μ _ hr hf _=>wp_skip ⟨s,S,μ,h,hr,hf,Step.refl _ _ _ _ _⟩
theorem zDY (h : Q .ret s) : AWp P G N n .ret Q s := fun w S μ _ hr hf _=>wp_ret ⟨s,S,μ,h,hr,hf,Step.refl _ _ _ _ _⟩
theorem zyi {id : Nat} (h : Q (.exit id) s) : AWp P G N n (.exit id) Q s := fun w S μ _ hr hf _=>wp_exit ⟨s,S,μ,h,hr,hf,Step.refl _ _ _ _ _⟩
def zFq (next : ASt → Prop) (Q : Exit → ASt → Prop) : Exit → ASt → Prop
 |.normal,s=>next s
 |e,s=>Q e s
def zjc (id : Nat) (Q : Exit → ASt → Prop) : Exit → ASt → Prop
 |.exit id',s=>if id' = id then Q .normal s else Q (.exit id') s
 |e,s=>Q e s
theorem zxP {x y : Code} (h : AWp P G N n x (zFq (AWp P G N n y Q) Q) s) : AWp P G N n (.seq x y) Q s := by
 intro w S μ a hr hf hg
 refine wp_seq (wp_mono (h w S μ a hr hf hg) ?_)
 rintro e a' w' ⟨s',S',μ',hq,hr',hf',hst⟩
 cases e with
 |normal=>exact wp_mono (hq w' S' μ' a' hr' hf' (hg.ext hst.still)) fun _ _ _ k=>Lift.trans hst k
 |exit id=>exact ⟨s',S',μ',hq,hr',hf',hst⟩
 |goto l=>exact ⟨s',S',μ',hq,hr',hf',hst⟩
 |ret=>exact ⟨s',S',μ',hq,hr',hf',hst⟩
 |panic ch=>exact ⟨s',S',μ',hq,hr',hf',hst⟩
 |outgrown=>exact ⟨s',S',μ',hq,hr',hf',hst⟩
theorem zuz {id : Nat} {c : Code} (h : AWp P G N n c (zjc id Q) s) : AWp P G N n (.block id c) Q s := by
 intro w S μ a hr hf hg
 refine wp_block (wp_mono (h w S μ a hr hf hg) ?_)
 rintro e a' w' ⟨s',S',μ',hq,r⟩
 cases e with
 |exit id' =>
  simp only [zjc] at hq
  simp only [Exit.inBlock]
  split
  ·rename_i e;rw [if_pos e] at hq;exact ⟨s',S',μ',hq,r⟩
  ·rename_i e;rw [if_neg e] at hq;exact ⟨s',S',μ',hq,r⟩
 |normal=>exact ⟨s',S',μ',hq,r⟩
 |goto l=>exact ⟨s',S',μ',hq,r⟩
 |ret=>exact ⟨s',S',μ',hq,r⟩
 |panic ch=>exact ⟨s',S',μ',hq,r⟩
 |outgrown=>exact ⟨s',S',μ',hq,r⟩
def cv : Value → AV
 |.agg cs=>if cs.all (·.oneCell') then .agg (cs.toList.map fun u=>V u) else .nil
 |.tuple _=>.nil
 |v=>V v
def zL6 : Gl → Nat → AV
 |[],_=>.nil
 |(j,d) :: r,g=>if j = g then .ptr d else zL6 r g
def ev (G : Gl) (T : Tm) : Operand → AV
 |.tmp t=>get T t
 |.const v=>cv v
 |.global g=>zL6 G g
 |.func f=>V (.func (.func f) #[] #[])
theorem zsm {S : SS} {μ : List Value} {v : Value} (h : v.oneCell' = true) : rep S μ (V v) v := ⟨rfl,h⟩
theorem zFl (S : SS) (μ : List Value) (v : Value) : rep S μ (cv v) v := by
 cases v with
 |agg cs =>
  simp only [cv]
  split
  ·rename_i hall
   refine ⟨cs.toList,by simp,by simp,fun j d u hd hu=>?_⟩
   rw [List.getElem?_map,hu] at hd
   simp at hd;subst hd
   rw [Array.all_eq_true_iff_forall_mem] at hall
   have h1 : u.oneCell' = true := hall u (by rw [← Array.mem_toList_iff];exact List.mem_of_getElem? hu)
   exact ⟨h1,rfl,h1⟩
  ·trivial
 |tuple vs=>trivial
 |_=>exact ⟨rfl,rfl⟩
theorem Fr.ev {S : SS} {μ : List Value} {T : Tm} {a : Act} (hf : Fr S μ N T a) (hg : GOk G S) (x : Operand) : rep S μ (ev G T x) (a.eval x) := by
 cases x with
 |tmp t=>exact hf.slot t
 |const v=>exact zFl S μ v
 |func f=>exact ⟨rfl,rfl⟩
 |global g =>
  show rep S μ (zL6 G g) (.pointer (some ⟨g,0,none⟩))
  have hg' : ∀ d : AV,(g,d) ∈ G → ∀ j y,(cellsOf d)[j]? = some y → S g j y := fun d=>hg g d
  clear hg
  induction G with
  |nil=>trivial
  |cons p r ih =>
   obtain ⟨j,d⟩ := p
   simp only [zL6]
   split
   ·rename_i e;subst e
    exact ⟨_,0,rfl,fun k y hy=>by simpa using hg' d (List.mem_cons_self ..) k y hy⟩
   ·exact ih fun d hd=>hg' d (List.mem_cons_of_mem _ hd)
theorem zsu {c : Operand} {x y : Code} {t : Bool} (hc : ev G s.T c = V (.bool t)) (h1 : t = true → AWp P G N n x Q s) (h2 : t = false → AWp P G N n y Q s) : AWp P G N n (.cond c x y) Q s := by
 intro w S μ a hr hf hg
 have h := hf.ev hg c
 rw [hc] at h
 exact wp_cond_split h.1 (fun e=>h1 e w S μ a hr hf hg) (fun e=>h2 e w S μ a hr hf hg)
def lt0 (n : Nat) : AV → Bool
 |.held (.inr (.inl (i,_)))=>decide (i < n)
 |_=>true
def lt1 (n : Nat) : AV → Bool
 |.held (.inr (.inl (i,_)))=>decide (i < n)
 |.held (.inr (.inr (i,_)))=>decide (i < n)
 |.slice _ [.held (.inr (.inl (i,_)))]=>decide (i < n)
 |.slice _ [.held (.inr (.inr (i,_)))]=>decide (i < n)
 |.slice caps (_ :: _)=>caps.all (lt0 n)
 |_=>true
def ltA (n : Nat) : AV → Bool
 |.agg cs=>cs.all (lt1 n)
 |d=>lt1 n d
def ltT (n : Nat) : AV → Bool
 |.iface _ (.agg ds)=>ds.all (ltA n)
 |d=>ltA n d
def ltO (n : Nat) (o : AObj) : Bool := o.k == 0 || o.c.all (ltA n)
theorem rep1.take {S : SS} {μ : List Value} {n : Nat} {d : AV} {v : Value} (k : rep1 S μ d v) (h : lt1 n d = true) : rep1 S (μ.take n) d v := by
 match d,k with
 |.nil,_=>trivial
 |.held (.inl u),k=>exact k
 |.held (.inr (.inl (i,o))),k =>
  obtain ⟨b,x,hb,e⟩ := k
  simp only [lt1,decide_eq_true_eq] at h
  exact ⟨b,x,by rw [List.getElem?_take,if_pos h];exact hb,e⟩
 |.slice _ [.held (.inr (.inl (i,m)))],k =>
  obtain ⟨A,c,hb,e⟩ := k
  simp only [lt1,decide_eq_true_eq] at h
  exact ⟨A,c,by rw [List.getElem?_take,if_pos h];exact hb,e⟩
 |.slice _ [.held (.inl (.bool _))],k=>exact k
 |.slice _ [.held (.inr (.inr (i,m)))],k =>
  obtain ⟨b,hb,e⟩ := k
  simp only [lt1,decide_eq_true_eq] at h
  exact ⟨b,by rw [List.getElem?_take,if_pos h];exact hb,e⟩
 |.held (.inr (.inr (i,m))),k =>
  obtain ⟨A,q,c,A0,c0,hb,e⟩ := k
  simp only [lt1,decide_eq_true_eq] at h
  exact ⟨A,q,c,A0,c0,by rw [List.getElem?_take,if_pos h];exact hb,e⟩
 |.slice caps [.held (.inl (.func fn _ _)), .held (.inr (.inl (q,_)))],k =>
  obtain ⟨us,e,hl,hc⟩ := k
  simp only [lt1,List.all_eq_true] at h
  refine ⟨us,e,hl,fun j d u hd hu=>?_⟩
  have h1 := hc j d u hd hu
  have h2 := h d (List.mem_of_getElem? hd)
  match d,h1,h2 with
  |.nil,_,_=>trivial
  |.held (.inl u),k,_=>exact k
  |.held (.inr (.inl (i,o))),k,h2 =>
   obtain ⟨b,x,hb,e⟩ := k
   simp only [lt0,decide_eq_true_eq] at h2
   exact ⟨b,x,by rw [List.getElem?_take,if_pos h2];exact hb,e⟩
  |.ptr d,k,_=>exact k
 |.slice es [],k=>exact k
 |.ptr d,k=>exact k
theorem reps.take {S : SS} {μ : List Value} {n : Nat} {cs : List AV} {us : List Value} (k : reps S μ cs us) (h : ∀ d ∈ cs,lt1 n d = true) : reps S (μ.take n) cs us :=
 ⟨k.1,fun j d u hd hu=>⟨(k.2 j d u hd hu).1,(k.2 j d u hd hu).2.take (h d (List.mem_of_getElem? hd))⟩⟩
theorem repA.take {S : SS} {μ : List Value} {n : Nat} {d : AV} {v : Value} (k : repA S μ d v) (h : ltA n d = true) : repA S (μ.take n) d v := by
 unfold repA at k ⊢
 split
 ·simp only at k
  obtain ⟨us,e,hr⟩ := k
  simp only [ltA,List.all_eq_true] at h
  exact ⟨us,e,hr.take h⟩
 ·rename_i hne
  split at k
  ·exact absurd rfl (hne _)
  ·refine rep1.take k ?_
   unfold ltA at h
   split at h
   ·exact absurd rfl (hne _)
   ·exact h
theorem rep.take {S : SS} {μ : List Value} {n : Nat} {d : AV} {v : Value} (k : rep S μ d v) (h : ltT n d = true) : rep S (μ.take n) d v := by
 unfold rep at k ⊢
 split
 ·simp only at k
  obtain ⟨us,e,hl,hr⟩ := k
  simp only [ltT,List.all_eq_true] at h
  exact ⟨us,e,hl,fun j d u hd hu=>(hr j d u hd hu).take (h d (List.mem_of_getElem? hd))⟩
 ·rename_i hne
  split at k
  ·exact absurd rfl (hne _ _)
  ·refine repA.take k ?_
   unfold ltT at h
   split at h
   ·exact absurd rfl (hne _ _)
   ·exact h
def HLe : List AObj → List AObj → Prop
 |_,[]=>True
 |[],_ :: _=>False
 |o :: r,o' :: r'=>(o' = o ∨ AObj.k o' = 0) ∧ HLe r r'
theorem HLe.length : ∀ {H H' : List AObj},HLe H H' → H'.length ≤ H.length
 |_,[],_=>Nat.zero_le _
 |o :: r,o' :: r',h=>Nat.succ_le_succ (HLe.length h.2)
 |[],_ :: _,h=>h.elim
theorem HLe.get : ∀ {H H' : List AObj},HLe H H' → ∀ (i : Nat) (o' : AObj),H'[i]? = some o' → o'.k ≠ 0 → H[i]? = some o'
 |_,[],_,i,o',h,_=>by simp at h
 |o :: r,o1 :: r',h,0,o',h1,h2=>by
  simp at h1;subst h1
  rcases h.1 with e|e
  ·simp [e]
  ·exact absurd e h2
 |o :: r,o1 :: r',h,i + 1,o',h1,h2=>by
  simp at h1 ⊢
  exact HLe.get h.2 i o' h1 h2
 |[],_ :: _,h,_,_,_,_=>h.elim
theorem zqe {n : Nat} {o : AObj} (h : o.c.all (ltA n) = true) (hk : ∀ d ∈ o.c,(∀ cs,d ≠ DataW.agg cs)) : ∀ d ∈ o.c,lt1 n d = true := by
 intro d hd
 have := (List.all_eq_true.1 h) d hd
 unfold ltA at this
 split at this
 ·exact absurd rfl (hk _ hd _)
 ·exact this
theorem zrT {n : Nat} {es : List AV} (h : es.all (ltA n) = true) (hk : ∀ d ∈ zN0 es,(∀ cs,d ≠ DataW.agg cs)) : ∀ d ∈ zN0 es,lt1 n d = true := by
 intro d hd
 obtain ⟨x,hx,hxd⟩ := List.mem_flatMap.1 hd
 have := (List.all_eq_true.1 h) x hx
 unfold ltA at this
 split at this
 ·exact (List.all_eq_true.1 this) d hxd
 ·rename_i hne
  have e : cellsOf x = [x] := by cases x <;> first|rfl|exact absurd rfl (hne _)
  rw [e] at hxd
  have : d = x := by simpa using hxd
  subst this
  assumption
theorem zoQ {S : SS} {μ : List Value} {cs : List AV} {us : List Value} (k : reps S μ cs us) : ∀ d ∈ cs,(∀ xs,d ≠ DataW.agg xs) := by
 intro d hd xs e
 subst e
 obtain ⟨j,hj⟩ := List.getElem?_of_mem hd
 have hl : j < us.length := by rw [k.1];exact (List.getElem?_eq_some_iff.1 hj).1
 exact (k.2 j _ us[j] hj (List.getElem?_eq_getElem hl)).2.elim
theorem Rel.le {w : World} {S : SS} {μ : List Value} {H H' : List AObj} (h : Rel w S μ H) (hl : HLe H H') (hlt : H'.all (ltO H'.length) = true) : Rel w S (μ.take H'.length) H' := by
 have hn := hl.length
 have hget : ∀ (i : Nat) (x : Value),(μ.take H'.length)[i]? = some x → μ[i]? = some x := by
  intro i x hx
  rw [List.getElem?_take] at hx
  split at hx
  ·exact hx
  ·cases hx
 refine ⟨by rw [List.length_take,h.len];omega,h.still,fun i x o hx ho=>?_,fun i x o hx ho=>?_,fun i i' x x' o o' b hx ho hk hb hx' ho' hk' hb'=>?_,fun i x o b hx ho hk hb=>?_⟩
 ·by_cases hk : o.k = 0
  ·exact .inl hk
  ·exact h.kinds i x o (hget i x hx) (hl.get i o ho hk)
 ·by_cases hk : o.k = 0
  ·exact objRep.zero hk
  ·have := h.objs i x o (hget i x hx) (hl.get i o ho hk)
   have hltc : o.c.all (ltA H'.length) = true := by
    have := (List.all_eq_true.1 hlt) o (List.mem_of_getElem? ho)
    simpa [ltO,hk] using this
   refine ⟨fun e=>?_,this.2.1,fun e=>?_,this.2.2.2⟩
   ·obtain ⟨b,cs,h1,h2,h3⟩ := this.1 e
    exact ⟨b,cs,h1,h2,h3.take (zqe hltc (zoQ h3))⟩
   ·obtain ⟨A,c,h1,h2,h3,h4,h5⟩ := this.2.2.1 e
    refine ⟨A,c,h1,h2,h3,h4,fun h0=>?_⟩
    obtain ⟨b,cs,q1,q2,q3,q4⟩ := h5 h0
    exact ⟨b,cs,q1,q2,q3,q4.take (zrT hltc (zoQ q4))⟩
 ·exact h.sep i i' x x' o o' b (hget i x hx) (hl.get i o ho hk) hk hb (hget i' x' hx') (hl.get i' o' ho' hk') hk' hb'
 ·exact h.apart i x o b (hget i x hx) (hl.get i o ho hk) hk hb
theorem Rel.own_lt {w : World} {S : SS} {μ : List Value} {H : List AObj} (hr : Rel w S μ H) {i : Nat} {x : Value} {o : AObj} {b : Nat} (hx : μ[i]? = some x) (ho : H[i]? = some o) (hk : o.k ≠ 0) (hb : z60 x = some b) : b < w.heap.size := by
 have ho' := hr.objs i x o hx ho
 have := hr.kinds i x o hx ho
 rcases this with h|h|h|h|h
 ·exact absurd h hk
 ·obtain ⟨b',cs,e,hc,_⟩ := ho'.1 h
  subst e;simp [z60] at hb;subst hb
  exact (Array.getElem?_eq_some_iff.1 hc).1
 ·obtain ⟨us,A,c,e,_,_,hc,_⟩ := ho'.2.1 h
  subst e
  cases A with
  |none=>simp [z60] at hb
  |some a =>
   simp only [z60] at hb
   split at hb
   ·cases hb
   ·rename_i h0
    injection hb with hb;subst hb
    exact ((hc h0).lt a.block rfl).2
 ·obtain ⟨A,c,e,_,_,_,hc⟩ := ho'.2.2.1 h
  subst e
  cases A with
  |none=>simp [z60] at hb
  |some a =>
   simp only [z60] at hb
   split at hb
   ·cases hb
   ·rename_i h0
    injection hb with hb;subst hb
    obtain ⟨b,cs,q1,q2,_⟩ := hc h0
    injection q1 with q1;subst q1
    exact (Array.getElem?_eq_some_iff.1 q2).1
 ·obtain ⟨b',e,hc⟩ := ho'.2.2.2 h
  subst e;simp [z60] at hb;subst hb
  exact hc.lt
theorem zsR {w w' : World} {P : Program} {k : TypeId} {R : Value → Option (DataW Unit × List MemPlace)} {b n : Nat} {D : DataW Unit} (h : w.ownsMap P k R b n D) (hb : w'.heap[b]? = w.heap[b]?) : w'.ownsMap P k R b n D := by
 obtain ⟨es,clock,h1,h2⟩ := h
 exact ⟨es,clock,by rw [hb];exact h1,h2⟩
theorem objRep.move {w w' : World} {S S' : SS} {μ μ' : List Value} {x : Value} {o : AObj} (h : objRep w S μ x o) (he : Ext S μ S' μ') (hb : ∀ b,z60 x = some b → w'.heap[b]? = w.heap[b]?) : objRep w' S' μ' x o := by
 refine ⟨fun hk=>?_,fun hk=>?_,fun hk=>?_,fun hk=>?_⟩
 ·obtain ⟨b',cs,e,hc,hrp⟩ := h.1 hk
  exact ⟨b',cs,e,by rw [hb b' (by subst e;rfl)];exact hc,hrp.ext he⟩
 ·obtain ⟨us,A,c,e,l1,l2,hc,hrp⟩ := h.2.1 hk
  refine ⟨us,A,c,e,l1,l2,fun h0=>⟨(hc h0).1,?_⟩,fun hne=>?_⟩
  ·rcases (hc h0).2 with q|⟨g,cap,cur,hv,hg,hh,r⟩
   ·exact .inl q
   ·refine .inr ⟨g,cap,cur,hv,hg,?_,r⟩
    rw [hb g ?_];exact hh
    rw [hv]
    rw [hv] at e
    injection e with e1 e2 e3
    simp only [z60]
    rw [if_neg (by rw [e3];exact h0)]
  ·obtain ⟨b,e2,hin⟩ := hrp hne
   exact ⟨b,e2,hin.ext he.still⟩
 ·obtain ⟨A,c,e,l1,l2,l3,hc⟩ := h.2.2.1 hk
  refine ⟨A,c,e,l1,l2,l3,fun h0=>?_⟩
  obtain ⟨b,cs,q1,q2,q3,q4⟩ := hc h0
  refine ⟨b,cs,q1,?_,q3,q4.ext he⟩
  rw [hb b (by subst e q1;simp only [z60];rw [if_neg h0])];exact q2
 ·obtain ⟨b',e,hc⟩ := h.2.2.2 hk
  exact ⟨b',e,zsR hc (hb b' (by subst e;rfl))⟩
def TLe (n : Nat) (T : Tm) : Tm → Prop
 |[]=>True
 |(i,d) :: r=>get T i = d ∧ ltT n d = true ∧ TLe n T r
theorem TLe.get {n : Nat} {T : Tm} : ∀ {T' : Tm}, TLe n T T' → ∀ i, (get T' i = get T i ∧ ltT n (get T' i) = true) ∨ get T' i = .nil
  | [], _, i => .inr rfl
  | (j, d) :: r, h, i => by
    simp only [_root_.Go.Proofs.Ytaaogcnjfkgnoaa.get]
    split
    · rename_i e; subst e
      exact .inl ⟨h.1.symm, h.2.1⟩
    · exact TLe.get h.2.2 i
structure Le (s s' : ASt) : Prop where
 h : HLe s.H s'.H
 o : s'.H.all (ltO s'.H.length) = true
 t : TLe s'.H.length s.T s'.T
theorem Le.rel {s s' : ASt} (h : Le s s') {w : World} {S : SS} {μ : List Value} (hr : Rel w S μ s.H) : Rel w S (μ.take s'.H.length) s'.H := hr.le h.h h.o
theorem Le.fr {s s' : ASt} (h : Le s s') {S : SS} {μ : List Value} {N : FS} {a : Act} (hf : Fr S μ N s.T a) : Fr S (μ.take s'.H.length) N s'.T a :=
 ⟨hf.size,hf.nodef,fun i=>by
  rcases TLe.get h.t i with ⟨e,hl⟩|e
  ·rw [e] at hl ⊢;exact (hf.slot i).take hl
  ·rw [e];trivial⟩
theorem HLe.own {H H' : List AObj} (h : HLe H H') {μ : List Value} {b : Nat} (k : zLD (μ.take H'.length) H' b) : zLD μ H b := by
 obtain ⟨i,x,o,hx,ho,hk,hb⟩ := k
 refine ⟨i,x,o,?_,h.get i o ho hk,hk,hb⟩
 rw [List.getElem?_take] at hx
 split at hx
 ·exact hx
 ·cases hx
theorem Le.step {s s' : ASt} (h : Le s s') (hn : n ≤ s'.H.length) (w : World) (S : SS) (μ : List Value) : Step n w S μ s.H w S (μ.take s'.H.length) s'.H :=
 ⟨rfl,rfl,rfl,Nat.le_refl _,fun _ _ _=>rfl,fun _ _ _ h=>h,fun i x hi hx=>⟨x,by rw [List.getElem?_take,if_pos (by omega)];exact hx, .inl rfl⟩,fun _ _ _ h _=>.inl h,fun _ k _=>h.h.own k⟩
theorem AWp.le {c : Code} {s' : ASt} (h : AWp P G N n c Q s') (k : Le s s') (hn : n ≤ s'.H.length) : AWp P G N n c Q s :=
 fun w S μ a hr hf hg=>wp_mono (h w S (μ.take s'.H.length) a (k.rel hr) (k.fr hf) hg) fun _ _ _ q=>Lift.trans (k.step hn w S μ) q
def zJN {ι : Type} (n : Nat) (I : ι → ASt) (M : ι → Nat) (i : ι) (Q : Exit → ASt → Prop) : Exit → ASt → Prop
 |.normal,s=>∃ i',Le s (I i') ∧ n ≤ (I i').H.length ∧ M i' < M i
 |e,s=>Q e s
end rules
end Go.Proofs.Ytaaogcnjfkgnoaa

namespace Go.Proofs.Ytaaogcnjfkgnoaa
open Go.RowKit
def zey (P : Program) (f : FuncId) : Bool := match P.funcs[f]? with
 | some fn => !(fn.name == "runtime.NumGoroutine") && fn.body.isSome
 |none=>false
theorem zlE {P : Program} {o : Oper} {ρ : Operand → Value} {w : World} {f : FuncId} {args : Array Operand} {ts : Array TypeId} (hf : zey P f = true)
  (ho : o.op = .call { callee := .value (.func f),args := args,argTypes := ts }) (hρ : ρ (.func f) = .func (.func f) #[] #[]) : (execOp ρ o).run P w = .ok (.enter f (args.map ρ)) w := by
 unfold zey at hf
 cases h : P.funcs[f]? with
 |none=>rw [h] at hf;cases hf
 |some fn =>
  rw [h] at hf
  simp only [Bool.and_eq_true,Bool.not_eq_true',Option.isSome_iff_ne_none] at hf
  obtain ⟨h1,h2⟩ := hf
  have h3 : fn.body.isNone = false := by cases hb : fn.body with|none=>exact absurd hb h2|some _=>rfl
  unfold execOp
  rw [ho]
  simp only [resolve,hρ,Deferred.ofValue,Sem.run_bind,Sem.run_pure,Result.andThen_ok,invoke,callFunc,run_program,h,h1,h3]
  simp [Sem.run_pure]
def zAC (w : World) (S : SS) (μ : List Value) (H : List AObj) (R : AV → List AObj → Prop) (e : Ending) (w' : World) : Prop :=
 ∃ v r H' S' μ',e = .returned v ∧ R r H' ∧ Rel w' S' μ' H' ∧ rep S' μ' r v ∧ Step H.length w S μ H w' S' μ' H'
def AC (P : Program) (G : Gl) (f : FuncId) (args : List AV) (H : List AObj) (R : AV → List AObj → Prop) : Prop :=
 zey P f = true ∧ ∀ w S μ (vs : List Value),Rel w S μ H → GOk G S → vs.length = args.length → (∀ (j : Nat) (d : AV) (v : Value),args[j]? = some d → vs[j]? = some v → rep S μ d v) →
  Calls P f vs.toArray w (zAC w S μ H R)
theorem AC.mono {P : Program} {G : Gl} {f : FuncId} {args : List AV} {H : List AObj} {R R' : AV → List AObj → Prop} (h : AC P G f args H R) (k : ∀ r H',R r H' → R' r H') : AC P G f args H R' :=
 ⟨h.1,fun w S μ vs hr hg hl hv=>(h.2 w S μ vs hr hg hl hv).mono fun e w' ⟨v,r,H',S',μ',he,hR,rest⟩=>⟨v,r,H',S',μ',he,k r H' hR,rest⟩⟩
abbrev PN (u : Value) : AV := .iface "" (.held (.inl u))
def CPan (w : World) (S : SS) (μ : List Value) (H : List AObj) (R : AV → List AObj → Prop) (e : Ending) (w' : World) : Prop :=
 ∃ u H' S' μ',e = .panicked [{ v := u,recovered := false }] ∧ R (PN u) H' ∧ Rel w' S' μ' H' ∧ Step H.length w S μ H w' S' μ' H'
def ACx (P : Program) (G : Gl) (f : FuncId) (args : List AV) (H : List AObj) (R : AV → List AObj → Prop) : Prop :=
 zey P f = true ∧ ∀ w S μ (vs : List Value),Rel w S μ H → GOk G S → vs.length = args.length → (∀ (j : Nat) (d : AV) (v : Value),args[j]? = some d → vs[j]? = some v → rep S μ d v) →
  Calls P f vs.toArray w (fun e w'=>zAC w S μ H R e w' ∨ CPan w S μ H R e w')
theorem ACx.mono {P : Program} {G : Gl} {f : FuncId} {args : List AV} {H : List AObj} {R R' : AV → List AObj → Prop} (h : ACx P G f args H R) (k : ∀ r H',R r H' → R' r H') : ACx P G f args H R' :=
 ⟨h.1,fun w S μ vs hr hg hl hv=>(h.2 w S μ vs hr hg hl hv).mono fun e w' q=>by
  rcases q with ⟨v,r,H',S',μ',he,hR,rest⟩|⟨u,H',S',μ',he,hR,rest⟩
  ·exact .inl ⟨v,r,H',S',μ',he,k r H' hR,rest⟩
  ·exact .inr ⟨u,H',S',μ',he,k _ H' hR,rest⟩⟩
theorem AC.x {P : Program} {G : Gl} {f : FuncId} {args : List AV} {H : List AObj} {R : AV → List AObj → Prop} (h : AC P G f args H R) : ACx P G f args H R :=
 ⟨h.1,fun w S μ vs hr hg hl hv=>(h.2 w S μ vs hr hg hl hv).mono fun e w' q=>.inl q⟩
def ACp (P : Program) (G : Gl) (f : FuncId) (args : List AV) (X : AV) : Prop := AC P G f args [] fun r H'=>r = X ∧ H' = []
theorem Step.toExt {w w' : World} {S S' : SS} {μ μ' : List Value} {H H' : List AObj} (hr : Rel w S μ H) (h : Step H.length w S μ H w' S' μ' H') : Ext S μ S' μ' :=
 ⟨h.still,fun i x hx=>h.objs i x (by rw [← hr.len];exact (List.getElem?_eq_some_iff.1 hx).1) hx⟩
theorem Step.less {n m : Nat} {w w' : World} {S S' : SS} {μ μ' : List Value} {H H' : List AObj} (h : Step n w S μ H w' S' μ' H') (hm : m ≤ n) : Step m w S μ H w' S' μ' H' :=
 ⟨h.os,h.tape,h.output,h.size,h.block,h.still,fun i x hi hx=>h.objs i x (by omega) hx,h.old,h.mine⟩
theorem reps.free {S : SS} {μ : List Value} {cs : List AV} {us : List Value} (k : reps S [] cs us) : reps S μ cs us := ⟨k.1,fun j d u hd hu=>⟨(k.2 j d u hd hu).1,(k.2 j d u hd hu).2.free⟩⟩
theorem repA.free {S : SS} {μ : List Value} {d : AV} {v : Value} (k : repA S [] d v) : repA S μ d v := by
 unfold repA at k ⊢
 split
 ·simp only at k
  obtain ⟨us,e,hr⟩ := k
  exact ⟨us,e,hr.free⟩
 ·rename_i hne
  split at k
  ·exact absurd rfl (hne _)
  ·exact k.free
theorem rep.free {S : SS} {μ : List Value} {d : AV} {v : Value} (k : rep S [] d v) : rep S μ d v := by
 unfold rep at k ⊢
 split
 ·simp only at k
  obtain ⟨us,e,hl,hr⟩ := k
  exact ⟨us,e,hl,fun j d u hd hu=>(hr j d u hd hu).free⟩
 ·rename_i hne
  split at k
  ·exact absurd rfl (hne _ _)
  ·exact k.free
theorem rep.none {S : SS} {μ : List Value} {d : AV} {v : Value} (k : rep S μ d v) (h : ltT 0 d = true) : rep S [] d v := by simpa using k.take h
theorem Rel.frame {w w' : World} {S S' : SS} {μ : List Value} {H : List AObj} (hr : Rel w S μ H) (hr' : Rel w' S' [] []) (hs : Step 0 w S [] [] w' S' [] []) : Rel w' S' μ H ∧ Step H.length w S μ H w' S' μ H := by
 have hb := hs.below
 have hown : ∀ b,¬ zLD ([] : List Value) ([] : List AObj) b := by rintro b ⟨i,x,o,hi,_⟩;simp at hi
 have hext : Ext S μ S' μ := ⟨hs.still,fun i x hx=>⟨x,hx, .inl rfl⟩⟩
 refine ⟨⟨hr.len,hr'.still,hr.kinds,fun i x o hx ho=>?_,hr.sep,fun i x o b hx ho hk hbk j d hS=>?_⟩,⟨hs.os,hs.tape,hs.output,hs.size,fun b hb1 _=>hb.block b hb1,hs.still,fun i x _ hx=>⟨x,hx, .inl rfl⟩,fun b j d hS hb1=>?_,fun b h _=>h⟩⟩
 ·by_cases hk : o.k = 0
  ·exact objRep.zero hk
  ·exact (hr.objs i x o hx ho).move hext fun b hbk=>hb.block b (hr.own_lt hx ho hk hbk)
 ·rcases hs.old b j d hS (hr.own_lt hx ho hk hbk) with q|q
  ·exact hr.apart i x o b hx ho hk hbk j d q
  ·exact absurd q (hown b)
 ·rcases hs.old b j d hS hb1 with q|q
  ·exact .inl q
  ·exact absurd q (hown b)
theorem zwd {P : Program} {G : Gl} {f : FuncId} {args : List AV} {X : AV} (h : ACp P G f args X) (ha : args.all (ltT 0) = true) {w : World} {S : SS} {μ : List Value} {H : List AObj} {vs : List Value} (hr : Rel w S μ H) (hg : GOk G S) (hl : vs.length = args.length)
  (hv : ∀ (j : Nat) (d : AV) (v : Value),args[j]? = some d → vs[j]? = some v → rep S μ d v) :
  Calls P f vs.toArray w fun e w'=>∃ v S',e = .returned v ∧ Rel w' S' μ H ∧ rep S' μ X v ∧ Step H.length w S μ H w' S' μ H ∧ Below w.heap.size w w' := by
 have hr0 : Rel w S [] [] := ⟨rfl,hr.still,fun i x o hi=>by simp at hi,fun i x o hi=>by simp at hi,fun i i' x x' o o' b hi=>by simp at hi,fun i x o b hi=>by simp at hi⟩
 refine (h.2 w S [] vs hr0 hg hl fun j d v hd hvj=>(hv j d v hd hvj).none ((List.all_eq_true.1 ha) d (List.mem_of_getElem? hd))).mono ?_
 rintro e w' ⟨v,r,H',S',μ',he,⟨rfl,rfl⟩,hrel,hrep,hst⟩
 have hμ : μ' = [] := List.eq_nil_of_length_eq_zero hrel.len
 subst hμ
 obtain ⟨h1,h2⟩ := hr.frame hrel hst
 exact ⟨v,S',he,h1,hrep.free,h2,hst.below⟩
theorem AC.pure {P : Program} {G : Gl} {f : FuncId} {args : List AV} {X : AV} (h : ACp P G f args X) (ha : args.all (ltT 0) = true) (H : List AObj) : AC P G f args H fun r H'=>r = X ∧ H' = H := by
 refine ⟨h.1,fun w S μ vs hr hg hl hv=>?_⟩
 have hr0 : Rel w S [] [] := ⟨rfl,hr.still,fun i x o hi=>by simp at hi,fun i x o hi=>by simp at hi,fun i i' x x' o o' b hi=>by simp at hi,fun i x o b hi=>by simp at hi⟩
 refine (h.2 w S [] vs hr0 hg hl fun j d v hd hvj=>(hv j d v hd hvj).none ((List.all_eq_true.1 ha) d (List.mem_of_getElem? hd))).mono ?_
 rintro e w' ⟨v,r,H',S',μ',he,⟨rfl,rfl⟩,hrel,hrep,hst⟩
 have hμ : μ' = [] := List.eq_nil_of_length_eq_zero hrel.len
 subst hμ
 obtain ⟨h1,h2⟩ := hr.frame hrel hst
 exact ⟨v,r,H,S',μ,he,⟨rfl,rfl⟩,h1,hrep.free,h2⟩
end Go.Proofs.Ytaaogcnjfkgnoaa

namespace Go.Proofs.Ytaaogcnjfkgnoaa
open Go.RowKit
def z1T (P : Program) (t : TypeId) : Nat :=
 match P.underlying t,P.info? t with
 |some (.struct _),some i=>i.size + 2
 |some (.array _ _),some i=>i.size + 2
 |some _,some i=>if i.size = 1 then 1 else 0
 |_,_=>0
def zMH (k : Nat) : Nat := if k = 1 then 1 else k - 2
section
variable {P : Program} {t : TypeId} (w : World)
theorem zlO (h : z1T P t ≠ 0) : ∃ d i,P.underlying t = some d ∧ P.info? t = some i := by
 unfold z1T at h
 cases hu : P.underlying t with
 |none=>rw [hu] at h;exact absurd rfl h
 |some d =>
  cases hi : P.info? t with
  |none=>rw [hu,hi] at h;cases d <;> exact absurd rfl h
  |some i=>exact ⟨d,i,rfl,rfl⟩
theorem zjA (h : z1T P t = 1) : (isAgg t).run P w = .ok false w ∧ (sizeOf t).run P w = .ok 1 w := by
 obtain ⟨d,i,hu,hi⟩ := zlO (P := P) (t := t) (by omega)
 unfold z1T at h
 rw [hu,hi] at h
 have h1 : i.size = 1 := by
  cases d <;> simp at h <;> first|omega|(split at h <;> first|assumption|omega)|skip
 have h2 : (isAgg t).run P w = .ok false w := by
  cases d <;> simp [isAgg,run_underlying hu] at h ⊢
 exact ⟨h2,by simp [sizeOf,typeInfo,hi,h1]⟩
theorem zjH {n : Nat} (h : z1T P t = n + 2) : (isAgg t).run P w = .ok true w ∧ (sizeOf t).run P w = .ok n w := by
 obtain ⟨d,i,hu,hi⟩ := zlO (P := P) (t := t) (by omega)
 unfold z1T at h
 rw [hu,hi] at h
 have h1 : i.size = n ∧ (isAgg t).run P w = .ok true w := by
  cases d <;> simp [isAgg,run_underlying hu] at h ⊢ <;> first|omega|(split at h <;> omega)|skip
 exact ⟨h1.2,by simp [sizeOf,typeInfo,hi,h1.1]⟩
theorem zfQ (h : z1T P t ≠ 0) : (sizeOf t).run P w = .ok (zMH (z1T P t)) w := by
 have : z1T P t = 1 ∨ ∃ n,z1T P t = n + 2 := by
  rcases hk : z1T P t with _|_|n
  ·exact absurd hk h
  ·exact .inl rfl
  ·exact .inr ⟨n,rfl⟩
 rcases this with h1|⟨n,h1⟩
 ·rw [h1];exact (zjA w h1).2
 ·rw [h1];simpa [zMH] using (zjH w h1).2
end
def zN7 : AV → Bool|.nil=>false|.iface _ _=>false|_=>true
theorem zsh {S : SS} {μ : List Value} {d : AV} {v : Value} (h : rep1 S μ d v) (hs : zN7 d = true) : v.oneCell' = true := by
 match d,h with
 |.nil,_=>cases hs
 |.held (.inl u),h=>obtain ⟨rfl,h⟩ := h;exact h
 |.held (.inr (.inl (i,o))),h=>obtain ⟨b,x,_,_,rfl⟩ := h;rfl
 |.slice _ [.held (.inr (.inl (i,n)))],h=>obtain ⟨A,c,_,rfl,_⟩ := h;rfl
 |.slice _ [.held (.inl (.bool _))],h=>obtain ⟨A,rfl⟩ := h;rfl
 |.slice _ [.held (.inr (.inr (i,n)))],h=>obtain ⟨b,_,rfl⟩ := h;rfl
 |.held (.inr (.inr (i,n))),h =>
  obtain ⟨A,m,c,A',c',_,_,rfl,_⟩ := h;rfl
 |.slice caps [.held (.inl (.func fn _ _)), .held (.inr (.inl (q,_)))],h=>obtain ⟨us,rfl,_⟩ := h;rfl
 |.slice es [],h=>obtain ⟨A,c,rfl,_⟩ := h;rfl
 |.ptr d,h=>obtain ⟨b,o,rfl,_⟩ := h;rfl
def zKY (op : BinOp) (k : IntKind) (a : Int) (k' : IntKind) (b : Int) (K : AV → Prop) : Prop :=
 match op with
 |.add=>k = k' ∧ K (V (.int k (k.wrap (a + b))))
 |.sub=>k = k' ∧ K (V (.int k (k.wrap (a - b))))
 |.mul=>k = k' ∧ K (V (.int k (k.wrap (a * b))))
 |.quo=>k = k' ∧ b ≠ 0 ∧ K (V (.int k (k.wrap (a.tdiv b))))
 |.rem=>k = k' ∧ b ≠ 0 ∧ K (V (.int k (a.tmod b)))
 |.and=>k = k' ∧ K (V (.int k (bits .and k a b)))
 |.or=>k = k' ∧ K (V (.int k (bits .or k a b)))
 |.xor=>k = k' ∧ K (V (.int k (bits .xor k a b)))
 |.andNot=>k = k' ∧ K (V (.int k (bits .andNot k a b)))
 |.shl=>0 ≤ b ∧ K (V (.int k (k.wrap (a * 2 ^ (min b.toNat k.bits)))))
 |.shr=>0 ≤ b ∧ K (V (.int k (a.fdiv (2 ^ (min b.toNat k.bits)))))
 |.eql=>k = k' ∧ K (V (.bool (a == b)))
 |.neq=>k = k' ∧ K (V (.bool (a != b)))
 |.lss=>k = k' ∧ K (V (.bool (decide (a < b))))
 |.leq=>k = k' ∧ K (V (.bool (decide (a ≤ b))))
 |.gtr=>k = k' ∧ K (V (.bool (decide (a > b))))
 |.geq=>k = k' ∧ K (V (.bool (decide (a ≥ b))))
def zNw (op : BinOp) (a b : ByteArray) (K : AV → Prop) : Prop :=
 match op with
 |.add=>((a.size + b.size : Nat) : Int) ≤ 9223372036854775807 ∧ K (V (.string (a ++ b)))
 |.eql=>K (V (.bool (a.toList == b.toList)))
 |.neq=>K (V (.bool (!(a.toList == b.toList))))
 |.lss=>K (V (.bool (Op.bytesLess a.toList b.toList)))
 |.leq=>K (V (.bool (Op.bytesLess a.toList b.toList || a.toList == b.toList)))
 |.gtr=>K (V (.bool (!(Op.bytesLess a.toList b.toList || a.toList == b.toList))))
 |.geq=>K (V (.bool (!Op.bytesLess a.toList b.toList)))
 |_=>False
def zFy (P : Program) (t : TypeId) (op : BinOp) (us vs : List Value) (b : Bool) : Prop :=
 ∀ (ox oy : Operand) (w : World),(do eqGuard op t ox oy (.agg us.toArray) (.agg vs.toArray);binOp op t (.agg us.toArray) (.agg vs.toArray) : Sem Value).run P w = .ok (.bool b) w
theorem zm1 {S : SS} {μ : List Value} {us us' : List Value} (h : reps S μ (us.map fun u=>V u) us') : us' = us := by
 refine List.ext_getElem? fun j=>?_
 by_cases hj : j < us.length
 ·have hj' : j < us'.length := by rw [h.1];simpa using hj
  have := (h.2 j (V us[j]) us'[j] (by simp [List.getElem?_eq_getElem hj]) (List.getElem?_eq_getElem hj')).2
  rw [List.getElem?_eq_getElem hj,List.getElem?_eq_getElem hj',this.1]
 ·rw [List.getElem?_eq_none (by have := h.1;simp at this;omega),List.getElem?_eq_none (by omega)]
def zMc (P : Program) (t : TypeId) (op : BinOp) (x y : AV) (K : AV → Prop) : Prop :=
 match x,y with
 |.agg xs, .agg ys=>∃ us vs b,xs = us.map (fun u=>V u) ∧ ys = vs.map (fun u=>V u) ∧ zFy P t op us vs b ∧ K (V (.bool b))
 |.held (.inl (.int k a)), .held (.inl (.int k' b))=>zKY op k a k' b K
 |.held (.inl (.string a)), .held (.inl (.string b))=>zNw op a b K
 |.held (.inl (.bool a)), .held (.inl (.bool b))=>P.underlying t = some .bool ∧ (match op with|.eql=>K (V (.bool (a == b)))|.neq=>K (V (.bool (!(a == b))))|_=>False)
 |.slice (_ :: _) [], .held (.inl (.slice none 0 0))=>(∃ e,P.underlying t = some (.slice e)) ∧ (match op with|.eql=>K (V (.bool false))|.neq=>K (V (.bool true))|_=>False)
 |.held (.inr (.inl _)), .held (.inl (.pointer none))=>P.underlying t = some (.pointer (P.pointee t)) ∧ (match op with|.eql=>K (V (.bool false))|.neq=>K (V (.bool true))|_=>False)
 |.held (.inl (.pointer none)), .held (.inl (.pointer none))=>P.underlying t = some (.pointer (P.pointee t)) ∧ (match op with|.eql=>K (V (.bool true))|.neq=>K (V (.bool false))|_=>False)
 |_,_=>False
theorem zyN {P : Program} {op : BinOp} {k k' : IntKind} {a b : Int} {K : AV → Prop} (h : zKY op k a k' b K) (t : TypeId) (x y : Operand) (w : World) :
  ∃ u,(do eqGuard op t x y (.int k a) (.int k' b);binOp op t (.int k a) (.int k' b) : Sem Value).run P w = .ok u w ∧ u.oneCell' = true ∧ K (V u) := by
 rw [eqGuard_at_int]
 simp only [Sem.run_bind,Sem.run_pure,Result.andThen_ok]
 cases op <;> simp only [zKY] at h
 case shl =>
  refine ⟨_,?_,rfl,h.2⟩
  rw [binOp_shl,Op.shift]
  simp [show ¬ b < 0 by omega,Sem.run_pure]
 case shr =>
  refine ⟨_,?_,rfl,h.2⟩
  rw [binOp_shr,Op.shift]
  simp [show ¬ b < 0 by omega,Sem.run_pure]
 all_goals obtain ⟨rfl,h⟩ := h
 case quo=>exact ⟨_,by rw [binOp_quo,Op.intDiv,if_neg h.1];rfl,rfl,h.2⟩
 case rem=>exact ⟨_,by rw [binOp_rem,Op.intDiv,if_neg h.1];rfl,rfl,h.2⟩
 all_goals exact ⟨_,by simp only [binOp_add,binOp_sub,binOp_mul,binOp_and,binOp_or,binOp_xor,binOp_andNot,binOp_eql,binOp_neq,binOp_lss,binOp_leq,binOp_gtr,binOp_geq,intBits_and,intBits_or,intBits_xor,intBits_andNot,Op.intArith,Sem.run_pure],rfl,h⟩
theorem zyw {P : Program} {op : BinOp} {a b : ByteArray} {K : AV → Prop} (h : zNw op a b K) (t : TypeId) (x y : Operand) (w : World) :
  ∃ u,(do eqGuard op t x y (.string a) (.string b);binOp op t (.string a) (.string b) : Sem Value).run P w = .ok u w ∧ u.oneCell' = true ∧ K (V u) := by
 rw [eqGuard_at_string]
 simp only [Sem.run_bind,Sem.run_pure,Result.andThen_ok]
 cases op <;> simp only [zNw] at h
 case add =>
  refine ⟨_,?_,rfl,h.2⟩
  have hm : ¬ ((a.size + b.size : Nat) : Int) > IntKind.i64.max := by
   have : IntKind.i64.max = 9223372036854775807 := by decide
   rw [this];omega
  simp only [binOp,Op.stringOp,if_neg hm,Sem.run_pure]
 all_goals exact ⟨_,by simp only [binOp,Op.stringOp,Sem.run_pure],rfl,h⟩
theorem zzJ {P : Program} {t : TypeId} {op : BinOp} {x y : AV} {K : AV → Prop} (h : zMc P t op x y K) {S : SS} {μ : List Value} {u v : Value} (hx : rep S μ x u) (hy : rep S μ y v) (ox oy : Operand) (w : World) :
  ∃ r,(do eqGuard op t ox oy u v;binOp op t u v : Sem Value).run P w = .ok r w ∧ r.oneCell' = true ∧ K (V r) := by
 unfold zMc at h
 split at h
 ·obtain ⟨us,vs,b,rfl,rfl,he,hK⟩ := h
  obtain ⟨us',rfl,h1⟩ := hx;obtain ⟨vs',rfl,h2⟩ := hy
  rw [zm1 h1,zm1 h2]
  exact ⟨_,he ox oy w,rfl,hK⟩
 ·obtain ⟨rfl,_⟩ := hx;obtain ⟨rfl,_⟩ := hy
  exact zyN h t ox oy w
 ·obtain ⟨rfl,_⟩ := hx;obtain ⟨rfl,_⟩ := hy
  exact zyw h t ox oy w
 ·obtain ⟨rfl,_⟩ := hx;obtain ⟨rfl,_⟩ := hy
  obtain ⟨hu,h⟩ := h
  rw [eqGuard_at_bool]
  simp only [Sem.run_bind,Sem.run_pure,Result.andThen_ok]
  cases op <;> simp only at h
  case eql=>exact ⟨_,run_eql_bool w t _ _ hu,rfl,h⟩
  case neq=>exact ⟨_,run_neq_bool w t _ _ hu,rfl,h⟩
 ·obtain ⟨A,c,rfl,_,_,hA⟩ := hx
  obtain ⟨b,o,z,rfl,_⟩ := hA (by simp)
  obtain ⟨rfl,_⟩ := hy
  obtain ⟨⟨e,hu⟩,h⟩ := h
  rw [eqGuard_at_slice]
  simp only [Sem.run_bind,Sem.run_pure,Result.andThen_ok]
  have q : ∀ n,(Op.equal t (.slice (some ⟨b,o,none⟩) n c) (.slice none 0 0)).run P w = .ok false w := fun n=>run_equal_slice_nil (P := P) w t e (some ⟨b,o,none⟩) n c hu
  cases op <;> simp only at h
  case eql=>exact ⟨.bool false,by simp only [binOp];rw [Sem.run_bind,q];rfl,rfl,h⟩
  case neq=>exact ⟨.bool true,by simp only [binOp];rw [Sem.run_bind,q];rfl,rfl,h⟩
 ·obtain ⟨b,x',_,_,rfl⟩ := hx
  obtain ⟨rfl,_⟩ := hy
  obtain ⟨hu,h⟩ := h
  rw [eqGuard_at_pointer]
  simp only [Sem.run_bind,Sem.run_pure,Result.andThen_ok]
  have q := fun p=>run_equal_pointer_nil (P := P) w t p hu
  cases op <;> simp only at h
  case eql=>exact ⟨.bool false,by simp only [binOp];rw [Sem.run_bind,q];rfl,rfl,h⟩
  case neq=>exact ⟨.bool true,by simp only [binOp];rw [Sem.run_bind,q];rfl,rfl,h⟩
 ·obtain ⟨rfl,_⟩ := hx
  obtain ⟨rfl,_⟩ := hy
  obtain ⟨hu,h⟩ := h
  rw [eqGuard_at_pointer]
  simp only [Sem.run_bind,Sem.run_pure,Result.andThen_ok]
  have q := fun p=>run_equal_pointer_nil (P := P) w t p hu
  cases op <;> simp only at h
  case eql=>exact ⟨.bool true,by simp only [binOp];rw [Sem.run_bind,q];rfl,rfl,h⟩
  case neq=>exact ⟨.bool false,by simp only [binOp];rw [Sem.run_bind,q];rfl,rfl,h⟩
 ·exact h.elim
def aUn (op : UnOp) (x : AV) (K : AV → Prop) : Prop :=
 match op,x with
 |.not, .held (.inl (.bool b))=>K (V (.bool (!b)))
 |.neg, .held (.inl (.int k n))=>K (V (.int k (k.wrap (0 - n))))
 |.xor, .held (.inl (.int k n))=>K (V (.int k (bits .xor k (if k.signed then -1 else k.max) n)))
 |_,_=>False
theorem zEO {P : Program} {op : UnOp} {x : AV} {K : AV → Prop} (h : aUn op x K) {S : SS} {μ : List Value} {u : Value} (hx : rep S μ x u) (w : World) :
  ∃ r,(Op.unary op u).run P w = .ok r w ∧ r.oneCell' = true ∧ K (V r) := by
 unfold aUn at h
 split at h
 ·obtain ⟨rfl,_⟩ := hx;exact ⟨_,rfl,rfl,h⟩
 ·obtain ⟨rfl,_⟩ := hx;exact ⟨_,rfl,rfl,h⟩
 ·obtain ⟨rfl,_⟩ := hx;exact ⟨_,by simp only [Op.unary,intBits_xor,Sem.run_pure],rfl,h⟩
 ·exact h.elim
def nth (l : List AV) (i : Nat) (K : AV → Prop) : Prop := ∃ d,l[i]? = some d ∧ K d
def zMZ (H : List AObj) (i : Nat) (K : AObj → Prop) : Prop := ∃ o,H[i]? = some o ∧ K o
def z6R (k : Nat) (l : List AV) (o : Nat) (K : AV → Prop) : Prop :=
 if k = 1 then nth l o K else 2 ≤ k ∧ o + (k - 2) ≤ l.length ∧ K (.agg ((l.drop o).take (k - 2)))
def zjr (ob : AObj) (K : List AV → Prop) : Prop := match ob.k with
 |1=>K ob.c
 |4=>0 < ob.c.length ∧ K (zN0 ob.c)
 |_=>False
theorem zry {ob : AObj} {K : List AV → Prop} (h : zjr ob K) : ∃ l,((ob.k = 1 ∧ l = ob.c) ∨ (ob.k = 4 ∧ 0 < ob.c.length ∧ l = zN0 ob.c)) ∧ K l := by
 unfold zjr at h
 split at h
 ·rename_i e;exact ⟨_, .inl ⟨e,rfl⟩,h⟩
 ·rename_i e;exact ⟨_, .inr ⟨e,h.1,rfl⟩,h.2⟩
 ·exact h.elim
theorem zjv {ob : AObj} {K K' : List AV → Prop} (h : zjr ob K) (q : ∀ l,K l → K' l) : zjr ob K' := by
 unfold zjr at h ⊢
 split at h
 ·exact q _ h
 ·exact ⟨h.1,q _ h.2⟩
 ·exact h.elim
def zjK (k : Nat) (H : List AObj) (a : AV) (K : AV → Prop) : Prop :=
 match a with
 |.ptr (.agg cs)=>k = cs.length + 2 ∧ K (.agg cs)
 |.ptr d=>k = 1 ∧ K d
 |.held (.inr (.inl (i,o)))=>zMZ H i fun ob=>zjr ob fun l=>z6R k l o K
 |_=>False
def z09 {α : Type} : List α → Nat → List α → List α
 |l,_,[]=>l
 |l,o,x :: xs=>z09 (l.set o x) (o + 1) xs
def zN8 (ob : AObj) (k o : Nat) (x : AV) (K : AObj → Prop) : Prop := k ≠ 0 ∧ (cellsOf x).length = zMH k ∧ (cellsOf x).all zN7 = true ∧ (match ob.k with
 |1=>o + zMH k ≤ ob.c.length ∧ K { ob with c := z09 ob.c o (cellsOf x) }
 |4=>0 < ob.z ∧ zMH k = ob.z ∧ o % ob.z = 0 ∧ o / ob.z < ob.c.length ∧ K { ob with c := ob.c.set (o / ob.z) x }
 |_=>False)
theorem zri {ob : AObj} {k o : Nat} {x : AV} {K K' : AObj → Prop} (h : zN8 ob k o x K) (q : ∀ l,K l → K' l) : zN8 ob k o x K' := by
 obtain ⟨h1,h2,h3,h⟩ := h
 refine ⟨h1,h2,h3,?_⟩
 split at h
 ·exact ⟨h.1,q _ h.2⟩
 ·exact ⟨h.1,h.2.1,h.2.2.1,h.2.2.2.1,q _ h.2.2.2.2⟩
 ·exact h.elim
def zpz (k : Nat) (H : List AObj) (a x : AV) (K : List AObj → Prop) : Prop :=
 match a with
 |.held (.inr (.inl (i,o)))=>zMZ H i fun ob=>zN8 ob k o x fun ob'=>K (H.set i ob')
 |_=>False
def zpm (P : Program) (t : TypeId) : Option (List AV) :=
 match (P.info? t).map (·.zero) with
 |some (some z)=>if z.cells.all (·.oneCell') then some (z.cells.toList.map fun u=>V u) else none
 |_=>none
def zmw (P : Program) (s : TypeId) (f : Nat) : Option (Nat × Nat) :=
 match P.underlying s with
 |some (.struct fs)=>match fs[f]? with
  |some fd=>if z1T P fd.type = 0 ∨ zMH (z1T P fd.type) = 0 then none else some (fd.offset,z1T P fd.type)
  |none=>none
 |_=>none
def zm6 (fk : Option (Nat × Nat)) (a : AV) (K : AV → Prop) : Prop :=
 match fk with
 |some (off,k)=>match a with
  |.ptr (.agg cs)=>z6R k cs off fun d=>K (.ptr d)
  |.held (.inr (.inl (i,o)))=>K (OP i (o + off))
  |_=>False
 |none=>False
def zfj (fk : Option (Nat × Nat)) (a : AV) (K : AV → Prop) : Prop :=
 match fk with
 |some (off,k)=>match a with
  |.agg cs=>z6R k cs off K
  |_=>False
 |none=>False
def zeD (P : Program) (t : TypeId) : Option (TypeId × Nat) :=
 match P.underlying t with
 |some (.slice e)=>if z1T P e = 0 ∨ zMH (z1T P e) = 0 then none else some (e,z1T P e)
 |_=>none
def zl1 (P : Program) (t : TypeId) : Option (Nat × Nat) :=
 match P.underlying t with
 |some (.array n e)=>if z1T P e = 0 ∨ zMH (z1T P e) = 0 then none else some (n,z1T P e)
 |_=>none
def z8K (H : List AObj) (x : AV) (K : List AV → Prop) : Prop :=
 match x with
 |.slice es []=>K es
 |.held (.inr (.inr (i,n)))=>zMZ H i fun o=>o.k = 2 ∧ n = o.c.length ∧ K o.c
 |.held (.inl (.slice none 0 0))=>K []
 |.slice _ [.held (.inl (.bool _))]=>K []
 |_=>False
def zfE (ek : Nat) (H : List AObj) (x ix : AV) (K : AV → Prop) : Prop :=
 match ix with
 |.held (.inl (.int k i))=>0 ≤ i ∧ (match x with
  |.slice _ [.held (.inr (.inl (q,n)))]=>i < n ∧ zMZ H q fun ob=>ob.k = 4 ∧ ob.z = zMH ek ∧ n = ob.c.length ∧ K (OP q (i.toNat * zMH ek))
  |x=>z8K H x fun es=>nth es i.toNat fun d=>(cellsOf d).length = zMH ek ∧ K (.ptr d))
 |_=>False
def loud : Op → Bool
 |.alloc _|.box ..|.store ..|.makeFunc ..|.mapUpdate ..|.makeMap ..=>true
 |.call { callee := .builtin .len, .. }=>false
 |.call _=>true
 |_=>false
def z4i (w : World) (S : SS) (μ : List Value) (H : List AObj) (a : Act) (o : Oper) (K : AV → List AObj → Prop) (a' : Act) (w' : World) : Prop :=
 ∃ d u H' S' μ',K d H' ∧ a' = a.put o.dst u ∧ rep S' μ' d u ∧ Rel w' S' μ' H' ∧ Step H.length w S μ H w' S' μ' H' ∧ (loud o.op = false → Below w.heap.size w w' ∧ μ' = μ ∧ H' = H ∧ ∀ b j d,S' b j d → S b j d ∨ w.heap.size ≤ b)
section ops
variable {P : Program} {G : Gl} {w : World} {S : SS} {μ : List Value} {H : List AObj} {a : Act} {o : Oper} {K : AV → List AObj → Prop} {Q : Exit → Act → World → Prop}
theorem z4v {d : AV} {u : Value} (hrel : Rel w S μ H) (hrun : (execOp a.eval o).run P w = .ok (.value u) w) (hK : K d H) (hr : rep S μ d u) : o.wp P a w (z4i w S μ H a o K) Q := by
 unfold Oper.wp
 rw [hrun]
 exact ⟨d,u,H,S,μ,hK,rfl,hr,hrel,Step.refl _ _ _ _ _,fun _=>⟨Below.refl _ _,rfl,rfl,fun _ _ _ h=>.inl h⟩⟩
theorem zxV {x : Operand} {d : AV} (hrel : Rel w S μ H) (ho : o.op = .move x ∨ o.op = .assign x) (hx : rep S μ d (a.eval x)) (hK : K d H) : o.wp P a w (z4i w S μ H a o K) Q := by
 refine z4v hrel ?_ hK hx
 rcases ho with ho|ho <;> (unfold execOp;rw [ho];rfl)
theorem zGC {op : BinOp} {t t' : TypeId} {x y : Operand} {d e : AV} (hrel : Rel w S μ H) (ho : o.op = .binOp op t x y t') (hx : rep S μ d (a.eval x)) (hy : rep S μ e (a.eval y)) (h : zMc P t op d e fun r=>K r H) :
  o.wp P a w (z4i w S μ H a o K) Q := by
 obtain ⟨r,hrun,h1,hK⟩ := zzJ h hx hy x y w
 refine z4v hrel ?_ hK (zsm h1)
 unfold execOp
 rw [ho]
 simp only [Sem.run_bind,hrun,Result.andThen_ok,Sem.run_pure]
theorem zKu {op : UnOp} {t : TypeId} {x : Operand} {d : AV} (hrel : Rel w S μ H) (ho : o.op = .unOp op t x) (hx : rep S μ d (a.eval x)) (h : aUn op d fun r=>K r H) :
  o.wp P a w (z4i w S μ H a o K) Q := by
 obtain ⟨r,hrun,h1,hK⟩ := zEO (P := P) h hx w
 refine z4v hrel ?_ hK (zsm h1)
 unfold execOp
 rw [ho]
 simp only [Sem.run_bind,hrun,Result.andThen_ok,Sem.run_pure]
def zug (c x y : AV) (K : AV → Prop) : Prop := match c with
 |.held (.inl (.bool b))=>K (if b then x else y)
 |_=>False
theorem zB5 {c x y : Operand} {dc dx dy : AV} (hrel : Rel w S μ H) (ho : o.op = .pick c x y) (hc : rep S μ dc (a.eval c)) (hx : rep S μ dx (a.eval x)) (hy : rep S μ dy (a.eval y)) (h : zug dc dx dy fun r=>K r H) :
  o.wp P a w (z4i w S μ H a o K) Q := by
 unfold zug at h
 split at h
 ·rename_i b
  obtain ⟨he,_⟩ := hc
  refine z4v (u := if b then a.eval x else a.eval y) hrel ?_ h ?_
  ·unfold execOp
   rw [ho]
   simp only [he,asBool,Sem.run_bind,Result.andThen_ok,Sem.run_pure]
  ·cases b
   ·exact hy
   ·exact hx
 ·exact h.elim
def zah (x : AV) (i : Nat) (K : AV → Prop) : Prop := match x with
 |.iface _ (.agg ds)=>nth ds i K
 |_=>False
theorem z7G {d : AV} {u : Value} (h : repA S μ d u) : rep S μ d u := by
 unfold rep
 split
 ·unfold repA at h;simp only at h;exact h.elim
 ·exact h
theorem zsv {x : Operand} {i : Nat} {d : AV} (hrel : Rel w S μ H) (ho : o.op = .extract x i) (hx : rep S μ d (a.eval x)) (h : zah d i fun r=>K r H) : o.wp P a w (z4i w S μ H a o K) Q := by
 unfold zah at h
 split at h
 ·obtain ⟨e,he,hK⟩ := h
  obtain ⟨us,hu,hl,hr⟩ := hx
  have hlt : i < us.length := by rw [hl];exact (List.getElem?_eq_some_iff.1 he).1
  refine z4v (u := us[i]) hrel ?_ hK (z7G (hr i e us[i] he (List.getElem?_eq_getElem hlt)))
  unfold execOp
  rw [ho]
  simp only [Instr.extract,hu]
  simp [hlt,Sem.run_pure]
 ·exact h.elim
theorem zk9 (hrel : Rel w S μ H) {b o : Nat} {cs : List AV} (h : ∀ (j : Nat) (y : AV),cs[j]? = some y → S b (o + j) y) :
  ∃ us : List Value,reps S [] cs us ∧ ∀ j v,us[j]? = some v → w.cell? ((⟨b,o,none⟩ : Addr).add j) = some v := by
 refine ⟨(List.range cs.length).map fun j=>(w.cell? ⟨b,o + j,none⟩).getD undef,⟨by simp,fun j d u hd hu=>?_⟩,fun j v hv=>?_⟩
 ·obtain ⟨u',h1,h2,h3⟩ := hrel.still _ _ _ (h j d hd)
  rw [List.getElem?_map,List.getElem?_range (List.getElem?_eq_some_iff.1 hd).1] at hu
  simp only [Option.map_some,Option.some.injEq,h1,Option.getD_some] at hu
  subst hu
  exact ⟨h2,h3⟩
 ·rw [List.getElem?_map] at hv
  have hj : j < cs.length := by
   rcases Nat.lt_or_ge j cs.length with h|h
   ·exact h
   ·rw [List.getElem?_eq_none (by simpa using h)] at hv;cases hv
  rw [List.getElem?_range hj] at hv
  obtain ⟨u',h1,h2,h3⟩ := hrel.still _ _ _ (h j cs[j] (List.getElem?_eq_getElem hj))
  simp only [Option.map_some,Option.some.injEq,h1,Option.getD_some] at hv
  subst hv
  rw [Addr.add_lit];exact h1
theorem zeN {d : AV} (h : ∀ cs,d ≠ DataW.agg cs) : cellsOf d = [d] := by
 cases d <;> first|rfl|exact absurd rfl (h _)
theorem zro {S : SS} {μ : List Value} {l : List AV} {us : List Value} {b : Nat} {cs : Array Value} {e : TypeId} (hb : w.heap[b]? = some (.cells cs e (0,0))) (hus : ∀ (j : Nat) (u : Value),us[j]? = some u → cs[j]? = some u) (hr : reps S μ l us) {k o : Nat} {K : AV → Prop} (h : z6R k l o K) {t : TypeId} (hk : z1T P t = k) :
  ∃ d u,K d ∧ rep S μ d u ∧ (loadVar t ⟨b,o,none⟩).run P w = .ok u w := by
 unfold z6R at h
 split at h
 ·rename_i h1
  obtain ⟨d,hd,hK⟩ := h
  have hlt : o < us.length := by rw [hr.1];exact (List.getElem?_eq_some_iff.1 hd).1
  have hh := hr.2 o d _ hd (List.getElem?_eq_getElem hlt)
  refine ⟨d,us[o],hK,z7G ?_,?_⟩
  ·unfold repA
   split
   ·exact hh.2.elim
   ·exact hh.2
  ·have := (zjA (P := P) (t := t) w (by rw [hk];exact h1)).1
   simp only [loadVar,Sem.run_bind,this,Result.andThen_ok]
   have hc : w.cell? ⟨b,o,none⟩ = some us[o] := by rw [cell_of_row w b o cs e (0,0) hb];exact hus o _ (List.getElem?_eq_getElem hlt)
   simp [load,Sem.run,hc]
 ·rename_i h1
  obtain ⟨h2,h3,hK⟩ := h
  obtain ⟨n,rfl⟩ : ∃ n,k = n + 2 := ⟨k - 2,by omega⟩
  simp only [Nat.add_sub_cancel] at h3 hK
  have hsz : (((us.drop o).take n)).length = n := by rw [List.length_take,List.length_drop,hr.1];omega
  refine ⟨_, .agg ((us.drop o).take n).toArray,hK,⟨_,rfl,by rw [hsz,List.length_take,List.length_drop];omega,fun j d u hd hu=>?_⟩,?_⟩
  ·rw [List.getElem?_take] at hd hu
   split at hd
   ·rw [if_pos (by assumption)] at hu
    rw [List.getElem?_drop] at hd hu
    exact hr.2 _ d u hd hu
   ·cases hd
  ·have hg := zjH (P := P) (t := t) w hk
   have hl := run_loadCells_list (P := P) w ⟨b,o,none⟩ ((us.drop o).take n) (fun j v hv=>by
    rw [Addr.add_lit,cell_of_row w b (o + j) cs e (0,0) hb]
    rw [List.getElem?_take] at hv
    split at hv
    ·rw [List.getElem?_drop] at hv;exact hus _ _ hv
    ·cases hv)
   rw [hsz] at hl
   simp only [loadVar,Sem.run_bind,hg.1,hg.2,Result.andThen_ok,hl,if_true,Sem.run_pure]
theorem zEs {S : SS} {μ : List Value} {H : List AObj} (hrel : Rel w S μ H) {i b : Nat} {x : Value} {ob : AObj} (hx : μ[i]? = some x) (ho : H[i]? = some ob) (hp : zzk x = some b) {l : List AV} (hl : (ob.k = 1 ∧ l = ob.c) ∨ (ob.k = 4 ∧ 0 < ob.c.length ∧ l = zN0 ob.c)) :
  ∃ cs us,w.heap[b]? = some (.cells cs ob.e (0,0)) ∧ reps S μ l us ∧ ∀ (j : Nat) (u : Value),us[j]? = some u → cs[j]? = some u := by
 rcases hl with ⟨hk,rfl⟩|⟨hk,h0,rfl⟩
 ·obtain ⟨b',cs,e1,hc,hr⟩ := (hrel.objs i x ob hx ho).1 hk
  subst e1
  simp only [zzk,Option.some.injEq] at hp
  subst hp
  exact ⟨cs,cs.toList,hc,hr,fun j u hu=>by simpa using hu⟩
 ·obtain ⟨A,c,e1,l1,l2,l3,hc⟩ := (hrel.objs i x ob hx ho).2.2.1 hk
  obtain ⟨b',cs,q1,q2,q3,q4⟩ := hc (by omega)
  subst e1 q1
  simp only [zzk,Option.some.injEq] at hp
  subst hp
  refine ⟨cs,_,q2,q4,fun j u hu=>?_⟩
  rw [List.getElem?_take] at hu
  split at hu
  ·simpa using hu
  ·cases hu
theorem zDm {t : TypeId} {x : Operand} {d : AV} (hrel : Rel w S μ H) (ho : o.op = .load t x) (hx : rep S μ d (a.eval x)) (h : zjK (z1T P t) H d fun r=>K r H) : o.wp P a w (z4i w S μ H a o K) Q := by
 have hex : ∀ ad : Addr,a.eval x = .pointer (some ad) → ∀ u,(loadVar t ad).run P w = .ok u w → (execOp a.eval o).run P w = .ok (.value u) w := by
  intro ad he u hl
  unfold execOp
  rw [ho]
  simp only [Instr.loadAt,he,Instr.sureAddr,Sem.run_bind,Sem.run_pure,Result.andThen_ok,hl]
 unfold zjK at h
 split at h
 ·rename_i cs
  obtain ⟨hk,hK⟩ := h
  obtain ⟨b,off,he,hs⟩ := hx
  obtain ⟨us,hr,hc⟩ := zk9 hrel (cs := cs) hs
  have hg := zjH (P := P) (t := t) w hk
  have hl := run_loadCells_list (P := P) w ⟨b,off,none⟩ us hc
  refine z4v hrel (hex _ he (.agg us.toArray) ?_) hK ⟨us,rfl,hr.free⟩
  simp only [loadVar,Sem.run_bind,hg.1,hg.2,Result.andThen_ok,← hr.1,hl,if_true,Sem.run_pure]
 ·rename_i d hne
  obtain ⟨hk,hK⟩ := h
  obtain ⟨b,off,he,hs⟩ := hx
  rw [zeN hne] at hs
  obtain ⟨u,h1,h2,h3⟩ := hrel.still _ _ _ (hs 0 d rfl)
  refine z4v hrel (hex _ he u ?_) hK (z7G ?_)
  ·have := (zjA (P := P) (t := t) w hk).1
   simp only [loadVar,Sem.run_bind,this,Result.andThen_ok]
   simp only [Nat.add_zero] at h1
   simp [load,Sem.run,h1]
  ·unfold repA
   split
   ·exact absurd rfl (hne _)
   ·exact h3.free
 ·rename_i i off
  obtain ⟨ob,hob,h⟩ := h
  obtain ⟨l,hl,hK⟩ := zry h
  obtain ⟨b,x',hμ,hp,he⟩ := hx
  obtain ⟨cs,us,hc,hr,hus⟩ := zEs hrel hμ hob hp hl
  obtain ⟨d,u,hK',hru,hrun⟩ := zro hc hus hr hK rfl
  exact z4v hrel (hex _ he u hrun) hK' hru
 ·exact h.elim
end ops
end Go.Proofs.Ytaaogcnjfkgnoaa

namespace Go.Proofs.Ytaaogcnjfkgnoaa
open Go.RowKit
section
variable {P : Program} {G : Gl} {w : World} {S : SS} {μ : List Value} {H : List AObj} {a : Act} {o : Oper} {K : AV → List AObj → Prop} {Q : Exit → Act → World → Prop}
theorem Rel.still_lt (hr : Rel w S μ H) {b j : Nat} {d : AV} (h : S b j d) : b < w.heap.size := by
 obtain ⟨u,hu,_⟩ := hr.still b j d h
 exact World.block_lt_of_cell? w _ hu
theorem Rel.grow {w' : World} {S' : SS} (hr : Rel w S μ H) (hb : Below w.heap.size w w') (h1 : ∀ b j d,S b j d → S' b j d) (h2 : ∀ b j d,S' b j d → S b j d ∨ w.heap.size ≤ b)
  (h3 : ∀ b j d,S' b j d → w.heap.size ≤ b → ∃ u,w'.cell? ⟨b,j,none⟩ = some u ∧ u.oneCell' = true ∧ rep1 S' [] d u) : Rel w' S' μ H ∧ Step H.length w S μ H w' S' μ H := by
 have he : Ext S μ S' μ := ⟨h1,fun i x hx=>⟨x,hx, .inl rfl⟩⟩
 have he0 : Ext S [] S' [] := ⟨h1,fun i x hx=>by simp at hx⟩
 refine ⟨⟨hr.len,fun b j d hs=>?_,hr.kinds,fun i x o hx ho=>?_,hr.sep,fun i x o b hx ho hk hbk j d hs=>?_⟩,⟨hb.os,hb.tape,hb.output,hb.size,fun b hlt _=>hb.block b hlt,h1,fun i x _ hx=>⟨x,hx, .inl rfl⟩,fun b j d hs hlt=>?_,fun b h _=>h⟩⟩
 ·rcases h2 b j d hs with q|q
  ·obtain ⟨u,hu,h4,h5⟩ := hr.still b j d q
   exact ⟨u,by rw [hb.cell (p := ⟨b,j,none⟩) (hr.still_lt q)];exact hu,h4,h5.ext he0⟩
  ·exact h3 b j d hs q
 ·by_cases hk : o.k = 0
  ·exact objRep.zero hk
  ·exact (hr.objs i x o hx ho).move he fun b hbk=>hb.block b (hr.own_lt hx ho hk hbk)
 ·rcases h2 b j d hs with q|q
  ·exact hr.apart i x o b hx ho hk hbk j d q
  ·have := hr.own_lt hx ho hk hbk;omega
 ·rcases h2 b j d hs with q|q
  ·exact .inl q
  ·omega
theorem zjJ {α : Type} (l : List α) (x : α) (i : Nat) (y : α) (h : (l ++ [x])[i]? = some y) : l[i]? = some y ∨ (i = l.length ∧ y = x) := by
 rcases Nat.lt_or_ge i l.length with hi|hi
 ·rw [List.getElem?_append_left hi] at h;exact .inl h
 ·rw [List.getElem?_append_right hi] at h
  rcases Nat.eq_zero_or_pos (i - l.length) with h0|h0
  ·rw [h0] at h;simp at h;exact .inr ⟨by omega,h.symm⟩
  ·rw [List.getElem?_eq_none (by simp;omega)] at h;cases h
theorem zwO {α : Type} (l : List α) (x : α) (i : Nat) (y : α) (h : l[i]? = some y) : (l ++ [x])[i]? = some y := by
 rw [List.getElem?_append_left (List.getElem?_eq_some_iff.1 h).1];exact h
theorem zmL (S : SS) (μ : List Value) (x : Value) : Ext S μ S (μ ++ [x]) := ⟨fun _ _ _ h=>h,fun i y hy=>⟨y,zwO _ _ _ _ hy, .inl rfl⟩⟩
theorem Rel.add (hr : Rel w S μ H) {x : Value} {o : AObj} (hk : o.k = 0 ∨ o.k = 1 ∨ o.k = 2 ∨ o.k = 4 ∨ o.k = 5) (ho : objRep w S (μ ++ [x]) x o) (hb : ∀ b,z60 x = some b → ¬ zLD μ H b ∧ ∀ j d,S b j d → o.k = 2 ∧ j < o.c.length * o.z) : Rel w S (μ ++ [x]) (H ++ [o]) := by
 have he := zmL S μ x
 have hgo : ∀ (i : Nat) (x' : Value) (o' : AObj),(μ ++ [x])[i]? = some x' → (H ++ [o])[i]? = some o' → (μ[i]? = some x' ∧ H[i]? = some o') ∨ (i = μ.length ∧ x' = x ∧ o' = o) := by
  intro i x' o' hx' ho'
  rcases zjJ _ _ _ _ hx' with q|⟨q,rfl⟩
  ·rcases zjJ _ _ _ _ ho' with q'|⟨q',rfl⟩
   ·exact .inl ⟨q,q'⟩
   ·have := (List.getElem?_eq_some_iff.1 q).1;rw [hr.len] at this;omega
  ·rcases zjJ _ _ _ _ ho' with q'|⟨q',rfl⟩
   ·have := (List.getElem?_eq_some_iff.1 q').1;rw [← hr.len] at this;omega
   ·exact .inr ⟨q,rfl,rfl⟩
 refine ⟨by simp [hr.len],hr.still,fun i x' o' hx' ho'=>?_,fun i x' o' hx' ho'=>?_,fun i i' x1 x2 o1 o2 b hx1 ho1 hk1 hb1 hx2 ho2 hk2 hb2=>?_,fun i x' o' b hx' ho' hk' hb' j d hs=>?_⟩
 ·rcases hgo i x' o' hx' ho' with ⟨q1,q2⟩|⟨_,rfl,rfl⟩
  ·exact hr.kinds i x' o' q1 q2
  ·exact hk
 ·rcases hgo i x' o' hx' ho' with ⟨q1,q2⟩|⟨_,rfl,rfl⟩
  ·exact (hr.objs i x' o' q1 q2).move he fun b _=>rfl
  ·exact ho
 ·rcases hgo i x1 o1 hx1 ho1 with ⟨q1,q2⟩|⟨e1,rfl,rfl⟩
  ·rcases hgo i' x2 o2 hx2 ho2 with ⟨q3,q4⟩|⟨e2,rfl,rfl⟩
   ·exact hr.sep i i' x1 x2 o1 o2 b q1 q2 hk1 hb1 q3 q4 hk2 hb2
   ·exact absurd ⟨i,x1,o1,q1,q2,hk1,hb1⟩ (hb b hb2).1
  ·rcases hgo i' x2 o2 hx2 ho2 with ⟨q3,q4⟩|⟨e2,rfl,rfl⟩
   ·exact absurd ⟨i',x2,o2,q3,q4,hk2,hb2⟩ (hb b hb1).1
   ·omega
 ·rcases hgo i x' o' hx' ho' with ⟨q1,q2⟩|⟨_,rfl,rfl⟩
  ·exact hr.apart i x' o' b q1 q2 hk' hb' j d hs
  ·exact (hb b hb').2 j d hs
theorem zDz {x : Value} {o : AObj} (hl : μ.length = H.length) {b : Nat} (h : zLD (μ ++ [x]) (H ++ [o]) b) : zLD μ H b ∨ (o.k ≠ 0 ∧ z60 x = some b) := by
 obtain ⟨i,x',o',hx',ho',hk',hb'⟩ := h
 rcases zjJ _ _ _ _ hx' with q|⟨q,rfl⟩
 ·rcases zjJ _ _ _ _ ho' with q'|⟨q',rfl⟩
  ·exact .inl ⟨i,x',o',q,q',hk',hb'⟩
  ·have := (List.getElem?_eq_some_iff.1 q).1;omega
 ·rcases zjJ _ _ _ _ ho' with q'|⟨q',rfl⟩
  ·have := (List.getElem?_eq_some_iff.1 q').1;omega
  ·exact .inr ⟨hk',hb'⟩
theorem Step.add {n : Nat} {w0 : World} {S0 : SS} {μ0 : List Value} {H0 : List AObj} (hs : Step n w0 S0 μ0 H0 w S μ H) (hl : μ.length = H.length) {x : Value} {o : AObj} (hb : ∀ b,z60 x = some b → w0.heap.size ≤ b) : Step n w0 S0 μ0 H0 w S (μ ++ [x]) (H ++ [o]) :=
 ⟨hs.os,hs.tape,hs.output,hs.size,hs.block,hs.still,fun i y hi hy=>by
  obtain ⟨x',hx',h1⟩ := hs.objs i y hi hy
  exact ⟨x',zwO _ _ _ _ hx',h1⟩,hs.old,fun b hob hlt=>by
  rcases zDz hl hob with q|⟨_,q⟩
  ·exact hs.mine b q hlt
  ·have := hb b q;omega⟩
theorem Rel.new (hr : Rel w S μ H) (e : TypeId) {c : List AV} {cs : List Value} (hc : reps S μ c cs) :
  Rel (w.alloc (.cells cs.toArray e)) S (μ ++ [.pointer (some ⟨w.heap.size,0,none⟩)]) (H ++ [⟨1,e,0,c⟩]) ∧
  Step H.length w S μ H (w.alloc (.cells cs.toArray e)) S (μ ++ [.pointer (some ⟨w.heap.size,0,none⟩)]) (H ++ [⟨1,e,0,c⟩]) := by
 obtain ⟨h1,h2⟩ := hr.grow (w' := w.alloc (.cells cs.toArray e)) ((Below.refl _ _).alloc (Nat.le_refl _) _) (fun _ _ _ h=>h) (fun _ _ _ h=>.inl h) (fun b j d h hb=>by have := hr.still_lt h;omega)
 refine ⟨h1.add (.inr (.inl rfl)) ⟨fun _=>⟨w.heap.size,cs.toArray,rfl,heap_alloc_new w _,by simpa using hc.ext (zmL S μ _)⟩,⟨fun h=>(by simp at h),fun h=>(by simp at h),fun h=>(by simp at h)⟩⟩ fun b hb=>?_,h2.add hr.len fun b hb=>?_⟩
 ·simp [z60] at hb;subst hb
  refine ⟨?_,fun j d h=>by have := hr.still_lt h;omega⟩
  rintro ⟨i,x,o,hx,ho,hk,hbk⟩
  have := hr.own_lt hx ho hk hbk;omega
 ·simp [z60] at hb;omega
theorem zjM {d : AV} {v : Value} (h : rep S μ d v) (hs : (cellsOf d).all zN7 = true) : reps S μ (cellsOf d) v.cells.toList := by
 unfold rep at h
 split at h
 ·simp [cellsOf,zN7] at hs
 ·unfold repA at h
  split at h
  ·obtain ⟨us,rfl,hr⟩ := h;exact hr
  ·rename_i hne
   rw [zeN hne] at hs ⊢
   have h1 := zsh h (by simpa using hs)
   have : v.cells.toList = [v] := by cases v <;> first|rfl|cases h1
   rw [this]
   refine ⟨rfl,fun j d u hd hu=>?_⟩
   rcases j with _|j
   ·simp at hd hu;subst hd;subst hu;exact ⟨h1,h⟩
   ·simp at hd
theorem zEJ {e : TypeId} {c : List AV} {cs : List Value} (hl : loud o.op = true) (hrel : Rel w S μ H) (hrun : (execOp a.eval o).run P w = .ok (.value (.pointer (some ⟨w.heap.size,0,none⟩))) (w.alloc (.cells cs.toArray e))) (hc : reps S μ c cs)
  (hK : K (OP H.length 0) (H ++ [⟨1,e,0,c⟩])) : o.wp P a w (z4i w S μ H a o K) Q := by
 obtain ⟨h1,h2⟩ := hrel.new e hc
 unfold Oper.wp
 rw [hrun]
 exact ⟨_,_,_,S,_,hK,rfl,⟨w.heap.size, .pointer (some ⟨w.heap.size,0,none⟩),by rw [← hrel.len];simp,rfl,rfl⟩,h1,h2,fun q=>by rw [hl] at q;cases q⟩
theorem zAc {t : TypeId} {c : List AV} (hrel : Rel w S μ H) (ho : o.op = .alloc t) (hz : zpm P t = some c) (hK : K (OP H.length 0) (H ++ [⟨1,t,0,c⟩])) : o.wp P a w (z4i w S μ H a o K) Q := by
 unfold zpm at hz
 cases hi : P.info? t with
 |none=>rw [hi] at hz;cases hz
 |some i =>
  rw [hi] at hz
  simp only [Option.map_some] at hz
  cases hzz : i.zero with
  |none=>rw [hzz] at hz;cases hz
  |some z =>
   rw [hzz] at hz
   simp only at hz
   split at hz
   ·rename_i hall
    injection hz with hz;subst hz
    refine zEJ (cs := z.cells.toList) (by rw [ho];rfl) hrel ?_ ⟨by simp,fun j d u hd hu=>?_⟩ hK
    ·unfold execOp
     rw [ho]
     simp [Instr.alloc,zeroValue,typeInfo,hi,hzz,newVar,newRow,newObj,Sem.run]
    ·rw [List.getElem?_map,hu] at hd
     simp at hd;subst hd
     have h1 : u.oneCell' = true := by
      rw [Array.all_eq_true_iff_forall_mem] at hall
      exact hall u (by rw [← Array.mem_toList_iff];exact List.mem_of_getElem? hu)
     exact ⟨h1,rfl,h1⟩
   ·cases hz
theorem zG4 {t : TypeId} {x : Operand} {d : AV} (hrel : Rel w S μ H) (ho : o.op = .box t x) (hx : rep S μ d (a.eval x)) (hs : (cellsOf d).all zN7 = true) (hK : K (OP H.length 0) (H ++ [⟨1,t,0,cellsOf d⟩])) : o.wp P a w (z4i w S μ H a o K) Q := by
 refine zEJ (cs := (a.eval x).cells.toList) (by rw [ho];rfl) hrel ?_ (zjM hx hs) hK
 unfold execOp
 rw [ho]
 simp [Instr.box,newVar,newRow,newObj,Sem.run]
theorem z5K {α : Type} : ∀ (xs l : List α) (o : Nat),(z09 l o xs).length = l.length
 |[],l,o=>rfl
 |x :: xs,l,o=>by simp [z09,z5K xs]
theorem z4L {α : Type} : ∀ (xs l : List α) (o : Nat),o + xs.length ≤ l.length → ∀ j,(z09 l o xs)[j]? = if o ≤ j ∧ j < o + xs.length then xs[j - o]? else l[j]?
 |[],l,o,_,j=>by simp only [z09,List.length_nil,Nat.add_zero];rw [if_neg (by omega)]
 |x :: xs,l,o,h,j=>by
  simp only [List.length_cons] at h
  simp only [z09]
  rw [z4L xs (l.set o x) (o + 1) (by simp;omega) j]
  simp only [List.length_cons]
  by_cases h1 : j = o
  ·subst h1
   rw [if_neg (by omega),if_pos (by omega)]
   simp
   rw [List.getElem?_set_self (by omega)]
  ·by_cases h2 : o + 1 ≤ j ∧ j < o + 1 + xs.length
   ·rw [if_pos h2,if_pos (by omega)]
    obtain ⟨q,rfl⟩ : ∃ q,j = o + 1 + q := ⟨j - (o + 1),by omega⟩
    rw [show o + 1 + q - (o + 1) = q by omega,show o + 1 + q - o = q + 1 by omega]
    simp
   ·rw [if_neg h2,if_neg (by omega),List.getElem?_set_ne (by omega)]
theorem Rel.write (hr : Rel w S μ H) {i b : Nat} {x : Value} {ob ob' : AObj} {cs' : Array Value} (hμ : μ[i]? = some x) (ho : H[i]? = some ob) (hk : ob.k = 1 ∨ ob.k = 4) (hkk : ob'.k = ob.k) (hbx : z60 x = some b) (hr' : objRep (w.setRow b cs') S μ x ob') :
  Rel (w.setRow b cs') S μ (H.set i ob') ∧ Step H.length w S μ H (w.setRow b cs') S μ (H.set i ob') := by
 have hown : zLD μ H b := ⟨i,_,ob,hμ,ho,by omega,hbx⟩
 have hget : ∀ (i' : Nat) (o' : AObj),(H.set i ob')[i']? = some o' → (i' = i ∧ o' = ob') ∨ (i' ≠ i ∧ H[i']? = some o') := by
  intro i' o' h
  by_cases e : i' = i
  ·subst e
   rw [List.getElem?_set_self (List.getElem?_eq_some_iff.1 ho).1] at h
   injection h with h
   exact .inl ⟨rfl,h.symm⟩
  ·rw [List.getElem?_set_ne (Ne.symm e)] at h;exact .inr ⟨e,h⟩
 have hne : ∀ (i' : Nat) (x' : Value) (o' : AObj) (b' : Nat),i' ≠ i → μ[i']? = some x' → H[i']? = some o' → o'.k ≠ 0 → z60 x' = some b' → b' ≠ b := by
  intro i' x' o' b' hn hx ho' hk' hb' e
  subst e
  exact hn (hr.sep i' i x' _ o' ob b' hx ho' hk' hb' hμ ho (by omega) hbx)
 have hns : ∀ j d,¬ S b j d := fun j d h=>by have := (hr.apart i _ ob b hμ ho (by omega) hbx j d h).1;omega
 have hoo : ∀ b',zLD μ (H.set i ob') b' → zLD μ H b' := by
  rintro b' ⟨i',x',o',hx',ho',hk',hb'⟩
  rcases hget i' o' ho' with ⟨rfl,rfl⟩|⟨hn,q⟩
  ·rw [hμ] at hx';injection hx' with hx';subst hx'
   exact ⟨i',_,ob,hμ,ho,by omega,hb'⟩
  ·exact ⟨i',x',o',hx',q,hk',hb'⟩
 refine ⟨⟨by simpa using hr.len,fun b' j d hs=>?_,fun i' x' o' hx' ho'=>?_,fun i' x' o' hx' ho'=>?_,fun i1 i2 x1 x2 o1 o2 b' hx1 ho1 hk1 hb1 hx2 ho2 hk2 hb2=>?_,fun i' x' o' b' hx' ho' hk' hb' j d hs=>?_⟩,⟨rfl,rfl,rfl,by simp,fun b' hb' hn=>?_,fun _ _ _ h=>h,fun i' x' _ hx'=>⟨x',hx', .inl rfl⟩,fun b' j d h _=>.inl h,fun b' h _=>hoo b' h⟩⟩
 ·obtain ⟨u,hu,r⟩ := hr.still b' j d hs
  have : b' ≠ b := fun e=>hns j d (e ▸ hs)
  exact ⟨u,by rw [World.cell?_of_block (w := w) (w' := w.setRow b cs') (a := ⟨b',j,none⟩) (setRow_other w b b' cs' this)];exact hu,r⟩
 ·rcases hget i' o' ho' with ⟨rfl,rfl⟩|⟨hn,q⟩
  ·omega
  ·exact hr.kinds i' x' o' hx' q
 ·rcases hget i' o' ho' with ⟨rfl,rfl⟩|⟨hn,q⟩
  ·rw [hμ] at hx';injection hx' with hx';subst hx'
   exact hr'
  ·by_cases hk0 : o'.k = 0
   ·exact objRep.zero hk0
   ·exact (hr.objs i' x' o' hx' q).move (Ext.refl _ _) fun b' hb'=>setRow_other w b b' cs' (hne i' x' o' b' hn hx' q hk0 hb')
 ·have f : ∀ (i' : Nat) (x' : Value) (o' : AObj),μ[i']? = some x' → (H.set i ob')[i']? = some o' → o'.k ≠ 0 → ∃ o2,H[i']? = some o2 ∧ o2.k ≠ 0 := by
   intro i' x' o' _ h hk'
   rcases hget i' o' h with ⟨rfl,rfl⟩|⟨_,q⟩
   ·exact ⟨ob,ho,by omega⟩
   ·exact ⟨o',q,hk'⟩
  obtain ⟨o3,q3,q4⟩ := f i1 x1 o1 hx1 ho1 hk1
  obtain ⟨o5,q5,q6⟩ := f i2 x2 o2 hx2 ho2 hk2
  exact hr.sep i1 i2 x1 x2 o3 o5 b' hx1 q3 q4 hb1 hx2 q5 q6 hb2
 ·rcases hget i' o' ho' with ⟨rfl,rfl⟩|⟨hn,q⟩
  ·rw [hμ] at hx';injection hx' with hx';subst hx'
   rw [hbx] at hb';injection hb' with hb';subst hb'
   exact absurd hs (hns j d)
  ·exact hr.apart i' x' o' b' hx' q hk' hb' j d hs
 ·exact setRow_other w b b' cs' (fun e=>hn (e ▸ hown))
theorem ztx {z : Nat} : ∀ {es : List AV} (_ : allC z es) (i : Nat) (_ : i < es.length) (x : AV) (_ : (cellsOf x).length = z),zN0 (es.set i x) = z09 (zN0 es) (i * z) (cellsOf x) ∧ allC z (es.set i x)
 |[],_,i,hi,_,_=>by simp at hi
 |d :: es,h,0,_,x,hx=>by
  have h0 := h d (List.mem_cons_self ..)
  refine ⟨?_,fun y hy=>?_⟩
  ·apply List.ext_getElem?
   intro j
   rw [z4L _ _ _ (by simp only [zN0,List.flatMap_cons,List.length_append];omega)]
   simp only [List.set_cons_zero,zN0,List.flatMap_cons,Nat.zero_mul,Nat.zero_le,true_and,Nat.zero_add,Nat.sub_zero]
   split
   ·rename_i q;rw [List.getElem?_append_left q]
   ·rename_i q
    rw [List.getElem?_append_right (by omega),List.getElem?_append_right (by omega),hx,h0]
  ·rcases List.mem_cons.1 hy with rfl|hy
   ·exact hx
   ·exact h y (List.mem_cons_of_mem _ hy)
 |d :: es,h,i + 1,hi,x,hx=>by
  have h0 := h d (List.mem_cons_self ..)
  have ht : allC z es := fun y hy=>h y (List.mem_cons_of_mem _ hy)
  obtain ⟨e1,e2⟩ := ztx ht i (by simpa using hi) x hx
  have hfl := z3Y ht
  have hmul : (i + 1) * z ≤ es.length * z := Nat.mul_le_mul_right _ (Nat.succ_le_of_lt (by simpa using hi))
  have hs : (i + 1) * z = i * z + z := Nat.succ_mul i z
  refine ⟨?_,fun y hy=>?_⟩
  ·have e3 : zN0 (d :: es.set i x) = cellsOf d ++ zN0 (es.set i x) := rfl
   have e4 : zN0 (d :: es) = cellsOf d ++ zN0 es := rfl
   rw [List.set_cons_succ,e3,e1,e4]
   apply List.ext_getElem?
   intro j
   rw [z4L _ _ _ (by rw [List.length_append,hfl];omega)]
   rcases Nat.lt_or_ge j z with hj|hj
   ·rw [List.getElem?_append_left (by omega),if_neg (by omega),List.getElem?_append_left (by omega)]
   ·rw [List.getElem?_append_right (by omega),z4L _ _ _ (by rw [hfl];omega),List.getElem?_append_right (l₁ := cellsOf d) (l₂ := zN0 es) (by omega),h0]
    by_cases hc : i * z ≤ j - z ∧ j - z < i * z + (cellsOf x).length
    ·rw [if_pos hc,if_pos (by omega)]
     congr 1;omega
    ·rw [if_neg hc,if_neg (by omega)]
  ·rcases List.mem_cons.1 hy with rfl|hy
   ·exact h0
   ·exact e2 y hy
theorem zzU {t : TypeId} {x y : Operand} {d e : AV} (hrel : Rel w S μ H) (ho : o.op = .store t x y) (hx : rep S μ d (a.eval x)) (hy : rep S μ e (a.eval y)) (h : zpz (z1T P t) H d e fun H'=>K .nil H') :
  o.wp P a w (z4i w S μ H a o K) Q := by
 unfold zpz at h
 split at h
 ·rename_i i off
  obtain ⟨ob,hob,hk0,hlen,hsure,h⟩ := h
  obtain ⟨b,x',hμ,hp,he⟩ := hx
  have hry := zjM hy hsure
  have hsz := zfQ (P := P) (t := t) w hk0
  have hcl : (a.eval y).cells.size = zMH (z1T P t) := by rw [← hlen,← hry.1];simp
  have h1c : ∀ v ∈ (a.eval y).cells.toList,v.oneCell' = true := fun v hv=>by
   obtain ⟨j,hj⟩ := List.getElem?_of_mem hv
   have hlt : j < (cellsOf e).length := by rw [← hry.1];exact (List.getElem?_eq_some_iff.1 hj).1
   exact (hry.2 j _ v (List.getElem?_eq_getElem hlt) hj).1
  have hput : ∀ (l : List AV) (us rest : List Value),reps S μ l us → off + zMH (z1T P t) ≤ l.length → reps S μ (z09 l off (cellsOf e)) (us.take off ++ (a.eval y).cells.toList ++ us.drop (off + (a.eval y).cells.toList.length)) := by
   intro l us _ hr hfit
   have hl1 := hr.1
   have hl2 := hry.1
   refine ⟨?_,fun j d u hd hu=>?_⟩
   ·rw [z5K]
    simp only [List.length_append,List.length_take,List.length_drop]
    omega
   ·rw [z4L _ _ _ (by omega)] at hd
    split at hd
    ·rename_i hjj
     rw [List.append_assoc,List.getElem?_append_right (by rw [List.length_take];omega),List.length_take,List.getElem?_append_left (by omega),Nat.min_eq_left (by omega)] at hu
     exact hry.2 _ d u hd hu
    ·rename_i hjj
     rcases Nat.lt_or_ge j off with hlt|hge
     ·rw [List.append_assoc,List.getElem?_append_left (by rw [List.length_take];omega),List.getElem?_take,if_pos hlt] at hu
      exact hr.2 j d u hd hu
     ·rw [List.append_assoc,List.getElem?_append_right (by rw [List.length_take];omega),List.length_take,List.getElem?_append_right (by omega),List.getElem?_drop] at hu
      exact hr.2 j d u hd (by rw [← hu];congr 1;omega)
  have hst : ∀ cs : Array Value,w.heap[b]? = some (.cells cs ob.e (0,0)) → off + zMH (z1T P t) ≤ cs.size →
    (execOp a.eval o).run P w = .ok .skip (w.setRow b (cs.toList.take off ++ (a.eval y).cells.toList ++ cs.toList.drop (off + (a.eval y).cells.toList.length)).toArray) := by
   intro cs hc hfit
   have hst := run_storeCells_at P b off ob.e (a.eval y).cells.toList 0 cs w hc (by simp only [Array.length_toList,Nat.add_zero];rw [hcl];omega) h1c
   simp only [Nat.add_zero] at hst
   unfold execOp
   rw [ho]
   simp only [Instr.storeAt,he,Instr.sureAddr,storeVar,Sem.run_bind,Sem.run_pure,Result.andThen_ok,hsz,hcl,ne_eq,not_true_eq_false,if_false,hst]
  split at h
  ·rename_i hk1
   obtain ⟨hfit,hK⟩ := h
   obtain ⟨b',cs,e1,hc,hr⟩ := (hrel.objs i _ ob hμ hob).1 hk1
   subst e1
   simp only [zzk,Option.some.injEq] at hp
   subst hp
   obtain ⟨h1,h2⟩ := hrel.write (ob' := { ob with c := z09 ob.c off (cellsOf e) }) (cs' := (cs.toList.take off ++ (a.eval y).cells.toList ++ cs.toList.drop (off + (a.eval y).cells.toList.length)).toArray) hμ hob (.inl hk1) rfl rfl
    ⟨fun _=>⟨b',_,rfl,setRow_heap w b' cs _ ob.e (0,0) hc,by simpa using hput _ _ [] hr hfit⟩,fun q=>by simp only at q;omega,fun q=>by simp only at q;omega,fun q=>by simp only at q;omega⟩
   unfold Oper.wp
   rw [hst cs hc (by rw [← Array.length_toList,hr.1];exact hfit)]
   exact ⟨.nil,undef,_,S,μ,hK,rfl,trivial,h1,h2,fun q=>by rw [ho] at q;cases q⟩
  ·rename_i hk4
   obtain ⟨hz0,hzz,hmod,hlt,hK⟩ := h
   obtain ⟨A,c,e1,l1,l2,l3,hc⟩ := (hrel.objs i _ ob hμ hob).2.2.1 hk4
   have hpos : 0 < ob.c.length := Nat.lt_of_le_of_lt (Nat.zero_le _) hlt
   obtain ⟨b',cs,q1,q2,q3,q4⟩ := hc (by omega)
   subst e1 q1
   simp only [zzk,Option.some.injEq] at hp
   subst hp
   have hoff : off / ob.z * ob.z = off := by have := Nat.div_add_mod off ob.z;rw [Nat.mul_comm] at this;omega
   have hm1 : off / ob.z * ob.z + ob.z ≤ ob.c.length * ob.z := by rw [← Nat.succ_mul];exact Nat.mul_le_mul_right _ hlt
   have hm2 : ob.c.length * ob.z ≤ c * ob.z := Nat.mul_le_mul_right _ l1
   obtain ⟨f1,f2⟩ := ztx l3 (off / ob.z) hlt e (by rw [hlen,hzz])
   have hfl := z3Y l3
   have hcsl : cs.toList.length = c * ob.z := by rw [Array.length_toList,q3]
   have hyl : (a.eval y).cells.toList.length = ob.z := by rw [Array.length_toList,hcl,hzz]
   have hnew := hput _ _ [] q4 (by rw [hfl];omega)
   have hob2 : objRep (w.setRow b' (cs.toList.take off ++ (a.eval y).cells.toList ++ cs.toList.drop (off + (a.eval y).cells.toList.length)).toArray) S μ (MR (some ⟨b',0,none⟩) ob.c.length c) { ob with c := ob.c.set (off / ob.z) e } := by
    refine ⟨fun q=>by simp only at q;omega,fun q=>by simp only at q;omega,fun _=>⟨some ⟨b',0,none⟩,c,by simp,by simpa using l1,l2,f2,fun _=>⟨b',_,rfl,setRow_heap w b' cs _ ob.e (0,0) q2,?_,?_⟩⟩,fun q=>by simp only at q;omega⟩
    ·simp only [List.size_toArray,List.length_append,List.length_take,List.length_drop,hyl,hcsl]
     omega
    ·rw [hoff] at f1
     simp only [List.length_set]
     rw [f1]
     have : (cs.toList.take off ++ (a.eval y).cells.toList ++ cs.toList.drop (off + (a.eval y).cells.toList.length)).toArray.toList.take (ob.c.length * ob.z) = (cs.toList.take (ob.c.length * ob.z)).take off ++ (a.eval y).cells.toList ++ (cs.toList.take (ob.c.length * ob.z)).drop (off + (a.eval y).cells.toList.length) := by
      simp only [List.append_assoc,hyl]
      rw [List.take_append,List.take_append,List.take_take,List.take_take,List.length_take,hyl,hcsl,List.drop_take,List.take_of_length_le (l := (a.eval y).cells.toList) (by rw [hyl];omega)]
      congr 1
      ·congr 1;omega
      ·congr 1
       congr 1;omega
     rw [this]
     exact hnew
   obtain ⟨h1,h2⟩ := hrel.write (ob' := { ob with c := ob.c.set (off / ob.z) e }) hμ hob (.inr hk4) rfl (by simp only [z60];rw [if_neg (by omega)]) hob2
   unfold Oper.wp
   rw [hst cs q2 (by rw [q3];omega)]
   exact ⟨.nil,undef,_,S,μ,hK,rfl,trivial,h1,h2,fun q=>by rw [ho] at q;cases q⟩
  ·exact h.elim
 ·exact h.elim
end
end Go.Proofs.Ytaaogcnjfkgnoaa

namespace Go.Proofs.Ytaaogcnjfkgnoaa
open Go.RowKit
section
variable {P : Program} {G : Gl} {w : World} {S : SS} {μ : List Value} {H : List AObj} {a : Act} {o : Oper} {K : AV → List AObj → Prop} {Q : Exit → Act → World → Prop}
theorem zn1 {s : TypeId} {f off k : Nat} (h : zmw P s f = some (off,k)) : ∃ fs fd,P.underlying s = some (.struct fs) ∧ fs[f]? = some fd ∧ fd.offset = off ∧ z1T P fd.type = k ∧ k ≠ 0 ∧ zMH k ≠ 0 := by
 unfold zmw at h
 cases hu : P.underlying s with
 |none=>rw [hu] at h;cases h
 |some d =>
  rw [hu] at h
  cases d <;> simp only at h <;> try (cases h;done)
  rename_i fs
  cases hf : fs[f]? with
  |none=>rw [hf] at h;cases h
  |some fd =>
   rw [hf] at h
   simp only at h
   split at h
   ·cases h
   ·rename_i hn
    injection h with h;injection h with h1 h2
    rw [h2] at hn
    exact ⟨fs,fd,rfl,hf,h1,h2,fun e=>hn (.inl e),fun e=>hn (.inr e)⟩
theorem zpV {k : Nat} {l : List AV} {off : Nat} {K : AV → Prop} (h : z6R k l off K) (hk : k ≠ 0) : ∃ d,K d ∧ ∀ (j : Nat) (y : AV),(cellsOf d)[j]? = some y → l[off + j]? = some y ∨ (∃ cs,l[off]? = some (.agg cs)) := by
 unfold z6R at h
 split at h
 ·obtain ⟨d,hd,hK⟩ := h
  refine ⟨d,hK,fun j y hy=>?_⟩
  by_cases ha : ∃ cs,d = .agg cs
  ·obtain ⟨cs,rfl⟩ := ha;exact .inr ⟨cs,hd⟩
  ·rw [zeN (fun cs e=>ha ⟨cs,e⟩)] at hy
   rcases j with _|j
   ·simp at hy;subst hy;exact .inl hd
   ·simp at hy
 ·obtain ⟨h2,h3,hK⟩ := h
  refine ⟨_,hK,fun j y hy=>.inl ?_⟩
  simp only [cellsOf] at hy
  rw [List.getElem?_take] at hy
  split at hy
  ·rw [List.getElem?_drop] at hy;exact hy
  ·cases hy
theorem zqC {s : TypeId} {x : Operand} {f : Nat} {d : AV} (hrel : Rel w S μ H) (ho : o.op = .fieldAddr s x f) (hx : rep S μ d (a.eval x)) (h : zm6 (zmw P s f) d fun r=>K r H) : o.wp P a w (z4i w S μ H a o K) Q := by
 unfold zm6 at h
 split at h
 ·rename_i off k hfk
  obtain ⟨fs,fd,hu,hf,rfl,rfl,hk,hz⟩ := zn1 hfk
  have hsz := zfQ (P := P) (t := fd.type) w hk
  have hex : ∀ b q,a.eval x = .pointer (some ⟨b,q,none⟩) → (execOp a.eval o).run P w = .ok (.value (.pointer (some ⟨b,q + fd.offset,none⟩))) w := by
   intro b q he
   unfold execOp
   rw [ho]
   simp only [Instr.fieldAt,run_underlying hu,Sem.run_bind,Result.andThen_ok,hf,he,Instr.sureAddr,Sem.run_pure,fieldPlace,hsz,hz,if_false,Addr.add_lit]
  split at h
  ·rename_i cs
   obtain ⟨b,q,he,hs⟩ := hx
   obtain ⟨d,hK,hd⟩ := zpV h hk
   refine z4v hrel (hex b q he) hK ⟨b,q + fd.offset,rfl,fun j y hy=>?_⟩
   rcases hd j y hy with h1|⟨cs',h1⟩
   ·rw [Nat.add_assoc];exact hs _ y h1
   ·obtain ⟨u,_,_,h5⟩ := hrel.still _ _ _ (hs _ _ h1)
    exact h5.elim
  ·rename_i i q
   obtain ⟨b,x',hμ,hp,he⟩ := hx
   exact z4v hrel (hex b q he) h ⟨b,x',hμ,hp,rfl⟩
  ·exact h.elim
 ·exact h.elim
theorem zAd {s : TypeId} {x : Operand} {f : Nat} {d : AV} (hrel : Rel w S μ H) (ho : o.op = .field s x f) (hx : rep S μ d (a.eval x)) (h : zfj (zmw P s f) d fun r=>K r H) : o.wp P a w (z4i w S μ H a o K) Q := by
 unfold zfj at h
 split at h
 ·rename_i off k hfk
  obtain ⟨fs,fd,hu,hf,rfl,rfl,hk,hz⟩ := zn1 hfk
  split at h
  ·rename_i cs
   obtain ⟨us,he,hr⟩ := hx
   have hex : ∀ v,(part fd.type us.toArray fd.offset).run P w = .ok v w → (execOp a.eval o).run P w = .ok (.value v) w := by
    intro v hp
    unfold execOp
    rw [ho]
    simp only [Instr.field,run_underlying hu,Sem.run_bind,Result.andThen_ok,hf,he,asAgg,Sem.run_pure,hp]
   unfold z6R at h
   split at h
   ·rename_i h1
    obtain ⟨d,hd,hK⟩ := h
    have hlt : fd.offset < us.length := by rw [hr.1];exact (List.getElem?_eq_some_iff.1 hd).1
    have hh := hr.2 _ d _ hd (List.getElem?_eq_getElem hlt)
    refine z4v hrel (hex us[fd.offset] ?_) hK (z7G ?_)
    ·simp only [part,Sem.run_bind,(zjA (P := P) (t := fd.type) w h1).1,Result.andThen_ok]
     simp [hlt,Sem.run_pure]
    ·unfold repA
     split
     ·exact hh.2.elim
     ·exact hh.2
   ·obtain ⟨h2,h3,hK⟩ := h
    obtain ⟨n,hn⟩ : ∃ n,z1T P fd.type = n + 2 := ⟨z1T P fd.type - 2,by omega⟩
    rw [hn] at h3 hK
    simp only [Nat.add_sub_cancel] at h3 hK
    have hg := zjH (P := P) (t := fd.type) w hn
    refine z4v hrel (hex (.agg (us.toArray.extract fd.offset (fd.offset + n))) ?_) hK ⟨(us.drop fd.offset).take n,by simp [List.extract_eq_take_drop],by rw [List.length_take,List.length_take,List.length_drop,List.length_drop,hr.1],fun j d u hd hu'=>?_⟩
    ·simp only [part,Sem.run_bind,hg.1,hg.2,Result.andThen_ok,if_true,Sem.run_pure]
    ·rw [List.getElem?_take] at hd hu'
     split at hd
     ·rw [if_pos (by assumption)] at hu'
      rw [List.getElem?_drop] at hd hu'
      exact hr.2 _ d u hd hu'
     ·cases hd
  ·exact h.elim
 ·exact h.elim
theorem zm3 (hrel : Rel w S μ H) {d : AV} {v : Value} (hx : rep S μ d v) {K : List AV → Prop} (h : z8K H d K) :
  ∃ es A c,K es ∧ v = .slice A es.length c ∧ es.length ≤ c ∧ c ≤ maxLen ∧ (es ≠ [] → ∃ b o z,A = some ⟨b,o,none⟩ ∧ inS S b o z es) := by
 unfold z8K at h
 split at h
 ·rename_i es
  obtain ⟨A,c,he,h1,h2,h3⟩ := hx
  exact ⟨es,A,c,h,he,h1,h2,h3⟩
 ·rename_i i n
  obtain ⟨ob,hob,hk,rfl,hK⟩ := h
  obtain ⟨A,m,c,A',c',hμ,hle,he,heq⟩ := hx
  obtain ⟨us,A2,c2,e2,l1,l2,hown,hin⟩ := (hrel.objs i _ ob hμ hob).2.1 hk
  injection e2 with e2 e3 e4
  subst e2 e4
  obtain ⟨rfl,rfl⟩ := heq e3.symm
  refine ⟨ob.c,A',c',hK,he,l1,l2,fun hne=>?_⟩
  obtain ⟨b,e5,e6⟩ := hin hne
  exact ⟨b,0,ob.z,e5,e6⟩
 ·obtain ⟨rfl,_⟩ := hx
  exact ⟨[],none,0,h,rfl,Nat.le_refl _,Nat.zero_le _,fun hne=>absurd rfl hne⟩
 ·obtain ⟨A,rfl⟩ := hx
  exact ⟨[],A,0,h,rfl,Nat.le_refl _,Nat.zero_le _,fun hne=>absurd rfl hne⟩
 ·exact h.elim
theorem zce {t e : TypeId} {k : Nat} (h : zeD P t = some (e,k)) : P.underlying t = some (.slice e) ∧ z1T P e = k ∧ k ≠ 0 ∧ zMH k ≠ 0 := by
 unfold zeD at h
 cases hu : P.underlying t with
 |none=>rw [hu] at h;cases h
 |some d =>
  rw [hu] at h
  cases d <;> simp only at h <;> try (cases h;done)
  split at h
  ·cases h
  ·rename_i hn
   injection h with h;injection h with h1 h2
   subst h1
   rw [h2] at hn
   exact ⟨rfl,h2,fun e=>hn (.inl e),fun e=>hn (.inr e)⟩
theorem zn0 {t : TypeId} {n k : Nat} (h : zl1 P t = some (n,k)) : ∃ e,P.underlying t = some (.array n e) ∧ z1T P e = k ∧ k ≠ 0 ∧ zMH k ≠ 0 := by
 unfold zl1 at h
 cases hu : P.underlying t with
 |none=>rw [hu] at h;cases h
 |some d =>
  rw [hu] at h
  cases d <;> simp only at h <;> try (cases h;done)
  split at h
  ·cases h
  ·rename_i hn
   injection h with h;injection h with h1 h2
   subst h1
   rw [h2] at hn
   exact ⟨_,rfl,h2,fun e=>hn (.inl e),fun e=>hn (.inr e)⟩
def zed (P : Program) (t : TypeId) (H : List AObj) (x ix : AV) (K : AV → Prop) : Prop :=
 match zeD P t with
 |some (_,ek)=>zfE ek H x ix K
 |none=>match zl1 P t with
  |some (n,ek)=>match ix with
   |.held (.inl (.int _ i))=>0 ≤ i ∧ i < n ∧ (match x with
    |.ptr (.agg cs)=>z6R ek cs (i.toNat * zMH ek) fun d=>K (.ptr d)
    |.held (.inr (.inl (j,q)))=>K (OP j (q + i.toNat * zMH ek))
    |_=>False)
   |_=>False
  |none=>False
theorem zqf {t : TypeId} {x y : Operand} {d e : AV} (hrel : Rel w S μ H) (ho : o.op = .indexAddr t x y) (hx : rep S μ d (a.eval x)) (hy : rep S μ e (a.eval y)) (h : zed P t H d e fun r=>K r H) : o.wp P a w (z4i w S μ H a o K) Q := by
 unfold zed at h
 split at h
 ·rename_i et ek hst
  obtain ⟨hu,rfl,hk,hz⟩ := zce hst
  have hsz := zfQ (P := P) (t := et) w hk
  unfold zfE at h
  split at h
  ·rename_i ki i
   obtain ⟨h0,hel⟩ := h
   obtain ⟨hi,_⟩ := hy
   split at hel
   ·rename_i q n
    obtain ⟨hlt',ob,hob,hk4,hzz,rfl,hK⟩ := hel
    obtain ⟨A,c,hμ,hv,h1,h2⟩ := hx
    obtain ⟨A2,c2,e1,_,_,_,hc⟩ := (hrel.objs q _ ob hμ hob).2.2.1 hk4
    have e1 := List.cons.inj (Array.mk.inj (Value.tuple.inj e1)) |>.1
    injection e1 with e1 e2 e3
    subst e1 e3
    obtain ⟨b,cs,rfl,q2,_⟩ := hc (by omega)
    refine z4v (u := .pointer (some ⟨b,0 + i.toNat * zMH (z1T P et),none⟩)) hrel ?_ hK ⟨b,_,hμ,rfl,by rw [Nat.zero_add]⟩
    unfold execOp
    rw [ho]
    simp only [Instr.indexAt,hi,hv,asIntOf,run_underlying hu,Sem.run_bind,Sem.run_pure,Result.andThen_ok,hsz,h0,hlt',and_self,if_true,Addr.add_lit]
   rename_i hnp
   obtain ⟨es,A,c,⟨dd,hd,hdl,hK⟩,hv,h1,h2,h3⟩ := zm3 hrel hx hel
   have hlt : i.toNat < es.length := (List.getElem?_eq_some_iff.1 hd).1
   obtain ⟨b,q,z,rfl,hin⟩ := h3 (by intro e;subst e;simp at hlt)
   obtain ⟨hz1,hz2⟩ := hin _ dd hd
   refine z4v (u := .pointer (some ⟨b,q + i.toNat * zMH (z1T P et),none⟩)) hrel ?_ hK ⟨b,_,rfl,fun j y hy=>?_⟩
   ·unfold execOp
    rw [ho]
    have hlt' : i < es.length := by omega
    simp only [Instr.indexAt,hi,hv,asIntOf,run_underlying hu,Sem.run_bind,Sem.run_pure,Result.andThen_ok,hsz,h0,hlt',and_self,if_true,Addr.add_lit]
   ·have := hz2 j y hy
    rw [← hdl,hz1];exact this
  ·exact h.elim
 ·split at h
  ·rename_i n ek hat
   obtain ⟨et,hu,rfl,hk,hz⟩ := zn0 hat
   have hsz := zfQ (P := P) (t := et) w hk
   split at h
   ·rename_i ki i
    obtain ⟨h0,h1,h⟩ := h
    obtain ⟨hi,_⟩ := hy
    have hex : ∀ b q,a.eval x = .pointer (some ⟨b,q,none⟩) → (execOp a.eval o).run P w = .ok (.value (.pointer (some ⟨b,q + i.toNat * zMH (z1T P et),none⟩))) w := by
     intro b q he
     unfold execOp
     rw [ho]
     simp only [Instr.indexAt,hi,he,asIntOf,run_underlying hu,Instr.sureAddr,Sem.run_bind,Sem.run_pure,Result.andThen_ok,hsz,h0,h1,and_self,if_true,Addr.add_lit]
    split at h
    ·rename_i cs
     obtain ⟨b,q,he,hs⟩ := hx
     obtain ⟨d,hK,hd⟩ := zpV h hk
     refine z4v hrel (hex b q he) hK ⟨b,_,rfl,fun j y hy=>?_⟩
     rcases hd j y hy with h1|⟨cs',h1⟩
     ·rw [Nat.add_assoc];exact hs _ y h1
     ·obtain ⟨u,_,_,h5⟩ := hrel.still _ _ _ (hs _ _ h1)
      exact h5.elim
    ·rename_i j q
     obtain ⟨b,x',hμ,hp,he⟩ := hx
     exact z4v hrel (hex b q he) h ⟨b,x',hμ,hp,rfl⟩
    ·exact h.elim
   ·exact h.elim
  ·exact h.elim
def zNC (P : Program) (t : TypeId) (H : List AObj) (x : AV) (K : AV → Prop) : Prop :=
 match x with
 |.held (.inl (.string s))=>P.underlying t = some .string ∧ K (V (.int .i64 s.size))
 |.slice _ [.held (.inr (.inl (_,n)))]=>(zeD P t).isSome = true ∧ K (V (.int .i64 n))
 |.held (.inr (.inr (_,n)))=>(zeD P t).isSome = true ∧ K (V (.int .i64 n))
 |x=>(zeD P t).isSome = true ∧ z8K H x fun es=>K (V (.int .i64 es.length))
theorem zG2 {x : Operand} {t : TypeId} {d : AV} (hrel : Rel w S μ H) (ho : o.op = .call { callee := .builtin .len,args := #[x],argTypes := #[t] }) (hx : rep S μ d (a.eval x)) (h : zNC P t H d fun r=>K r H) : o.wp P a w (z4i w S μ H a o K) Q := by
 have hex : ∀ n : Int,(Builtin.len_ #[t] o.type #[a.eval x]).run P w = .ok (.int .i64 n) w → (execOp a.eval o).run P w = .ok (.value (.int .i64 n)) w := by
  intro n hl
  unfold execOp
  rw [ho]
  simp only [resolve,invoke,builtin,Sem.run_bind,Sem.run_pure,Result.andThen_ok,List.map_toArray,List.map_cons,List.map_nil,hl]
 unfold zNC at h
 split at h
 ·obtain ⟨hu,hK⟩ := h
  obtain ⟨he,_⟩ := hx
  refine z4v hrel (hex _ ?_) hK (zsm rfl)
  rw [he]
  simp [Builtin.len_,run_underlying hu,goInt]
 ·obtain ⟨hs,hK⟩ := h
  obtain ⟨⟨et,ek⟩,hst⟩ := Option.isSome_iff_exists.1 hs
  obtain ⟨hu,_⟩ := zce hst
  obtain ⟨A,c,hμ,hv,h1,h2⟩ := hx
  refine z4v hrel (hex _ ?_) hK (zsm rfl)
  rw [hv]
  simp [Builtin.len_,run_underlying hu,goInt]
 ·obtain ⟨hs,hK⟩ := h
  obtain ⟨⟨et,ek⟩,hst⟩ := Option.isSome_iff_exists.1 hs
  obtain ⟨hu,_⟩ := zce hst
  obtain ⟨A,m,c,A',c',_,_,hv,_⟩ := hx
  refine z4v hrel (hex _ ?_) hK (zsm rfl)
  rw [hv]
  simp [Builtin.len_,run_underlying hu,goInt]
 ·obtain ⟨hs,hel⟩ := h
  obtain ⟨⟨et,ek⟩,hst⟩ := Option.isSome_iff_exists.1 hs
  obtain ⟨hu,_⟩ := zce hst
  obtain ⟨es,A,c,hK,hv,_⟩ := zm3 hrel hx hel
  refine z4v hrel (hex _ ?_) hK (zsm rfl)
  rw [hv]
  simp [Builtin.len_,run_underlying hu,goInt]
def zMO (x : AV) (K : AV → Prop) : Prop := match x with
 |.held (.inr (.inl (i,q)))=>K (OP i q)
 |.ptr d=>K (.ptr d)
 |_=>False
theorem zrS {x : Operand} {d : AV} (hrel : Rel w S μ H) (ho : o.op = .nilCheck x) (hx : rep S μ d (a.eval x)) (h : zMO d fun r=>K r H) : o.wp P a w (z4i w S μ H a o K) Q := by
 have hex : ∀ ad : Addr,a.eval x = .pointer (some ad) → (execOp a.eval o).run P w = .ok (.value (a.eval x)) w := by
  intro ad he
  unfold execOp
  rw [ho]
  simp only [he,Sem.run_pure]
 unfold zMO at h
 split at h
 ·obtain ⟨b,x',hμ,hp,he⟩ := hx
  exact z4v hrel (hex _ he) h ⟨b,x',hμ,hp,he⟩
 ·obtain ⟨b,q,he,hs⟩ := hx
  exact z4v hrel (hex _ he) h ⟨b,q,he,hs⟩
 ·exact h.elim
def zMu (P : Program) (t : TypeId) : Option IntKind := match P.underlying t with|some (.int k)=>some k|_=>none
def zgA : List AV → Option (List UInt8)
 |[]=>some []
 |.held (.inl (.int .u8 n)) :: r=>if 0 ≤ n ∧ n < 256 then (match zgA r with|some l=>some (UInt8.ofNat n.toNat :: l)|none=>none) else none
 |_=>none
theorem zlN : ∀ {es : List AV} {l : List UInt8},zgA es = some l → es = l.map fun b=>V (.int .u8 (b.toNat : Int))
 |[],l,h=>by unfold zgA at h;injection h with h;subst h;rfl
 |x :: r,l,h=>by
  unfold zgA at h
  split at h
  ·rename_i e;cases e
  ·rename_i n r' e
   injection e with e1 e2
   subst e1 e2
   split at h
   ·rename_i hn
    split at h
    ·rename_i l' hl
     injection h with h;subst h
     have := zlN hl
     rw [List.map_cons,← this]
     congr 1
     have : ((UInt8.ofNat n.toNat).toNat : Int) = n := by simp;omega
     rw [this]
    ·cases h
   ·cases h
  ·cases h
theorem zn3 : ∀ (l : List UInt8),zgA (l.map fun b=>V (.int .u8 (b.toNat : Int))) = some l
 |[]=>rfl
 |b :: r=>by
  have h := zn3 r
  have hb := b.toNat_lt
  rw [List.map_cons]
  unfold zgA
  rw [if_pos ⟨by omega,by omega⟩,h]
  simp
def zKX (P : Program) (t : TypeId) : Bool := match P.underlying t with|some (.slice e)=>(match P.underlying e with|some (.int .u8)=>true|_=>false)|_=>false
theorem zwv {P : Program} {t : TypeId} (h : zKX P t = true) : ∃ e,P.underlying t = some (.slice e) ∧ P.underlying e = some (.int .u8) := by
 unfold zKX at h
 split at h
 ·rename_i e he
  split at h
  ·rename_i h2;exact ⟨e,he,h2⟩
  ·cases h
 ·cases h
def zNu (q : ByteArray) : List AV := q.data.toList.map fun b=>V (.int .u8 b.toNat)
def zs9 (P : Program) (src dst : TypeId) (x : AV) (K : AV → Prop) : Prop := match x with
 |.held (.inl (.int _ n))=>(P.underlying src).isSome = true ∧ (match zMu P dst with|some k=>K (V (.int k (k.wrap n)))|none=>False)
 |.held (.inl (.string s))=>(P.underlying src = some .string ∧ P.underlying dst = some .string ∧ K (V (.string s))) ∨ (P.underlying src = some .string ∧ zKX P dst = true ∧ s.size ≤ 34359738368 ∧ K (SL (zNu s)))
 |.slice es []=>zKX P src = true ∧ P.underlying dst = some .string ∧ (match zgA es with|some l=>K (V (.string ⟨l.toArray⟩))|none=>False)
 |_=>False
theorem op_conv {src dst : TypeId} {x : Operand} {d : AV} (hrel : Rel w S μ H) (ho : o.op = .convert src dst x) (hx : rep S μ d (a.eval x)) (h : zs9   P src dst d fun r => K r H) : o.wp P a w (z4i    w S μ H a o K) Q := by
  have hex : ∀ v, (convert src dst (a.eval x)).run P w = .ok v w → (execOp a.eval o).run P w = .ok (.value v) w := by
    intro v hl
    unfold execOp
    rw [ho]
    simp only [Sem.run_bind, Sem.run_pure, Result.andThen_ok, hl]
  unfold zs9   at h
  split at h
  · obtain ⟨hs, h⟩ := h
    obtain ⟨he, _⟩ := hx
    split at h
    · rename_i k hk
      have hd : P.underlying dst = some (.int k) := by
        unfold zMu  at hk
        split at hk
        · injection hk with hk; subst hk; assumption
        · cases hk
      obtain ⟨ds, hs⟩ := Option.isSome_iff_exists.1 hs
      refine z4v    hrel (hex _ ?_) h (zsm   rfl)
      rw [he]
      simp [convert, run_underlying hs, run_underlying hd, Conv.intToInt, Sem.run_pure]
    · exact h.elim
  · rename_i s
    obtain ⟨he, _⟩ := hx
    rcases h with ⟨hs, hd, hK⟩ | ⟨hs, hd, hsz, hK⟩
    · refine z4v    hrel (hex _ ?_) hK (zsm   rfl)
      rw [he]
      simp [convert, run_underlying hs, run_underlying hd, Sem.run_pure]
    · obtain ⟨e, hde, hue⟩ := zwv     hd
      have hrun := run_bytes_of_string (P := P) w src dst e s hs hde hue
      have hcap1 := grownCap_ge w s.size 0 e
      have hcap2 := grownCap_le_maxLen w s.size 0 e (by unfold maxLen; omega)
      generalize grownCap w s.size 0 e = cap at *
      have hfl : zN0  (zNu  s) = zNu  s := by
        unfold zN0  zNu 
        generalize s.data.toList = l
        induction l with
        | nil => rfl
        | cons b l ih => rw [List.map_cons, List.flatMap_cons, ih]; rfl
      have hall : allC 1 (zNu  s) := fun d hd => by
        obtain ⟨b, _, rfl⟩ := List.mem_map.1 hd
        rfl
      have hlen : (zNu  s).length = s.size := by unfold zNu ; rw [List.length_map, Array.length_toList]; rfl
      have hrow : ∀ (j : Nat) (d : AV), (zNu  s)[j]? = some d → ∃ u, (bytesRow s cap)[j]? = some u ∧ u.oneCell' = true ∧ d = V u := by
        intro j d hd
        unfold zNu  at hd
        rw [List.getElem?_map] at hd
        obtain ⟨b, hb, rfl⟩ := Option.map_eq_some_iff.1 hd
        refine ⟨.int .u8 b.toNat, ?_, rfl, rfl⟩
        unfold bytesRow
        rw [Array.getElem?_append_left (by
          have := (List.getElem?_eq_some_iff.1 hb).1
          rw [Array.length_toList] at this
          simpa using this)]
        rw [Array.getElem?_map]
        rw [Array.getElem?_toList] at hb
        rw [hb]; rfl
      have hB : Below w.heap.size w (w.drew.alloc (.cells (bytesRow s cap) e ((bytesRow s cap).size, (bytesRow s cap).size + 1))) := ((Below.refl _ w).drew).alloc (Nat.le_refl _) _
      have hnew : ∀ j : Nat, (w.drew.alloc (.cells (bytesRow s cap) e ((bytesRow s cap).size, (bytesRow s cap).size + 1))).cell? ⟨w.heap.size, j, none⟩ = (bytesRow s cap)[j]? := fun j => cell_of_row _ _ j _ _ _ (heap_alloc_new w.drew _)
      obtain ⟨r2, s2⟩ := hrel.grow (S' := fun b j d => S b j d ∨ (b = w.heap.size ∧ (zNu  s)[j]? = some d)) hB (fun _ _ _ h => .inl h)
        (by
          rintro b j d (q | ⟨q, _⟩)
          · exact .inl q
          · exact .inr (by omega))
        (by
          rintro b j d (q | ⟨rfl, q⟩) hb
          · have := hrel.still_lt q; omega
          · obtain ⟨u, h1, h2, rfl⟩ := hrow j d q
            exact ⟨u, (hnew j).trans h1, h2, rfl, h2⟩)
      unfold Oper.wp
      have hx2 : (execOp a.eval o).run P w = .ok (.value (.slice (some ⟨w.heap.size, 0, none⟩) s.size cap)) (w.drew.alloc (.cells (bytesRow s cap) e ((bytesRow s cap).size, (bytesRow s cap).size + 1))) := by
        unfold execOp
        rw [ho]
        dsimp only
        rw [he]
        simp only [Sem.run_bind, Sem.run_pure, Result.andThen_ok, hrun]
      rw [hx2]
      refine ⟨SL (zNu  s), _, H, _, μ, hK, rfl, ⟨_, cap, by rw [hlen], by rw [hlen]; exact hcap1, hcap2, fun hne => ⟨w.heap.size, 0, 1, rfl, fun i d hd => ⟨hall d (List.mem_of_getElem? hd), fun j y hy => ?_⟩⟩⟩, r2, s2, fun _ => ⟨hB, rfl, rfl, ?_⟩⟩
      · obtain ⟨u, _, _, rfl⟩ := hrow i d hd
        rcases j with _ | j
        · simp only [cellsOf, List.getElem?_cons_zero, Option.some.injEq] at hy
          subst hy
          refine .inr ⟨rfl, ?_⟩
          rw [Nat.zero_add, Nat.mul_one, Nat.add_zero]; exact hd
        · simp [cellsOf] at hy
      · rintro b j d (q | ⟨q, _⟩)
        · exact .inl q
        · exact .inr (by omega)
  · rename_i es
    obtain ⟨hs, hd, h⟩ := h
    obtain ⟨e, hse, hue⟩ := zwv     hs
    split at h
    · rename_i l hl
      have hes := zlN          hl
      have hlen : es.length = l.length := by rw [hes]; simp
      refine z4v    hrel (hex _ ?_) h (zsm   rfl)
      obtain ⟨A, c, hv, _, _, hS⟩ := hx
      rw [hv, hlen]
      cases A with
      | none =>
        have : es = [] := by
          refine Classical.byContradiction fun q => ?_
          obtain ⟨b, o, z, q2, _⟩ := hS q
          cases q2
        have : l = [] := List.eq_nil_of_length_eq_zero (by rw [← hlen, this]; rfl)
        subst this
        exact run_convert_bytes_nil w src e hse hue _ c dst hd
      | some ad =>
        refine run_convert_bytes_back w src dst e ad c l hse hue hd fun j hj => ?_
        obtain ⟨b, o, z, q2, hin⟩ := hS (by intro q; rw [q] at hlen; simp at hlen; omega)
        injection q2 with q2
        subst q2
        have hej : es[j]? = some (V (.int .u8 (l[j].toNat : Int))) := by rw [hes, List.getElem?_map, List.getElem?_eq_getElem hj]; rfl
        obtain ⟨hz, hc⟩ := hin j _ hej
        have hz1 : z = 1 := hz.symm
        subst hz1
        obtain ⟨u, h1, _, h2⟩ := hrel.still _ _ _ (hc 0 _ rfl)
        have h2 : u = .int .u8 (l[j].toNat : Int) := h2.1
        rw [show (⟨b, o, none⟩ : Addr).add j = ⟨b, o + j * 1 + 0, none⟩ from by unfold Addr.add; split <;> simp_all, h1, h2]
    · exact h.elim
  · exact h.elim
end
end Go.Proofs.Ytaaogcnjfkgnoaa

namespace Go.Proofs.Ytaaogcnjfkgnoaa
open Go.RowKit
theorem zz0 {S : SS} {b z : Nat} : ∀ {es : List AV} {o : Nat},inS S b o z es → ∀ (j : Nat) (y : AV),(zN0 es)[j]? = some y → S b (o + j) y
 |[],o,_,j,y,hy=>by simp [zN0] at hy
 |d :: es,o,h,j,y,hy=>by
  have h0 := h 0 d rfl
  have ht : inS S b (o + z) z es := fun i d' hd'=>by
   have := h (i + 1) d' (by simpa using hd')
   refine ⟨this.1,fun j y hy=>?_⟩
   have := this.2 j y hy
   rw [show o + z + i * z + j = o + (i + 1) * z + j by rw [Nat.succ_mul];omega];exact this
  simp only [zN0,List.flatMap_cons] at hy
  rcases Nat.lt_or_ge j z with hj|hj
  ·rw [List.getElem?_append_left (by rw [h0.1];exact hj)] at hy
   have := h0.2 j y hy
   simpa using this
  ·rw [List.getElem?_append_right (by rw [h0.1];exact hj),h0.1] at hy
   have := zz0 ht (j - z) y hy
   rw [show o + z + (j - z) = o + j by omega] at this;exact this
theorem zlu {S : SS} {b z : Nat} : ∀ {es : List AV} {o : Nat},allC z es → (∀ (j : Nat) (y : AV),(zN0 es)[j]? = some y → S b (o + j) y) → inS S b o z es
 |[],o,_,_=>fun i d hd=>by simp at hd
 |d :: es,o,hc,h=>by
  have h0 := hc d (List.mem_cons_self ..)
  have ht : inS S b (o + z) z es := zlu (fun x hx=>hc x (List.mem_cons_of_mem _ hx)) fun j y hy=>by
   have := h (z + j) y (by
    simp only [zN0,List.flatMap_cons]
    rw [List.getElem?_append_right (by omega),h0,show z + j - z = j by omega];exact hy)
   rw [show o + z + j = o + (z + j) by omega];exact this
  intro i d' hd'
  rcases i with _|i
  ·simp at hd';subst hd'
   refine ⟨h0,fun j y hy=>?_⟩
   have := h j y (by
    simp only [zN0,List.flatMap_cons]
    rw [List.getElem?_append_left (List.getElem?_eq_some_iff.1 hy).1];exact hy)
   simpa using this
  ·have := ht i d' (by simpa using hd')
   refine ⟨this.1,fun j y hy=>?_⟩
   have := this.2 j y hy
   rw [show o + (i + 1) * z + j = o + z + i * z + j by rw [Nat.succ_mul];omega];exact this
theorem inS.allC {S : SS} {b o z : Nat} {es : List AV} (h : inS S b o z es) : allC z es := fun d hd=>by
 obtain ⟨i,hi⟩ := List.getElem?_of_mem hd
 exact (h i d hi).1
theorem zrW (a b : List AV) : zN0 (a ++ b) = zN0 a ++ zN0 b := by simp [zN0]
section
variable {P : Program} {G : Gl} {w : World} {S : SS} {μ : List Value} {H : List AObj} {a : Act} {o : Oper} {K : AV → List AObj → Prop} {Q : Exit → Act → World → Prop}
theorem Rel.regrow {w' : World} {S' : SS} {i : Nat} {v v' : Value} {ob ob' : AObj} (hr : Rel w S μ H) (hμ : μ[i]? = some v) (ho : H[i]? = some ob) (hk : ob.k = 2) (hk' : ob'.k = 2)
  (hos : w'.os = w.os ∧ w'.tape = w.tape ∧ w'.output = w.output ∧ w.heap.size ≤ w'.heap.size) (hb : ∀ b,b < w.heap.size → z60 v ≠ some b → w'.heap[b]? = w.heap[b]?)
  (hc : ∀ b j d,S b j d → w'.cell? ⟨b,j,none⟩ = w.cell? ⟨b,j,none⟩) (h1 : ∀ b j d,S b j d → S' b j d)
  (h2 : ∀ b j d,S' b j d → S b j d ∨ (z60 v' = some b ∧ j < ob'.c.length * ob'.z ∧ ∃ u,w'.cell? ⟨b,j,none⟩ = some u ∧ u.oneCell' = true ∧ rep1 S' [] d u))
  (hv : ∀ b,z60 v' = some b → z60 v = some b ∨ w.heap.size ≤ b) (hle : ob.c.length * ob.z ≤ ob'.c.length * ob'.z)
  (he : v' = v ∨ ∃ (A : Option Addr) (m c : Nat) (A' : Option Addr) (m' c' : Nat),v = Value.slice A m c ∧ v' = Value.slice A' m' c' ∧ m < m')
  (hob : objRep w' S' (μ.set i v') v' ob') : Rel w' S' (μ.set i v') (H.set i ob') ∧ Step H.length w S μ H w' S' (μ.set i v') (H.set i ob') := by
 have hil : i < μ.length := (List.getElem?_eq_some_iff.1 hμ).1
 have hiH : i < H.length := (List.getElem?_eq_some_iff.1 ho).1
 have hext : Ext S μ S' (μ.set i v') := ⟨h1,fun i' x hx=>by
  by_cases e : i' = i
  ·subst e
   rw [hμ] at hx;injection hx with hx;subst hx
   exact ⟨v',List.getElem?_set_self hil,he.elim .inl fun q=>.inr (.inl q)⟩
  ·exact ⟨x,by rw [List.getElem?_set_ne (Ne.symm e)];exact hx, .inl rfl⟩⟩
 have hext0 : Ext S [] S' [] := ⟨h1,fun i x hx=>by simp at hx⟩
 have hget : ∀ (i' : Nat) (x' : Value) (o' : AObj),(μ.set i v')[i']? = some x' → (H.set i ob')[i']? = some o' → (i' = i ∧ x' = v' ∧ o' = ob') ∨ (i' ≠ i ∧ μ[i']? = some x' ∧ H[i']? = some o') := by
  intro i' x' o' hx' ho'
  by_cases e : i' = i
  ·subst e
   rw [List.getElem?_set_self hil] at hx'
   rw [List.getElem?_set_self hiH] at ho'
   injection hx' with hx';injection ho' with ho'
   exact .inl ⟨rfl,hx'.symm,ho'.symm⟩
  ·rw [List.getElem?_set_ne (Ne.symm e)] at hx' ho';exact .inr ⟨e,hx',ho'⟩
 have hne : ∀ (i' : Nat) (x' : Value) (o' : AObj) (b : Nat),i' ≠ i → μ[i']? = some x' → H[i']? = some o' → o'.k ≠ 0 → z60 x' = some b → z60 v ≠ some b := by
  intro i' x' o' b hn hx ho' hk0 hb' e
  exact hn (hr.sep i' i x' v o' ob b hx ho' hk0 hb' hμ ho (by omega) e)
 have hne' : ∀ (i' : Nat) (x' : Value) (o' : AObj) (b : Nat),i' ≠ i → μ[i']? = some x' → H[i']? = some o' → o'.k ≠ 0 → z60 x' = some b → z60 v' ≠ some b := by
  intro i' x' o' b hn hx ho' hk0 hb' e
  rcases hv b e with q|q
  ·exact hne i' x' o' b hn hx ho' hk0 hb' q
  ·have := hr.own_lt hx ho' hk0 hb';omega
 refine ⟨⟨by simpa using hr.len,fun b j d hs=>?_,fun i' x' o' hx' ho'=>?_,fun i' x' o' hx' ho'=>?_,fun i1 i2 x1 x2 o1 o2 b hx1 ho1 hk1 hb1 hx2 ho2 hk2 hb2=>?_,fun i' x' o' b hx' ho' hk0 hb' j d hs=>?_⟩,
  ⟨hos.1,hos.2.1,hos.2.2.1,hos.2.2.2,fun b hlt hn=>hb b hlt fun e=>hn ⟨i,v,ob,hμ,ho,by omega,e⟩,h1,fun i' x _ hx=>hext.objs i' x hx,fun b j d hs hlt=>?_,fun b hob' hlt=>?_⟩⟩
 ·rcases h2 b j d hs with q|⟨_,_,q⟩
  ·obtain ⟨u,hu,h4,h5⟩ := hr.still b j d q
   exact ⟨u,by rw [hc b j d q];exact hu,h4,h5.ext hext0⟩
  ·exact q
 ·rcases hget i' x' o' hx' ho' with ⟨_,rfl,rfl⟩|⟨hn,q1,q2⟩
  ·exact .inr (.inr (.inl hk'))
  ·exact hr.kinds i' x' o' q1 q2
 ·rcases hget i' x' o' hx' ho' with ⟨_,rfl,rfl⟩|⟨hn,q1,q2⟩
  ·exact hob
  ·by_cases hk0 : o'.k = 0
   ·exact objRep.zero hk0
   ·exact (hr.objs i' x' o' q1 q2).move hext fun b hb'=>hb b (hr.own_lt q1 q2 hk0 hb') (hne i' x' o' b hn q1 q2 hk0 hb')
 ·rcases hget i1 x1 o1 hx1 ho1 with ⟨rfl,rfl,rfl⟩|⟨hn,q1,q2⟩
  ·rcases hget i2 x2 o2 hx2 ho2 with ⟨rfl,_,_⟩|⟨hn2,q3,q4⟩
   ·rfl
   ·exact absurd hb1 (hne' i2 x2 o2 b hn2 q3 q4 hk2 hb2)
  ·rcases hget i2 x2 o2 hx2 ho2 with ⟨rfl,rfl,rfl⟩|⟨hn2,q3,q4⟩
   ·exact absurd hb2 (hne' i1 x1 o1 b hn q1 q2 hk1 hb1)
   ·exact hr.sep i1 i2 x1 x2 o1 o2 b q1 q2 hk1 hb1 q3 q4 hk2 hb2
 ·rcases hget i' x' o' hx' ho' with ⟨rfl,rfl,rfl⟩|⟨hn,q1,q2⟩
  ·refine ⟨hk',?_⟩
   rcases h2 b j d hs with q|⟨_,q,_⟩
   ·rcases hv b hb' with q2|q2
    ·have := (hr.apart i' v ob b hμ ho (by omega) q2 j d q).2;omega
    ·have := hr.still_lt q;omega
   ·exact q
  ·rcases h2 b j d hs with q|⟨q,_,_⟩
   ·exact hr.apart i' x' o' b q1 q2 hk0 hb' j d q
   ·exact absurd q (hne' i' x' o' b hn q1 q2 hk0 hb')
 ·rcases h2 b j d hs with q|⟨q,_,_⟩
  ·exact .inl q
  ·rcases hv b q with q2|q2
   ·exact .inr ⟨i,v,ob,hμ,ho,by omega,q2⟩
   ·omega
 ·obtain ⟨i',x',o',hx',ho',hk0,hb'⟩ := hob'
  rcases hget i' x' o' hx' ho' with ⟨rfl,rfl,rfl⟩|⟨hn,q1,q2⟩
  ·rcases hv b hb' with q|q
   ·exact ⟨i',v,ob,hμ,ho,by omega,q⟩
   ·omega
  ·exact ⟨i',x',o',q1,q2,hk0,hb'⟩
end
end Go.Proofs.Ytaaogcnjfkgnoaa

namespace Go.Proofs.Ytaaogcnjfkgnoaa
open Go.RowKit
def zKT (P : Program) (t : TypeId) : Option (TypeId × Nat) :=
 match P.underlying t with
 |some (.slice e)=>match P.info? e with
  |some i=>match i.zero with
   |some z=>if z.cells.size = i.size ∧ 0 < i.size ∧ i.bytes ≤ 4096 ∧ z.cells.all (·.oneCell') = true then some (e,i.size) else none
   |none=>none
  |none=>none
 |_=>none
theorem zlj {P : Program} {t e : TypeId} {z : Nat} (h : zKT P t = some (e,z)) : P.underlying t = some (.slice e) ∧ ∃ i v,P.info? e = some i ∧ i.zero = some v ∧ v.cells.size = i.size ∧ i.size = z ∧ 0 < z ∧ i.bytes ≤ 4096 ∧ v.cells.all (·.oneCell') = true := by
 unfold zKT at h
 cases hu : P.underlying t with
 |none=>rw [hu] at h;cases h
 |some d =>
  rw [hu] at h
  cases d <;> simp only at h <;> try (cases h;done)
  rename_i e'
  cases hi : P.info? e' with
  |none=>rw [hi] at h;cases h
  |some i =>
   rw [hi] at h
   simp only at h
   cases hz : i.zero with
   |none=>rw [hz] at h;cases h
   |some v =>
    rw [hz] at h
    simp only at h
    split at h
    ·rename_i hh
     injection h with h;injection h with h1 h2
     subst h1
     exact ⟨rfl,i,v,hi,hz,hh.1,h2,by omega,hh.2.2⟩
    ·cases h
section
variable {P : Program} {G : Gl} {w : World} {S : SS} {μ : List Value} {H : List AObj} {a : Act} {o : Oper} {K : AV → List AObj → Prop} {Q : Exit → Act → World → Prop}
theorem zAq {base e z : Nat} {v : Value} {n : Nat} {us : List Value} (h : w.ownsRow base e z v n us) : ∃ A c,v = .slice A n c ∧ n ≤ c ∧ c ≤ maxLen := by
 rcases h.2 with ⟨rfl,rfl⟩|⟨g,cap,cur,rfl,_,_,h1,h2,_⟩
 ·exact ⟨none,0,rfl,Nat.le_refl _,Nat.zero_le _⟩
 ·exact ⟨_,cap,rfl,h1,h2⟩
theorem row_appS {t tx : TypeId} (ty : TypeId) {e : TypeId} {z : Nat} (hT : zKT  P t = some (e, z)) (hr : Rel w S μ H) {i : Nat} {v : Value} {ob : AObj} (hμ : μ[i]? = some v) (ho : H[i]? = some ob) (hk : ob.k = 2) (he : ob.e = e) (hz : ob.z = z)
    {es : List AV} {x : Value} {news : List Value} (hs : Src P z tx x es.length news w) (hnr : reps S [] (zN0  es) news) (hall : allC z es) (hroom : ob.c.length + es.length ≤ 34359738368) :
    ∃ A' c' w' S', (Builtin.append_ #[t, tx] ty #[v, x]).run P w = .ok (.slice A' (ob.c.length + es.length) c') w' ∧
      Rel w' S' (μ.set i (.slice A' (ob.c.length + es.length) c')) (H.set i { ob with c := ob.c ++ es }) ∧ Step H.length w S μ H w' S' (μ.set i (.slice A' (ob.c.length + es.length) c')) (H.set i { ob with c := ob.c ++ es }) := by
  obtain ⟨ht, inf, zv, hi, hzv, hzs, hsz, hz0, hby, _⟩ := zlj       hT
  subst hsz he
  obtain ⟨us, A0, c0, hv, hl1, hl2, hown, hrow⟩ := (hr.objs i v ob hμ ho).2.1 hk
  have hil : i < μ.length := (List.getElem?_eq_some_iff.1 hμ).1
  have hiH : i < H.length := (List.getElem?_eq_some_iff.1 ho).1
  rw [hz] at hown
  by_cases hes : es = []
  · subst hes
    refine ⟨A0, c0, w, S, ?_, ?_⟩
    · have hn0 : news = [] := List.eq_nil_of_length_eq_zero (by have := hs.newsLen; simpa using this)
      subst hn0
      rw [hv]; exact run_append_nothing w t tx ty ob.e inf ht hi A0 _ c0 hl1 x hs
    · have h2 : μ.set i (.slice A0 (ob.c.length + ([] : List AV).length) c0) = μ := by
        rw [List.length_nil, Nat.add_zero, ← hv]
        apply List.ext_getElem?
        intro j
        by_cases e : j = i
        · subst e; rw [List.getElem?_set_self hil, hμ]
        · rw [List.getElem?_set_ne (Ne.symm e)]
      have h3 : H.set i { ob with c := ob.c ++ [] } = H := by
        apply List.ext_getElem?
        intro j
        by_cases e : j = i
        · subst e; rw [List.getElem?_set_self hiH, ho, List.append_nil]
        · rw [List.getElem?_set_ne (Ne.symm e)]
      rw [h2, h3]
      exact ⟨hr, Step.refl _ _ _ _ _⟩
  · have hm : 0 < es.length := List.length_pos_iff.2 hes
    have hnl : news.length = es.length * inf.size := hs.newsLen
    have hn1 : ∀ u ∈ news, u.oneCell' = true := hs.one
    have hallc : allC inf.size ob.c := by
      by_cases hc : ob.c = []
      · rw [hc]; intro d hd; cases hd
      · obtain ⟨b, _, h⟩ := hrow hc
        rw [hz] at h; exact h.allC
    have hcl := z3Y          hallc
    have hbytes : (ob.c.length + es.length) * inf.bytes ≤ 140737488355328 := by have := Nat.mul_le_mul hroom hby; omega
    have hml : ob.c.length + es.length ≤ 9223372036854775807 := by omega
    obtain ⟨us, hown⟩ : ∃ us', (c0 = 0 → us' = []) ∧ us'.length = ob.c.length * inf.size ∧ (c0 ≠ 0 → w.ownsRow 0 ob.e inf.size v ob.c.length us') := by
      by_cases h0 : c0 = 0
      · exact ⟨[], fun _ => rfl, by have : ob.c.length = 0 := by omega
                                    rw [this, Nat.zero_mul]; rfl, fun q => absurd h0 q⟩
      · exact ⟨us, fun q => absurd q h0, (hown h0).1, fun _ => hown h0⟩
    obtain ⟨hus0, hulen, hown⟩ := hown
    have hus : reps S [] (zN0  ob.c) us := by
      refine ⟨by rw [hulen, hcl], fun j d u hd hu => ?_⟩
      have hjl := (List.getElem?_eq_some_iff.1 hd).1
      have hc : ob.c ≠ [] := by intro e; rw [e] at hjl; simp [zN0 ] at hjl
      obtain ⟨b, e2, h⟩ := hrow hc
      rw [hz] at h
      obtain ⟨u', h1, h2, h3⟩ := hr.still _ _ _ (zz0    h j d hd)
      have hc0 : c0 ≠ 0 := by
        intro q
        have : ob.c.length = 0 := by omega
        exact hc (List.eq_nil_of_length_eq_zero this)
      have h4 := (hown hc0).cells (g := b) (by rw [hv, e2]; rfl) j u hu
      rw [Addr.add_lit] at h4
      rw [h1] at h4; injection h4 with h4; subst h4
      exact ⟨h2, h3⟩
    have hrep : reps S [] (zN0  (ob.c ++ es)) (us ++ news) := by
      rw [zrW        ]
      refine ⟨by simp [hus.1, hnr.1], fun j d u hd hu => ?_⟩
      rcases Nat.lt_or_ge j (zN0  ob.c).length with hj | hj
      · rw [List.getElem?_append_left hj] at hd
        rw [List.getElem?_append_left (by rw [hus.1]; exact hj)] at hu
        exact hus.2 j d u hd hu
      · rw [List.getElem?_append_right hj] at hd
        rw [List.getElem?_append_right (by rw [hus.1]; exact hj), hus.1] at hu
        exact hnr.2 _ d u hd hu
    have hlen : (us ++ news).length = (ob.c.length + es.length) * inf.size := by rw [List.length_append, hulen, hnl, Nat.add_mul]
    have hall2 : allC inf.size (ob.c ++ es) := fun d hd => (List.mem_append.1 hd).elim (hallc d) (hall d)
    have hne2 : v ≠ .slice (some ⟨0, 0, none⟩) 0 0 ∨ True := .inr trivial
    have fin : ∀ (g cap : Nat) (w' : World), (Builtin.append_ #[t, tx] ty #[v, x]).run P w = .ok (.slice (some ⟨g, 0, none⟩) (ob.c.length + es.length) cap) w' →
        (w'.os = w.os ∧ w'.tape = w.tape ∧ w'.output = w.output ∧ w.heap.size ≤ w'.heap.size) → (∀ b, b < w.heap.size → z60   v ≠ some b → w'.heap[b]? = w.heap[b]?) →
        (∀ b j d, S b j d → w'.cell? ⟨b, j, none⟩ = w.cell? ⟨b, j, none⟩) → (z60   v = some g ∨ w.heap.size ≤ g) → w'.ownsRow 0 ob.e inf.size (.slice (some ⟨g, 0, none⟩) (ob.c.length + es.length) cap) (ob.c.length + es.length) (us ++ news) →
        ∃ A' c' w' S', (Builtin.append_ #[t, tx] ty #[v, x]).run P w = .ok (.slice A' (ob.c.length + es.length) c') w' ∧
          Rel w' S' (μ.set i (.slice A' (ob.c.length + es.length) c')) (H.set i { ob with c := ob.c ++ es }) ∧ Step H.length w S μ H w' S' (μ.set i (.slice A' (ob.c.length + es.length) c')) (H.set i { ob with c := ob.c ++ es }) := by
      intro g cap w' hrun hos hb hc hg hown'
      refine ⟨some ⟨g, 0, none⟩, cap, w', fun b j d => S b j d ∨ (b = g ∧ (zN0  (ob.c ++ es))[j]? = some d), hrun, ?_⟩
      have h1 : ∀ b j d, S b j d → (fun b j d => S b j d ∨ (b = g ∧ (zN0  (ob.c ++ es))[j]? = some d)) b j d := fun b j d h => .inl h
      refine hr.regrow (ob' := { ob with c := ob.c ++ es }) hμ ho hk hk hos hb hc h1 ?_ ?_ ?_ ?_ ?_
      · rintro b j d (q | ⟨rfl, q⟩)
        · exact .inl q
        · have hjl := (List.getElem?_eq_some_iff.1 q).1
          have hjl' : j < (us ++ news).length := by rw [hrep.1]; exact hjl
          refine .inr ⟨by simp only [z60  ]; rw [if_neg (by obtain ⟨_, _, q3, q4, _⟩ := zAq    hown'; injection q3 with _ _ q5; omega)], ?_, (us ++ news)[j], ?_, (hrep.2 j d _ q (List.getElem?_eq_getElem hjl')).1, ((hrep.2 j d _ q (List.getElem?_eq_getElem hjl')).2).ext ⟨h1, fun i x hx => by simp at hx⟩⟩
          · rw [z3Y          hall2] at hjl
            show j < (ob.c ++ es).length * ob.z
            rw [hz]; exact hjl
          · have := hown'.cells (g := b) rfl j _ (List.getElem?_eq_getElem hjl')
            rw [Addr.add_lit] at this
            simpa using this
      · intro b hb'
        have : g = b := by
          simp only [z60  ] at hb'
          split at hb'
          · cases hb'
          · injection hb'
        subst this; exact hg
      · show ob.c.length * ob.z ≤ (ob.c ++ es).length * ob.z
        exact Nat.mul_le_mul_right _ (by simp)
      · exact .inr ⟨A0, ob.c.length, c0, _, _, _, hv, rfl, by omega⟩
      · obtain ⟨A9, c9, q3, q4, q5⟩ := zAq    hown'
        injection q3 with _ _ q3
        subst q3
        refine ⟨fun h => by simp only at h; omega, fun _ => ⟨us ++ news, some ⟨g, 0, none⟩, cap, by simp, by simpa using q4, q5, fun _ => by simp only [hz, List.length_append]; exact hown', fun _ => ⟨g, rfl, ?_⟩⟩, fun h => by simp only at h; omega, fun h => by simp only at h; omega⟩
        simp only [hz]
        exact zlu      hall2 fun j y hy => .inr ⟨rfl, by simpa using hy⟩
    by_cases hc00 : c0 = 0
    · have h0 : ob.c.length = 0 := by omega
      have hc0 : ob.c = [] := List.eq_nil_of_length_eq_zero h0
      have hus0 := hus0 hc00
      have fin2 : ∀ (cp : Nat), es.length ≤ cp → cp ≤ maxLen → (Builtin.append_ #[t, tx] ty #[v, x]).run P w = .ok (.slice (some ⟨w.heap.size, 0, none⟩) (ob.c.length + es.length) cp) (w.drew.alloc (.cells (news.toArray ++ Builtin.zeroCells zv.cells (cp - es.length)) ob.e)) →
          ∃ A' c' w' S', (Builtin.append_ #[t, tx] ty #[v, x]).run P w = .ok (.slice A' (ob.c.length + es.length) c') w' ∧
          Rel w' S' (μ.set i (.slice A' (ob.c.length + es.length) c')) (H.set i { ob with c := ob.c ++ es }) ∧ Step H.length w S μ H w' S' (μ.set i (.slice A' (ob.c.length + es.length) c')) (H.set i { ob with c := ob.c ++ es }) := by
        intro cp hge hcm hrn2
        refine fin w.heap.size cp _ hrn2 ⟨rfl, rfl, rfl, by simp⟩ (fun b hb _ => heap_alloc_old w.drew _ hb) (fun b j d hs => World.cell?_of_block (heap_alloc_old w.drew _ (hr.still_lt hs))) (.inr (Nat.le_refl _)) ?_
        rw [hus0, h0]
        simp only [List.nil_append, Nat.zero_add]
        refine ⟨hnl, .inr ⟨w.heap.size, _, _, rfl, Nat.zero_le _, heap_alloc_new w.drew _, hge, hcm, ?_, ?_⟩⟩
        · simp only [Array.size_append, List.size_toArray, size_zeroCells, hzs, hnl, ← Nat.add_mul]
          congr 1; omega
        · simp only [Array.toList_append]
          rw [← hnl]; exact List.take_left
      have hold : (Builtin.firstCells inf.size 0 (.slice A0 0 0)).run P w.drew = .ok ([] : List Value).toArray w.drew := by
        cases A0 with
        | none => exact run_firstCells_none w.drew inf.size 0 0 0
        | some ad => exact run_firstCells_some w.drew inf.size 0 ad 0 0 [] (by simp) (fun j u hj => by simp at hj)
      have hrn := run_append_grow_src (P := P) w t tx ty ob.e inf zv ht hi hzv A0 0 0 [] hold x es.length news hs (by omega) (by omega) (growslice_fits (by omega) (by rw [h0] at hbytes; exact hbytes))
      simp only [Nat.zero_add] at hrn
      refine fin2 _ (grownCap_ge w es.length 0 ob.e) (grownCap_le_maxLen w es.length 0 ob.e (by unfold maxLen; omega)) ?_
      rw [hv, h0, hc00, Nat.zero_add]
      simpa using hrn
    have hown := hown hc00
    rcases hown.2 with ⟨hnil, h0⟩ | ⟨g, cap, cur, hvv, _, hg, hnc2, hcm, hcs, htake⟩
    · rw [hv] at hnil; injection hnil with _ _ q; exact absurd q hc00
    · have hcap0 : cap ≠ 0 := by rw [hv] at hvv; injection hvv with _ _ q; omega
      have hvb : z60   v = some g := by rw [hvv]; simp only [z60  ]; rw [if_neg hcap0]
      by_cases hfit : ob.c.length + es.length ≤ cap
      · have hfit2 : ob.c.length * inf.size + news.length ≤ cur.size := by rw [hnl, hcs, ← Nat.add_mul]; exact Nat.mul_le_mul_right _ hfit
        have hst := run_storeCells_at P g (ob.c.length * inf.size) ob.e news 0 cur w hg (by simpa using hfit2) hn1
        simp only [Nat.add_zero] at hst
        have hrn : (Builtin.append_ #[t, tx] ty #[.slice (some ⟨g, 0, none⟩) ob.c.length cap, x]).run P w = .ok (.slice (some ⟨g, 0, none⟩) (ob.c.length + es.length) cap) (w.setRow g (cur.toList.take (ob.c.length * inf.size) ++ news ++ cur.toList.drop (ob.c.length * inf.size + news.length)).toArray) := by
          rcases hs.kind with ⟨e', hk'⟩ | hk' <;> simp [Builtin.append_, run_underlying ht, run_underlying hk', sizeOf, typeInfo, hi, hs.len, hfit, hs.cells, Addr.add_lit, hst]
        rw [← hvv] at hrn
        refine fin g cap _ hrn ⟨rfl, rfl, rfl, by simp⟩ (fun b _ hb => setRow_other w g b _ (fun e => hb (by rw [hvb, e]))) (fun b j d hs => ?_) (.inl hvb) ?_
        · by_cases e : b = g
          · subst e
            have hap := (hr.apart i v ob b hμ ho (by omega) hvb j d hs).2
            rw [hz] at hap
            rw [cell_of_row _ b j _ ob.e (0, 0) (setRow_heap w b cur _ ob.e _ hg), cell_of_row w b j cur ob.e (0, 0) hg]
            have hjc : j < cur.size := by rw [hcs]; exact Nat.lt_of_lt_of_le hap (Nat.mul_le_mul_right _ hnc2)
            simp only [List.getElem?_toArray]
            rw [List.append_assoc, List.getElem?_append_left (by rw [List.length_take]; simp only [Array.length_toList]; omega), List.getElem?_take, if_pos hap]
            simp
          · exact World.cell?_of_block (setRow_other w g b _ e)
        · refine ⟨hlen, .inr ⟨g, cap, _, rfl, Nat.zero_le _, setRow_heap w g cur _ ob.e _ hg, hfit, hcm, ?_, ?_⟩⟩
          · simp only [List.size_toArray, List.length_append, List.length_take, List.length_drop, Array.length_toList]
            omega
          · rw [htake, ← hlen]
            exact List.take_left
      · have hbl : ∀ j u, us[j]? = some u → w.cell? ((⟨g, 0, none⟩ : Addr).add j) = some u := hown.cells (g := g) (by rw [hvv]; rfl)
        have hrn := run_append_grow_src (P := P) w t tx ty ob.e inf zv ht hi hzv (some ⟨g, 0, none⟩) ob.c.length cap us (run_firstCells_some w.drew inf.size ob.c.length ⟨g, 0, none⟩ ob.c.length cap us hown.1 (by simpa using hbl)) x es.length news hs (by omega) (by omega) (growslice_fits (by omega) hbytes)
        have hge := grownCap_ge w (ob.c.length + es.length) cap ob.e
        have hcm2 := grownCap_le_maxLen w (ob.c.length + es.length) cap ob.e (by unfold maxLen; omega)
        rw [← hvv] at hrn
        refine fin w.heap.size (grownCap w (ob.c.length + es.length) cap ob.e) _ hrn ⟨rfl, rfl, rfl, by simp⟩ (fun b hb _ => heap_alloc_old w.drew _ hb) (fun b j d hs => World.cell?_of_block (heap_alloc_old w.drew _ (hr.still_lt hs))) (.inr (Nat.le_refl _)) ?_
        refine ⟨hlen, .inr ⟨w.heap.size, _, _, rfl, Nat.zero_le _, heap_alloc_new w.drew _, hge, hcm2, ?_, ?_⟩⟩
        · simp only [Array.size_append, List.size_toArray, List.length_append, size_zeroCells, hzs, hown.1, hnl, ← Nat.add_mul]
          congr 1; omega
        · simp only [Array.toList_append, List.append_assoc]
          rw [← List.append_assoc, ← hlen]
          exact List.take_left
theorem zwY {t : TypeId} (ty : TypeId) {e : TypeId} {z : Nat} (hT : zKT P t = some (e,z)) (hr : Rel w S μ H) {i : Nat} {v : Value} {ob : AObj} (hμ : μ[i]? = some v) (ho : H[i]? = some ob) (hk : ob.k = 2) (he : ob.e = e) (hz : ob.z = z)
  {es : List AV} {A : Option Addr} {c : Nat} (hin : es ≠ [] → ∃ b o z',A = some ⟨b,o,none⟩ ∧ inS S b o z' es) (hall : allC z es) (hroom : ob.c.length + es.length ≤ 34359738368) :
  ∃ A' c' w' S',(Builtin.append_ #[t,t] ty #[v, .slice A es.length c]).run P w = .ok (.slice A' (ob.c.length + es.length) c') w' ∧
   Rel w' S' (μ.set i (.slice A' (ob.c.length + es.length) c')) (H.set i { ob with c := ob.c ++ es }) ∧ Step H.length w S μ H w' S' (μ.set i (.slice A' (ob.c.length + es.length) c')) (H.set i { ob with c := ob.c ++ es }) := by
 obtain ⟨ht,inf,zv,hi,hzv,hzs,hsz,hz0,hby,_⟩ := zlj hT
 by_cases hes : es = []
 ·subst hes
  have hc : ∀ w' : World,(Builtin.firstCells z 0 (.slice A 0 c)).run P w' = .ok ([] : List Value).toArray w' := fun w'=>by
   cases A with
   |none=>exact run_firstCells_none w' z 0 0 c
   |some ad=>exact run_firstCells_some w' z 0 ad 0 c [] (by simp) (fun j u hj=>by simp at hj)
  exact row_appS ty hT hr hμ ho hk he hz ⟨.inl ⟨_,ht⟩,fun _=>rfl,hc w,hc w.drew,by simp,fun u hu=>by cases hu⟩ ⟨rfl,fun j d u hd hu=>by simp at hu⟩ hall hroom
 ·obtain ⟨b1,o1,z1,rfl,hin1⟩ := hin hes
  have hm : 0 < es.length := List.length_pos_iff.2 hes
  have hz1 : z1 = z := by
   obtain ⟨d,hd⟩ := List.exists_mem_of_length_pos hm
   rw [← hin1.allC d hd,hall d hd]
  subst hz1
  obtain ⟨news,hnr,hnc⟩ := zk9 hr (cs := zN0 es) (fun j y hy=>zz0 hin1 j y hy)
  have hnl : news.length = es.length * z1 := by rw [hnr.1,z3Y hall]
  have hn1 : ∀ u ∈ news,u.oneCell' = true := by
   intro u hu
   obtain ⟨j,hj⟩ := List.getElem?_of_mem hu
   have hlt : j < (zN0 es).length := by rw [← hnr.1];exact (List.getElem?_eq_some_iff.1 hj).1
   exact (hnr.2 j _ u (List.getElem?_eq_getElem hlt) hj).1
  exact row_appS ty hT hr hμ ho hk he hz (Src.ofSlice w ht _ es.length c news hnl hnc hn1) hnr hall hroom
end
end Go.Proofs.Ytaaogcnjfkgnoaa

namespace Go.Proofs.Ytaaogcnjfkgnoaa
open Go.RowKit
section
variable {P : Program} {G : Gl} {w : World} {S : SS} {μ : List Value} {H : List AObj} {a : Act} {o : Oper} {K : AV → List AObj → Prop} {Q : Exit → Act → World → Prop}
def zMB (P : Program) (t : TypeId) (H : List AObj) (x y : AV) (K : AV → List AObj → Prop) : Prop :=
 match zKT P t with
 |some (e,z)=>z8K H y fun es=>allC z es ∧ (match x with
  |.held (.inl (.slice none 0 0))=>es.length ≤ 34359738368 ∧ K (OW H.length es.length) (H ++ [⟨2,e,z,es⟩])
  |.slice _ [.held (.inl (.bool _))]=>es.length ≤ 34359738368 ∧ K (OW H.length es.length) (H ++ [⟨2,e,z,es⟩])
  |.held (.inr (.inr (i,n)))=>zMZ H i fun ob=>ob.k = 2 ∧ ob.e = e ∧ ob.z = z ∧ n = ob.c.length ∧ n + es.length ≤ 34359738368 ∧ K (OW i (n + es.length)) (H.set i { ob with c := ob.c ++ es })
  |_=>False)
 |none=>False
theorem zsO (A : Option Addr) (n : Nat) : z60 (.slice A n 0) = none := by cases A <;> simp [z60]
theorem Rel.nilRow (hr : Rel w S μ H) (A : Option Addr) (e : TypeId) (z : Nat) : Rel w S (μ ++ [.slice A 0 0]) (H ++ [⟨2,e,z,[]⟩]) ∧ Step H.length w S μ H w S (μ ++ [.slice A 0 0]) (H ++ [⟨2,e,z,[]⟩]) :=
 ⟨hr.add (o := ⟨2,e,z,[]⟩) (.inr (.inr (.inl rfl))) ⟨fun h=>(by simp at h),fun _=>⟨[],A,0,rfl,Nat.le_refl _,Nat.zero_le _,fun h=>absurd rfl h,fun h=>absurd rfl h⟩,fun h=>(by simp at h),fun h=>(by simp at h)⟩ (fun b hb=>(by rw [zsO] at hb;cases hb)),
  (Step.refl H.length w S μ H).add hr.len (fun b hb=>(by rw [zsO] at hb;cases hb))⟩
theorem zve {x y : Operand} {t : TypeId} {d e : AV} (hrel : Rel w S μ H) (ho : o.op = .call { callee := .builtin .append,args := #[x,y],argTypes := #[t,t] }) (hx : rep S μ d (a.eval x)) (hy : rep S μ e (a.eval y)) (h : zMB P t H d e K) : o.wp P a w (z4i w S μ H a o K) Q := by
 have hex : ∀ v w',(Builtin.append_ #[t,t] o.type #[a.eval x,a.eval y]).run P w = .ok v w' → (execOp a.eval o).run P w = .ok (.value v) w' := by
  intro v w' hl
  unfold execOp
  rw [ho]
  simp only [resolve,invoke,builtin,Sem.run_bind,Sem.run_pure,Result.andThen_ok,List.map_toArray,List.map_cons,List.map_nil,hl]
 unfold zMB at h
 split at h
 ·rename_i et z hT
  obtain ⟨es,A,c,⟨hall,hK⟩,hv,h1,h2,h3⟩ := zm3 hrel hy h
  have nilc : ∀ (A0 : Option Addr),a.eval x = .slice A0 0 0 → es.length ≤ 34359738368 → K (OW H.length es.length) (H ++ [⟨2,et,z,es⟩]) → o.wp P a w (z4i w S μ H a o K) Q := by
   intro A0 he hroom hK
   obtain ⟨r1,s1⟩ := hrel.nilRow A0 et z
   have g1 : (μ ++ [Value.slice A0 0 0])[H.length]? = some (.slice A0 0 0) := by rw [← hrel.len];simp
   have g2 : (H ++ [(⟨2,et,z,[]⟩ : AObj)])[H.length]? = some ⟨2,et,z,[]⟩ := by simp
   obtain ⟨A',c',w',S',hrun,r2,s2⟩ := zwY (P := P) o.type hT r1 g1 g2 rfl rfl rfl h3 hall (by simpa using hroom)
   have e1 : (H ++ [(⟨2,et,z,[]⟩ : AObj)]).set H.length { (⟨2,et,z,[]⟩ : AObj) with c := [] ++ es } = H ++ [⟨2,et,z,es⟩] := by simp
   rw [e1] at r2 s2
   simp only [List.length_nil,Nat.zero_add] at hrun r2 s2
   unfold Oper.wp
   rw [hex _ _ (by rw [he,hv];exact hrun)]
   refine ⟨_,_,_,S',_,hK,rfl,⟨A',es.length,c',A',c',?_,Nat.le_refl _,rfl,fun _=>⟨rfl,rfl⟩⟩,r2,s1.trans (s2.less (by simp)),fun q=>by rw [ho] at q;cases q⟩
   rw [← hrel.len,List.getElem?_set_self (by simp)]
  split at hK
  ·exact nilc none hx.1 hK.1 hK.2
  ·obtain ⟨A0,he⟩ := hx
   exact nilc A0 he hK.1 hK.2
  ·rename_i i n
   obtain ⟨ob,hob,hk,he,hz,rfl,hroom,hK⟩ := hK
   obtain ⟨A0,m,c0,A1,c1,hμ,hle,hxv,heq⟩ := hx
   obtain ⟨us,A2,c2,e2,_⟩ := (hrel.objs i _ ob hμ hob).2.1 hk
   injection e2 with e2 e3 e4
   obtain ⟨rfl,rfl⟩ := heq e3.symm
   subst e3
   obtain ⟨A',c',w',S',hrun,r2,s2⟩ := zwY (P := P) o.type hT hrel hμ hob hk he hz h3 hall hroom
   unfold Oper.wp
   rw [hex _ _ (by rw [hxv,hv];exact hrun)]
   refine ⟨_,_,_,S',_,hK,rfl,⟨A',ob.c.length + es.length,c',A',c',?_,Nat.le_refl _,rfl,fun _=>⟨rfl,rfl⟩⟩,r2,s2,fun q=>by rw [ho] at q;cases q⟩
   rw [List.getElem?_set_self (List.getElem?_eq_some_iff.1 hμ).1]
  ·exact hK.elim
 ·exact h.elim
def zwT (P : Program) (t : TypeId) (H : List AObj) (x y : AV) (K : AV → List AObj → Prop) : Prop := match y with
 |.held (.inl (.string q))=>zMB P t H x (SL (zNu q)) K
 |_=>False
theorem zuN (q : ByteArray) : zN0 (zNu q) = zNu q := by
 unfold zNu zN0
 induction q.data.toList with
 |nil=>rfl
 |cons b r ih=>rw [List.map_cons,List.flatMap_cons,ih];rfl
theorem zuo (S : SS) (q : ByteArray) : reps S [] (zN0 (zNu q)) (byteCells q) := by
 rw [zuN]
 unfold zNu byteCells
 refine ⟨by simp,fun j d u hd hu=>?_⟩
 rw [List.getElem?_map] at hd hu
 cases hb : q.data.toList[j]? with
 |none=>rw [hb] at hd;cases hd
 |some b =>
  rw [hb] at hd hu
  cases hd;cases hu
  exact ⟨rfl,rfl,rfl⟩
theorem zrY (q : ByteArray) : (zNu q).length = q.size := by
 unfold zNu
 rw [List.length_map,Array.length_toList];rfl
theorem ztY {x y : Operand} {t t' : TypeId} {d e : AV} (hrel : Rel w S μ H) (ho : o.op = .call { callee := .builtin .append,args := #[x,y],argTypes := #[t,t'] }) (hx : rep S μ d (a.eval x)) (hy : rep S μ e (a.eval y)) (ht' : P.underlying t' = some .string) (h : zwT P t H d e K) : o.wp P a w (z4i w S μ H a o K) Q := by
 have hex : ∀ v w',(Builtin.append_ #[t,t'] o.type #[a.eval x,a.eval y]).run P w = .ok v w' → (execOp a.eval o).run P w = .ok (.value v) w' := by
  intro v w' hl
  unfold execOp
  rw [ho]
  simp only [resolve,invoke,builtin,Sem.run_bind,Sem.run_pure,Result.andThen_ok,List.map_toArray,List.map_cons,List.map_nil,hl]
 unfold zwT at h
 split at h
 rotate_left
 ·exact h.elim
 rename_i q
 have hv : a.eval y = .string q := hy.1
 generalize hes : zNu q = es at h
 have hlen : es.length = q.size := by rw [← hes,zrY]
 unfold zMB at h
 split at h
 ·rename_i et z hT
  have h : allC z es ∧ _ := h
  obtain ⟨hall,hK⟩ := h
  obtain ⟨_,inf,zv,hi,hzv,hzs,hsz,hz0,hby,_⟩ := zlj hT
  have hnr : ∀ S' : SS,reps S' [] (zN0 es) (byteCells q) := fun S'=>by rw [← hes];exact zuo S' q
  have hs : ∀ w0 : World,Src P z t' (a.eval y) es.length (byteCells q) w0 := by
   intro w0
   rw [hv]
   have hc : ∀ w1 : World,(Builtin.firstCells z es.length (.string q)).run P w1 = .ok (byteCells q).toArray w1 := fun w1=>by
    have := firstCells_string (P := P) q w1
    rw [hlen]
    exact this
   refine ⟨.inr ht',fun _=>by rw [hlen];rfl,hc w0,hc _,?_,?_⟩
   ·rw [byteCells_length,← hlen]
    rcases Nat.eq_zero_or_pos es.length with q0|q0
    ·rw [q0,Nat.zero_mul]
    ·obtain ⟨d0,hd0⟩ := List.exists_mem_of_length_pos q0
     have h1 := hall d0 hd0
     rw [← hes] at hd0
     obtain ⟨b0,_,rfl⟩ := List.mem_map.1 hd0
     have h1 : 1 = z := h1
     rw [← h1,Nat.mul_one]
   ·intro u hu
    obtain ⟨_,_,rfl⟩ := List.mem_map.1 hu
    rfl
  have nilc : ∀ (A0 : Option Addr),a.eval x = .slice A0 0 0 → es.length ≤ 34359738368 → K (OW H.length es.length) (H ++ [⟨2,et,z,es⟩]) → o.wp P a w (z4i w S μ H a o K) Q := by
   intro A0 he hroom hK
   obtain ⟨r1,s1⟩ := hrel.nilRow A0 et z
   have g1 : (μ ++ [Value.slice A0 0 0])[H.length]? = some (.slice A0 0 0) := by rw [← hrel.len];simp
   have g2 : (H ++ [(⟨2,et,z,[]⟩ : AObj)])[H.length]? = some ⟨2,et,z,[]⟩ := by simp
   obtain ⟨A',c',w',S',hrun,r2,s2⟩ := row_appS (P := P) o.type hT r1 g1 g2 rfl rfl rfl (hs w) (hnr S) hall (by simpa using hroom)
   have e1 : (H ++ [(⟨2,et,z,[]⟩ : AObj)]).set H.length { (⟨2,et,z,[]⟩ : AObj) with c := [] ++ es } = H ++ [⟨2,et,z,es⟩] := by simp
   rw [e1] at r2 s2
   simp only [List.length_nil,Nat.zero_add] at hrun r2 s2
   unfold Oper.wp
   rw [hex _ _ (by rw [he];exact hrun)]
   refine ⟨_,_,_,S',_,hK,rfl,⟨A',es.length,c',A',c',?_,Nat.le_refl _,rfl,fun _=>⟨rfl,rfl⟩⟩,r2,s1.trans (s2.less (by simp)),fun q=>by rw [ho] at q;cases q⟩
   rw [← hrel.len,List.getElem?_set_self (by simp)]
  split at hK
  ·exact nilc none hx.1 hK.1 hK.2
  ·obtain ⟨A0,he⟩ := hx
   exact nilc A0 he hK.1 hK.2
  ·rename_i i n
   obtain ⟨ob,hob,hk,he,hz,rfl,hroom,hK⟩ := hK
   obtain ⟨A0,m,c0,A1,c1,hμ,hle,hxv,heq⟩ := hx
   obtain ⟨us,A2,c2,e2,_⟩ := (hrel.objs i _ ob hμ hob).2.1 hk
   injection e2 with e2 e3 e4
   obtain ⟨rfl,rfl⟩ := heq e3.symm
   subst e3
   obtain ⟨A',c',w',S',hrun,r2,s2⟩ := row_appS (P := P) o.type hT hrel hμ hob hk he hz (hs w) (hnr S) hall hroom
   unfold Oper.wp
   rw [hex _ _ (by rw [hxv];exact hrun)]
   refine ⟨_,_,_,S',_,hK,rfl,⟨A',ob.c.length + es.length,c',A',c',?_,Nat.le_refl _,rfl,fun _=>⟨rfl,rfl⟩⟩,r2,s2,fun q=>by rw [ho] at q;cases q⟩
   rw [List.getElem?_set_self (List.getElem?_eq_some_iff.1 hμ).1]
  ·exact hK.elim
 ·exact h.elim
def asI (x : Option AV) (d : Int) (K : Int → Prop) : Prop :=
 match x with
 |none=>K d
 |some (.held (.inl (.int _ i)))=>K i
 |_=>False
def zL8 (es : List AV) (l h : Int) : List AV := (es.take h.toNat).drop l.toNat
def zkW (P : Program) (t : TypeId) (H : List AObj) (x : AV) (lo hi : Option AV) (K : AV → Prop) : Prop :=
 match x with
 |.held (.inl (.string s))=>P.underlying t = some .string ∧ asI lo 0 fun l=>asI hi s.size fun h=>0 ≤ l ∧ l ≤ h ∧ h ≤ s.size ∧ K (V (.string (s.extract l.toNat h.toNat)))
 |x=>match zeD P t with
  |some (_,ek)=>z8K H x fun es=>allC (zMH ek) es ∧ asI lo 0 fun l=>asI hi es.length fun h=>0 ≤ l ∧ l ≤ h ∧ h ≤ es.length ∧ K (SL (zL8 es l h))
  |none=>False
theorem zrc {x : Option AV} {v : Option Value} (hx : ∀ d,x = some d → ∃ u,v = some u ∧ rep S μ d u) (hn : x = none → v = none) {d : Int} {K : Int → Prop} (h : asI x d K) :
  ∃ i,K i ∧ ((x = none ∧ v = none ∧ i = d) ∨ ∃ k,v = some (.int k i)) := by
 unfold asI at h
 split at h
 ·exact ⟨d,h, .inl ⟨rfl,hn rfl,rfl⟩⟩
 ·rename_i k i
  obtain ⟨u,e1,e2,_⟩ := hx _ rfl
  exact ⟨i,h, .inr ⟨k,by rw [e1,e2]⟩⟩
 ·exact h.elim
theorem zoV {isS : Bool} {n c : Nat} {lo hi : Option Value} {l h : Int} (hl : (lo = none ∧ l = 0) ∨ ∃ k,lo = some (.int k l)) (hh : (hi = none ∧ h = n) ∨ ∃ k,hi = some (.int k h)) (h0 : 0 ≤ l) (h1 : l ≤ h) (h2 : h ≤ n) (hc : n ≤ c) :
  (Instr.sliceBounds isS n c lo hi none).run P w = .ok (l.toNat,h.toNat,c) w := by
 have b1 : ∀ (k : IntKind) (y : Nat) (code : BoundsCode) (i : Int),0 ≤ i → i ≤ y → (Instr.sliceBound (.int k i) y code).run P w = .ok i.toNat w := by
  intro k y code i hi1 hi2
  simp only [Instr.sliceBound,asIntOf,Sem.run_bind,Sem.run_pure,Result.andThen_ok,hi1,hi2,and_self,if_true]
 have e1 : h ≤ (c : Int) := by omega
 rcases hl with ⟨rfl,rfl⟩|⟨k,rfl⟩ <;> rcases hh with ⟨rfl,rfl⟩|⟨k',rfl⟩
 ·simp [Instr.sliceBounds,Sem.run_pure]
 ·have := b1 k' c (if isS then .sliceAcap else .sliceAlen) h (by omega) e1
  simp [Instr.sliceBounds,Sem.run_pure,this]
 ·have := b1 k n .sliceB l h0 (by omega)
  simp [Instr.sliceBounds,Sem.run_pure,this]
 ·have := b1 k' c (if isS then .sliceAcap else .sliceAlen) h (by omega) e1
  have := b1 k h.toNat .sliceB l h0 (by omega)
  simp [Instr.sliceBounds,Sem.run_pure, *]
theorem zBH {b q z : Nat} {es : List AV} (h : inS S b q z es) (l k : Nat) : inS S b (q + l * z) z ((es.take k).drop l) := by
 intro i d hd
 rw [List.getElem?_drop] at hd
 rw [List.getElem?_take] at hd
 split at hd
 ·obtain ⟨h1,h2⟩ := h _ d hd
  refine ⟨h1,fun j y hy=>?_⟩
  have := h2 j y hy
  rw [show q + l * z + i * z + j = q + (l + i) * z + j by rw [Nat.add_mul];omega];exact this
 ·cases hd
theorem zAr {t : TypeId} {x : Operand} {lo hi : Option Operand} {d : AV} {dl dh : Option AV} (hrel : Rel w S μ H) (ho : o.op = .slice t x lo hi none) (hx : rep S μ d (a.eval x))
  (hl : ∀ y,dl = some y → ∃ u,lo.map a.eval = some u ∧ rep S μ y u) (hl0 : dl = none → lo.map a.eval = none) (hh : ∀ y,dh = some y → ∃ u,hi.map a.eval = some u ∧ rep S μ y u) (hh0 : dh = none → hi.map a.eval = none)
  (h : zkW P t H d dl dh fun r=>K r H) : o.wp P a w (z4i w S μ H a o K) Q := by
 have hex : ∀ v,(Instr.sliceAt t (a.eval x) (lo.map a.eval) (hi.map a.eval) none).run P w = .ok v w → (execOp a.eval o).run P w = .ok (.value v) w := by
  intro v hr
  unfold execOp
  rw [ho]
  simp only [Option.map_none,Sem.run_bind,hr,Result.andThen_ok,Sem.run_pure]
 unfold zkW at h
 split at h
 ·rename_i s
  obtain ⟨hu,h⟩ := h
  obtain ⟨he,_⟩ := hx
  obtain ⟨l,h,h1⟩ := zrc hl hl0 h
  obtain ⟨k,⟨c0,c1,c2,hK⟩,h2⟩ := zrc hh hh0 h
  refine z4v hrel (hex (.string (s.extract l.toNat k.toNat)) ?_) hK (zsm rfl)
  rw [he]
  have hb := zoV (P := P) (w := w) (isS := false) (n := s.size) (c := s.size) (lo := lo.map a.eval) (hi := hi.map a.eval) (l := l) (h := k) (h1.elim (fun q=>.inl q.2) .inr) (h2.elim (fun q=>.inl q.2) .inr) c0 c1 c2 (Nat.le_refl _)
  simp only [Instr.sliceAt,run_underlying hu,Sem.run_bind,Result.andThen_ok,Instr.slice,Option.isSome_none,Bool.false_eq_true,if_false,hb,Sem.run_pure]
 ·rename_i hne
  split at h
  case h_2=>exact h.elim
  rename_i et ek hst
  obtain ⟨hu,hkk,hk,hz⟩ := zce hst
  have hsz := zfQ (P := P) (t := et) w (by rw [hkk];exact hk)
  obtain ⟨es,A,c,⟨hall,h⟩,hv,b1,b2,b3⟩ := zm3 hrel hx h
  obtain ⟨l,h,h1⟩ := zrc hl hl0 h
  obtain ⟨k,⟨c0,c1,c2,hK⟩,h2⟩ := zrc hh hh0 h
  have hb := zoV (P := P) (w := w) (isS := true) (n := es.length) (c := c) (lo := lo.map a.eval) (hi := hi.map a.eval) (l := l) (h := k) (h1.elim (fun q=>.inl q.2) .inr) (h2.elim (fun q=>.inl q.2) .inr) c0 c1 c2 b1
  refine z4v hrel (hex (.slice (if c = l.toNat then A else A.map (·.add (l.toNat * zMH (z1T P et)))) (k.toNat - l.toNat) (c - l.toNat)) ?_) hK ?_
  ·rw [hv]
   simp only [Instr.sliceAt,run_underlying hu,Sem.run_bind,Result.andThen_ok,Instr.slice,hb,hsz,Sem.run_pure]
  ·have hlen : (zL8 es l k).length = k.toNat - l.toNat := by
    simp only [zL8,List.length_drop,List.length_take];omega
   refine ⟨_,c - l.toNat,by rw [hlen],by rw [hlen];omega,by omega,fun hne2=>?_⟩
   have hpos : 0 < k.toNat - l.toNat := by rw [← hlen];exact List.length_pos_iff.2 hne2
   have hesne : es ≠ [] := by
    intro e
    have e0 : es.length = 0 := by rw [e];rfl
    omega
   obtain ⟨b,q,z,rfl,hin⟩ := b3 hesne
   have hzz : z = zMH (z1T P et) := by
    obtain ⟨d,hd⟩ := List.exists_mem_of_length_pos (List.length_pos_iff.2 hesne)
    rw [← hin.allC d hd,hall d hd,hkk]
   rw [if_neg (by omega)]
   refine ⟨b,q + l.toNat * z,z,?_,zBH hin _ _⟩
   rw [hzz]
   simp only [Option.map_some,Addr.add_lit]
def zfC (P : Program) (t : TypeId) (x ix : AV) (K : AV → Prop) : Prop :=
 match ix with
 |.held (.inl (.int _ i))=>(match x with
  |.held (.inl (.string s))=>P.underlying t = some .string ∧ 0 ≤ i ∧ i < s.size ∧ K (V (.int .u8 ((s.data.toList.getD i.toNat 0).toNat : Int)))
  |.agg cs=>(match zl1 P t with
   |some (n,ek)=>0 ≤ i ∧ i < n ∧ z6R ek cs (i.toNat * zMH ek) K
   |none=>False)
  |_=>False)
 |_=>False
theorem zy7 {t : TypeId} {x y : Operand} {d e : AV} (hrel : Rel w S μ H) (ho : o.op = .index t x y) (hx : rep S μ d (a.eval x)) (hy : rep S μ e (a.eval y)) (h : zfC P t d e fun r=>K r H) : o.wp P a w (z4i w S μ H a o K) Q := by
 have hex : ∀ v,(Instr.index t (a.eval x) (a.eval y)).run P w = .ok v w → (execOp a.eval o).run P w = .ok (.value v) w := by
  intro v hr
  unfold execOp
  rw [ho]
  simp only [Sem.run_bind,hr,Result.andThen_ok,Sem.run_pure]
 unfold zfC at h
 split at h
 ·rename_i k i
  obtain ⟨hi,_⟩ := hy
  split at h
  ·rename_i s
   obtain ⟨hu,h0,h1,hK⟩ := h
   obtain ⟨he,_⟩ := hx
   refine z4v hrel (hex _ ?_) hK (zsm rfl)
   rw [he,hi]
   have hlt : i.toNat < s.size := by omega
   have e1 : s[i.toNat]? = some s[i.toNat] := by simp [hlt]
   have e2 : s.data.toList.getD i.toNat 0 = s[i.toNat] := by
    have : i.toNat < s.data.size := hlt
    simp only [List.getD_eq_getElem?_getD,Array.getElem?_toList,Array.getElem?_eq_getElem this,Option.getD_some];rfl
   simp only [Instr.index,asIntOf,run_underlying hu,Sem.run_bind,Sem.run_pure,Result.andThen_ok,h0,if_true,e1,e2]
  ·rename_i cs
   split at h
   ·rename_i n ek hat
    obtain ⟨h0,h1,h⟩ := h
    obtain ⟨et,hu,rfl,hk,hz⟩ := zn0 hat
    have hsz := zfQ (P := P) (t := et) w hk
    obtain ⟨us,he,hr⟩ := hx
    have hix : ∀ v,(part et us.toArray (i.toNat * zMH (z1T P et))).run P w = .ok v w → (Instr.index t (a.eval x) (a.eval y)).run P w = .ok v w := by
     intro v hp
     rw [he,hi]
     simp only [Instr.index,asIntOf,run_underlying hu,Sem.run_bind,Sem.run_pure,Result.andThen_ok,h0,h1,and_self,if_true,hsz,hp]
    unfold z6R at h
    split at h
    ·rename_i h2
     obtain ⟨d,hd,hK⟩ := h
     have hlt : i.toNat * zMH (z1T P et) < us.length := by rw [hr.1];exact (List.getElem?_eq_some_iff.1 hd).1
     have hh := hr.2 _ d _ hd (List.getElem?_eq_getElem hlt)
     refine z4v hrel (hex us[i.toNat * zMH (z1T P et)] (hix _ ?_)) hK (z7G ?_)
     ·simp only [part,Sem.run_bind,(zjA (P := P) (t := et) w h2).1,Result.andThen_ok]
      simp [hlt,Sem.run_pure]
     ·unfold repA
      split
      ·exact hh.2.elim
      ·exact hh.2
    ·obtain ⟨h2,h3,hK⟩ := h
     obtain ⟨n,hn⟩ : ∃ n,z1T P et = n + 2 := ⟨z1T P et - 2,by omega⟩
     have hg := zjH (P := P) (t := et) w hn
     rw [hn] at h3 hK
     simp only [Nat.add_sub_cancel] at h3 hK
     refine z4v hrel (hex (.agg (us.toArray.extract (i.toNat * zMH (z1T P et)) (i.toNat * zMH (z1T P et) + n))) (hix _ ?_)) hK ⟨(us.drop (i.toNat * zMH (z1T P et))).take n,by simp [List.extract_eq_take_drop],by rw [hn];rw [List.length_take,List.length_take,List.length_drop,List.length_drop,hr.1],fun j d u hd hu'=>?_⟩
     ·simp only [part,Sem.run_bind,hg.1,hg.2,Result.andThen_ok,if_true,Sem.run_pure]
     ·rw [hn] at hu'
      rw [List.getElem?_take] at hd hu'
      split at hd
      ·rw [if_pos (by assumption)] at hu'
       rw [List.getElem?_drop] at hd hu'
       exact hr.2 _ d u hd hu'
      ·cases hd
   ·exact h.elim
  ·exact h.elim
 ·exact h.elim
end
end Go.Proofs.Ytaaogcnjfkgnoaa

namespace Go.Proofs.Ytaaogcnjfkgnoaa
open Go.RowKit
theorem zoP {α : Type} (x : Sem α) : x.bind Sem.pure = x := by
 induction x with
 |pure a=>rfl
 |load m a k ih=>simp [Sem.bind,ih]
 |store m a v k ih=>simp [Sem.bind,ih]
 |new o k ih=>simp [Sem.bind,ih]
 |shape r k ih=>simp [Sem.bind,ih]
 |freeze a n k ih=>simp [Sem.bind,ih]
 |frozen a k ih=>simp [Sem.bind,ih]
 |getObj r k ih=>simp [Sem.bind,ih]
 |setObj r o k ih=>simp [Sem.bind,ih]
 |choose q k ih=>simp [Sem.bind,ih]
 |sys c k ih=>simp [Sem.bind,ih]
 |program k ih=>simp [Sem.bind,ih]
 |mark m k ih=>simp [Sem.bind,ih]
 |halt h=>rfl
theorem znu {α β γ : Type} (x : Sem α) (f : α → Sem β) (g : β → Sem γ) : (x.bind f).bind g = x.bind fun a=>(f a).bind g := by
 induction x with
 |pure a=>rfl
 |load m a k ih=>simp [Sem.bind,ih]
 |store m a v k ih=>simp [Sem.bind,ih]
 |new o k ih=>simp [Sem.bind,ih]
 |shape r k ih=>simp [Sem.bind,ih]
 |freeze a n k ih=>simp [Sem.bind,ih]
 |frozen a k ih=>simp [Sem.bind,ih]
 |getObj r k ih=>simp [Sem.bind,ih]
 |setObj r o k ih=>simp [Sem.bind,ih]
 |choose q k ih=>simp [Sem.bind,ih]
 |sys c k ih=>simp [Sem.bind,ih]
 |program k ih=>simp [Sem.bind,ih]
 |mark m k ih=>simp [Sem.bind,ih]
 |halt h=>rfl
theorem zfJ : LawfulMonad Sem := LawfulMonad.mk' Sem (fun x=>zoP x) (fun a f=>rfl) (fun x f g=>znu x f g)
theorem zky {P : Program} {w : World} {α β : Type} {f : α → Sem β} {g : α → Option β} (h : ∀ x y,g x = some y → (f x).run P w = .ok y w) : ∀ {l : List α} {r : List β},l.mapM g = some r → (l.mapM f).run P w = .ok r w
 |[],r,hr=>by
  simp at hr;subst hr
  have := zfJ
  simp [Sem.run_pure]
 |x :: l,r,hr=>by
  have := zfJ
  rw [List.mapM_cons] at hr ⊢
  cases hx : g x with
  |none=>rw [hx] at hr;simp at hr
  |some y =>
   rw [hx] at hr
   cases hl : l.mapM g with
   |none=>rw [hl] at hr;simp at hr
   |some ys =>
    rw [hl] at hr
    simp at hr;subst hr
    simp only [Sem.run_bind,h x y hx,Result.andThen_ok,zky h hl,Sem.run_pure]
theorem zyx {P : Program} {w : World} {α β : Type} {f : α → Sem β} {g : α → Option β} (h : ∀ x y,g x = some y → (f x).run P w = .ok y w) {l : Array α} {r : List β} (hl : l.toList.mapM g = some r) : (l.mapM f).run P w = .ok r.toArray w := by
 have := zfJ
 rw [Array.mapM_eq_mapM_toList]
 simp only [map_eq_pure_bind,Sem.run_bind,zky h hl,Result.andThen_ok,Sem.run_pure]
theorem ziD {α : Type} (off : Nat) : ∀ (l : List α) (k : Nat) (cells : Array α),((l.zipIdx k).foldl (fun cs (cj : α × Nat)=>cs.setIfInBounds (off + cj.2) cj.1) cells).toList = z09 cells.toList (off + k) l
 |[],k,cells=>rfl
 |x :: l,k,cells=>by
  simp only [List.zipIdx_cons,List.foldl_cons,z09]
  rw [ziD off l (k + 1)]
  simp only [Array.toList_setIfInBounds]
  rfl
theorem zpX {S : SS} {μ : List Value} {c : List AV} {u : List Value} (h : reps S μ c u) {xs : List AV} {vs : List Value} (hx : reps S μ xs vs) {o : Nat} (hf : o + xs.length ≤ c.length) : reps S μ (z09 c o xs) (z09 u o vs) := by
 refine ⟨by rw [z5K,z5K,h.1],fun j d v hd hv=>?_⟩
 rw [z4L _ _ _ hf] at hd
 rw [z4L _ _ _ (by rw [hx.1,h.1];exact hf),hx.1] at hv
 split at hd
 ·rw [if_pos (by assumption)] at hv;exact hx.2 _ d v hd hv
 ·rw [if_neg (by assumption)] at hv;exact h.2 _ d v hd hv
def aFill (place : Nat → Option (Nat × Nat)) : List (Nat × AV) → List AV → Option (List AV)
  | [], cs => some cs
  | (i, d) :: r, cs => match place i with
    | none => none
    | some (off, size) => if (cellsOf d).length = size ∧ off + (cellsOf d).length ≤ cs.length ∧ (cellsOf d).all zN7  = true then aFill place r (z09      cs off (cellsOf d)) else none
theorem fill_reps {S : SS} {μ : List Value} {place : Nat → Option (Nat × Nat)} : ∀ {ds : List (Nat × AV)} {vs : List (Nat × Value)} {cs cs' : List AV} {cells : Array Value}, reps S μ cs cells.toList → aFill place ds cs = some cs' →
    vs.length = ds.length → (∀ (j : Nat) (x : Nat × AV) (y : Nat × Value), ds[j]? = some x → vs[j]? = some y → y.1 = x.1 ∧ rep S μ x.2 y.2) → ∃ cells', Instr.fill place cells vs = some cells' ∧ reps S μ cs' cells'.toList
  | [], [], cs, cs', cells, hr, hf, _, _ => by
    simp [aFill] at hf; subst hf; exact ⟨cells, rfl, hr⟩
  | [], _ :: _, _, _, _, _, _, hl, _ => by simp at hl
  | _ :: _, [], _, _, _, _, _, hl, _ => by simp at hl
  | (i, d) :: ds, (i', v) :: vs, cs, cs', cells, hr, hf, hl, hv => by
    obtain ⟨e1, e2⟩ := hv 0 (i, d) (i', v) rfl rfl
    simp only at e1 e2
    subst e1
    simp only [aFill] at hf
    cases hp : place i' with
    | none => rw [hp] at hf; cases hf
    | some os =>
      obtain ⟨off, size⟩ := os
      rw [hp] at hf
      simp only at hf
      split at hf
      · rename_i hh
        obtain ⟨h1, h2, h3⟩ := hh
        have hrv := zjM         e2 h3
        have hvl : v.cells.size = (cellsOf d).length := by rw [← hrv.1]; simp
        have hcl : cells.size = cs.length := by rw [← hr.1]; simp
        have hst := zpX           hr hrv (o := off) h2
        have hfo : (v.cells.zipIdx.foldl (fun cs (cj : Value × Nat) => cs.setIfInBounds (off + cj.2) cj.1) cells).toList = z09      cells.toList off v.cells.toList := by
          rw [← Array.foldl_toList, Array.toList_zipIdx]
          exact ziD            off v.cells.toList 0 cells
        rw [← hfo] at hst
        obtain ⟨cells', hfill, hrep⟩ := fill_reps hst hf (by simpa using hl) fun j x y hx hy => hv (j + 1) x y (by simpa using hx) (by simpa using hy)
        refine ⟨cells', ?_, hrep⟩
        unfold Instr.fill
        rw [hp]
        simp only
        rw [if_neg (by simp only [Bool.or_eq_true, decide_eq_true_eq, not_or]; omega)]
        exact hfill
      · cases hf
end Go.Proofs.Ytaaogcnjfkgnoaa

namespace Go.Proofs.Ytaaogcnjfkgnoaa
open Go.RowKit
def zpj (P : Program) (t : TypeId) : Option (List (Nat × Nat)) :=
 match P.underlying t with
 |some (.struct fs)=>fs.toList.mapM fun f=>(P.info? f.type).map fun i=>(f.offset,i.size)
 |_=>none
theorem zpQ {P : Program} {t : TypeId} {c : List AV} (h : zpm P t = some c) : ∃ i z,P.info? t = some i ∧ i.zero = some z ∧ c = z.cells.toList.map (fun u=>V u) ∧ ∀ S μ,reps S μ c z.cells.toList := by
 unfold zpm at h
 cases hi : P.info? t with
 |none=>rw [hi] at h;cases h
 |some i =>
  rw [hi] at h
  simp only [Option.map_some] at h
  cases hzz : i.zero with
  |none=>rw [hzz] at h;cases h
  |some z =>
   rw [hzz] at h
   simp only at h
   split at h
   ·rename_i hall
    injection h with h;subst h
    refine ⟨i,z,rfl,hzz,rfl,fun S μ=>⟨by simp,fun j d u hd hu=>?_⟩⟩
    rw [List.getElem?_map,hu] at hd
    simp at hd;subst hd
    have h1 : u.oneCell' = true := by
     rw [Array.all_eq_true_iff_forall_mem] at hall
     exact hall u (by rw [← Array.mem_toList_iff];exact List.mem_of_getElem? hu)
    exact ⟨h1,rfl,h1⟩
   ·cases h
section
variable {P : Program} {G : Gl} {w : World} {S : SS} {μ : List Value} {H : List AObj} {a : Act} {o : Oper} {K : AV → List AObj → Prop} {Q : Exit → Act → World → Prop} {T : Tm} {N : FS}
def zlS (P : Program) (t : TypeId) (ps : List (Nat × AV)) (K : AV → Prop) : Prop :=
 match zpj P t,zpm P t with
 |some pl,some z=>(match aFill (pl[·]?) ps z with|some cs=>K (.agg cs)|none=>False)
 |_,_=>False
theorem zra (hf : Fr S μ N T a) (hg : GOk G S) (parts : Array (Nat × Operand)) : ((parts.map fun (i,x)=>(i,a.eval x)).toList).length = (parts.toList.map fun p=>(p.1,ev G T p.2)).length ∧
  ∀ (j : Nat) (x : Nat × AV) (y : Nat × Value),(parts.toList.map fun p=>(p.1,ev G T p.2))[j]? = some x → (parts.map fun (i,x)=>(i,a.eval x)).toList[j]? = some y → y.1 = x.1 ∧ rep S μ x.2 y.2 := by
 refine ⟨by simp,fun j x y hx hy=>?_⟩
 rw [List.getElem?_map] at hx
 simp only [Array.toList_map,List.getElem?_map] at hy
 cases hp : parts.toList[j]? with
 |none=>rw [hp] at hx;cases hx
 |some p =>
  rw [hp] at hx hy
  simp at hx hy
  subst hx hy
  exact ⟨rfl,hf.ev hg p.2⟩
theorem zA5 {t : TypeId} {parts : Array (Nat × Operand)} (hrel : Rel w S μ H) (hf : Fr S μ N T a) (hg : GOk G S) (ho : o.op = .build t parts) (h : zlS P t (parts.toList.map fun p=>(p.1,ev G T p.2)) fun r=>K r H) :
  o.wp P a w (z4i w S μ H a o K) Q := by
 unfold zlS at h
 split at h
 ·rename_i pl z hpl hz
  split at h
  ·rename_i cs hcs
   obtain ⟨i,zv,hi,hzv,rfl,hzr⟩ := zpQ hz
   obtain ⟨hl,hp⟩ := zra hf hg parts
   obtain ⟨cells',hfill,hrep⟩ := fill_reps (hzr S μ) hcs hl hp
   unfold zpj at hpl
   cases hu : P.underlying t with
   |none=>rw [hu] at hpl;cases hpl
   |some d =>
    rw [hu] at hpl
    cases d <;> simp only at hpl <;> try (cases hpl;done)
    rename_i fs
    have hm := zyx (P := P) (w := w) (f := fun f : Field=>(do pure (f.offset,← sizeOf f.type) : Sem (Nat × Nat))) (g := fun f : Field=>(P.info? f.type).map fun i=>(f.offset,i.size)) (fun x y hxy=>by
     cases hx : P.info? x.type with
     |none=>rw [hx] at hxy;cases hxy
     |some ix =>
      rw [hx] at hxy
      simp at hxy;subst hxy
      simp [sizeOf,typeInfo,hx]) hpl
    refine z4v (u := .agg cells') hrel ?_ h ⟨cells'.toList,by simp,hrep⟩
    unfold execOp
    rw [ho]
    have hfill' : Instr.fill (pl.toArray[·]?) zv.cells (parts.map fun (i,x)=>(i,a.eval x)).toList = some cells' := by
     rw [← hfill];congr 1;funext i;simp
    simp only [Instr.build,zeroValue,typeInfo,run_program,hi,hzv,run_underlying hu,Sem.run_bind,Sem.run_pure,Result.andThen_ok,hm,hfill']
  ·exact h.elim
 ·exact h.elim
def zvt (d : AV) : Bool := (cellsOf d).all fun y=>zN7 y && lt1 0 y
def bsV : List AV → AV
 |[]=>ZV
 |es=>SL es
theorem zD2 : bsV [] = ZV := rfl
theorem zyU {x : AV} {es : List AV} : bsV (x :: es) = SL (x :: es) := rfl
def zfa (P : Program) (t : TypeId) (n : Nat) (ps : List (Nat × AV)) (K : AV → Prop) : Prop :=
 match zKT P t with
 |some (_,z)=>ps.map (·.1) = List.range n ∧ allC z (ps.map (·.2)) ∧ (ps.map (·.2)).all zvt = true ∧ n * z ≤ 16777216 ∧ K (bsV (ps.map (·.2)))
 |none=>False
theorem zrN {α : Type} : ∀ (xs l : List α) (o : Nat),o + xs.length ≤ l.length → z09 l o xs = l.take o ++ xs ++ l.drop (o + xs.length) := by
 intro xs l o h
 apply List.ext_getElem?
 intro j
 rw [z4L _ _ _ h]
 split
 ·rename_i hh
  rw [List.append_assoc,List.getElem?_append_right (by rw [List.length_take];omega),List.length_take,List.getElem?_append_left (by omega),Nat.min_eq_left (by omega)]
 ·rename_i hh
  rcases Nat.lt_or_ge j o with hlt|hge
  ·rw [List.append_assoc,List.getElem?_append_left (by rw [List.length_take];omega),List.getElem?_take,if_pos hlt]
  ·rw [List.append_assoc,List.getElem?_append_right (by rw [List.length_take];omega),List.length_take,List.getElem?_append_right (by omega),List.getElem?_drop]
   congr 1;omega
theorem zr1 {z : Nat} : ∀ (ds : List AV) (k : Nat) (cs : List AV),allC z ds → ds.all zvt = true → cs.length = (k + ds.length) * z →
  aFill (fun i=>some (i * z,z)) ((List.range' k ds.length).zip ds) cs = some (cs.take (k * z) ++ zN0 ds)
 |[],k,cs,_,_,hl=>by
  simp only [List.length_nil,Nat.add_zero] at hl
  simp [aFill,zN0,← hl]
 |d :: ds,k,cs,hc,hp,hl=>by
  have h0 := hc d (List.mem_cons_self ..)
  simp only [List.all_cons,Bool.and_eq_true] at hp
  have hs : (cellsOf d).all zN7 = true := by
   have := hp.1
   simp only [zvt,List.all_eq_true,Bool.and_eq_true] at this ⊢
   exact fun x hx=>(this x hx).1
  simp only [List.length_cons] at hl
  have hlen : k * z + z ≤ cs.length := by rw [hl,Nat.add_mul,Nat.succ_mul];omega
  simp only [List.length_cons,List.range'_succ,List.zip_cons_cons,aFill]
  rw [if_pos ⟨h0,by rw [h0];exact hlen,hs⟩]
  rw [zr1 ds (k + 1) _ (fun x hx=>hc x (List.mem_cons_of_mem _ hx)) hp.2 (by rw [z5K,hl];congr 1;omega)]
  rw [zrN _ _ _ (by rw [h0];exact hlen),h0]
  congr 1
  have e1 : (cs.take (k * z) ++ cellsOf d).length = (k + 1) * z := by rw [List.length_append,List.length_take,h0,Nat.succ_mul];omega
  rw [← e1,List.take_left]
  simp [zN0]
theorem op_buildSlice {t : TypeId} {n : Nat} {parts : Array (Nat × Operand)} (hrel : Rel w S μ H) (hf : Fr S μ N T a) (hg : GOk G S) (ho : o.op = .buildSlice t n parts) (h : zfa     P t n (parts.toList.map fun p => (p.1, ev G T p.2)) fun r => K r H) :
    o.wp P a w (z4i    w S μ H a o K) Q := by
  unfold zfa     at h
  split at h
  · rename_i e z hT
    obtain ⟨hidx, hall, hpure, hroom, hK⟩ := h
    obtain ⟨hu, inf, zv, hi, hzv, hzs, hsz, hz0, hby, hone⟩ := zlj       hT
    obtain ⟨hl, hp⟩ := zra       hf hg parts
    have hln : (parts.toList.map fun p => (p.1, ev G T p.2)).length = n := by
      have := congrArg List.length hidx
      simpa using this
    generalize (parts.toList.map fun p => (p.1, ev G T p.2)) = ds at *
    have hzip : (List.range' 0 (ds.map (·.2)).length).zip (ds.map (·.2)) = ds := by
      rw [List.length_map, ← List.range_eq_range', hln, ← hidx]
      apply List.ext_getElem?
      intro j
      cases hd : ds[j]? with
      | none =>
        rw [List.getElem?_eq_none]
        have := List.getElem?_eq_none_iff.1 hd
        simp; omega
      | some x =>
        rw [(List.getElem?_zip_eq_some (z := x)).2 ⟨by rw [List.getElem?_map, hd]; rfl, by rw [List.getElem?_map, hd]; rfl⟩]
    have hzc : ∀ zero : Array Value, zero = (if n * z = 0 then #[] else zv.cells) → reps S μ (List.replicate (n * z) DataW.nil) ((Array.range (n * z)).map (fun i => zero[i % zero.size]!)).toList := by
      intro zero hzero
      refine ⟨by simp, fun j d u hd hu' => ?_⟩
      have hj : j < n * z := by have := (List.getElem?_eq_some_iff.1 hd).1; simpa using this
      rw [if_neg (by omega)] at hzero
      subst hzero
      simp only [Array.toList_map, Array.toList_range, List.getElem?_map, List.getElem?_range hj, Option.map_some, Option.some.injEq] at hu'
      have hm : j % zv.cells.size < zv.cells.size := Nat.mod_lt _ (by omega)
      rw [getElem!_pos zv.cells _ hm] at hu'
      subst hu'
      rw [List.getElem?_replicate, if_pos hj] at hd
      injection hd with hd; subst hd
      rw [Array.all_eq_true_iff_forall_mem] at hone
      exact ⟨hone _ (Array.getElem_mem hm), trivial⟩
    have hfs := zr1       (z := z) (ds.map (·.2)) 0 (List.replicate (n * z) DataW.nil) hall hpure (by simp [hln])
    rw [hzip] at hfs
    simp only [Nat.zero_mul, List.take_zero, List.nil_append] at hfs
    obtain ⟨cells', hfill, hrep⟩ := fill_reps (hzc _ rfl) hfs hl hp
    have hfl := z3Y          hall
    rw [List.length_map, hln] at hfl
    have hp0 : ∀ d ∈ zN0  (ds.map (·.2)), lt1 0 d = true := by
      intro d hd
      simp only [zN0 , List.mem_flatMap] at hd
      obtain ⟨x, hx, hd⟩ := hd
      have := (List.all_eq_true.1 hpure) x hx
      simp only [zvt  , List.all_eq_true, Bool.and_eq_true] at this
      exact (this d hd).2
    have hrep0 : reps S [] (zN0  (ds.map (·.2))) cells'.toList := by simpa using hrep.take hp0
    have h1 : ∀ b j d, S b j d → (fun b j d => S b j d ∨ (b = w.heap.size ∧ (zN0  (ds.map (·.2)))[j]? = some d)) b j d := fun b j d h => .inl h
    obtain ⟨r2, s2⟩ := hrel.grow (w' := w.alloc (.cells cells' e)) (S' := fun b j d => S b j d ∨ (b = w.heap.size ∧ (zN0  (ds.map (·.2)))[j]? = some d)) ((Below.refl _ _).alloc (Nat.le_refl _) _) h1
      (by
        rintro b j d (q | ⟨q, _⟩)
        · exact .inl q
        · exact .inr (by omega))
      (by
        rintro b j d (q | ⟨rfl, q⟩) hb
        · have := hrel.still_lt q; omega
        · have hlt : j < cells'.toList.length := by rw [hrep0.1]; exact (List.getElem?_eq_some_iff.1 q).1
          have hh := hrep0.2 j d _ q (List.getElem?_eq_getElem hlt)
          refine ⟨cells'.toList[j], ?_, hh.1, hh.2.ext ⟨h1, fun i x hx => by simp at hx⟩⟩
          rw [cell_of_row _ w.heap.size j cells' e (0, 0) (heap_alloc_new w _)]
          simp at hlt; simp [hlt])
    unfold Oper.wp
    have hex : (execOp a.eval o).run P w = .ok (.value (.slice (some ⟨w.heap.size, 0, none⟩) n n)) (w.alloc (.cells cells' e)) := by
      unfold execOp
      rw [ho]
      have hlim : ¬ (n * z > 2 ^ 24) := by omega
      by_cases h0 : n * z = 0
      · rw [if_pos h0] at hfill
        simp only [Instr.buildSlice, run_underlying hu, sizeOf, zeroValue, typeInfo, run_program, hi, hzv, hsz, Sem.run_bind, Sem.run_pure, Result.andThen_ok, hlim, if_false, if_pos h0, hfill]
        simp [newRow, newObj, Sem.run]
      · rw [if_neg h0] at hfill
        simp only [Instr.buildSlice, run_underlying hu, sizeOf, zeroValue, typeInfo, run_program, hi, hzv, hsz, Sem.run_bind, Sem.run_pure, Result.andThen_ok, hlim, if_false, h0, hfill]
        simp [newRow, newObj, Sem.run]
    rw [hex]
    have hrepS : rep (fun b j d => S b j d ∨ (b = w.heap.size ∧ (zN0  (ds.map (·.2)))[j]? = some d)) μ (bsV (ds.map (·.2))) (.slice (some ⟨w.heap.size, 0, none⟩) n n) := by
      have h9 : rep (fun b j d => S b j d ∨ (b = w.heap.size ∧ (zN0  (ds.map (·.2)))[j]? = some d)) μ (SL (ds.map (·.2))) (.slice (some ⟨w.heap.size, 0, none⟩) n n) := ⟨_, n, by simp [hln], by simp [hln], by unfold maxLen; have := Nat.le_mul_of_pos_right n hz0; omega, fun hne => ⟨w.heap.size, 0, z, rfl, zlu      hall fun j y hy => .inr ⟨rfl, by simpa using hy⟩⟩⟩
      rcases ds with _ | ⟨d, r⟩
      · simp at hln; subst hln; exact ⟨_, rfl⟩
      · exact h9
    refine ⟨_, _, H, _, μ, hK, rfl, hrepS, r2, s2, fun _ => ⟨(Below.refl _ _).alloc (Nat.le_refl _) _, rfl, rfl, fun b j d q => q.elim .inl fun q => .inr (by omega)⟩⟩
  · exact h.elim
end
end Go.Proofs.Ytaaogcnjfkgnoaa

namespace Go.Proofs.Ytaaogcnjfkgnoaa
open Go.RowKit
open Go.Maps (Keyed)
section
variable {P : Program} {G : Gl} {w : World} {S : SS} {μ : List Value} {H : List AObj} {a : Act} {o : Oper} {K : AV → List AObj → Prop} {Q : Exit → Act → World → Prop}
def zMT : List AV → Option (List Value)
 |[]=>some []
 |.held (.inl u) :: cs=>(zMT cs).map (u :: ·)
 |_ :: _=>none
def zLP : AV → Option Value
 |.held (.inl u)=>some u
 |.agg cs=>(zMT cs).map fun us=>.agg us.toArray
 |_=>none
theorem zru : ∀ {cs : List AV} {us vs : List Value},zMT cs = some us → reps S μ cs vs → vs = us
 |[],us,vs,h,hr=>by cases h;exact List.eq_nil_of_length_eq_zero hr.1
 |d :: cs,us,vs,h,hr=>by
  cases vs with
  |nil=>have := hr.1;simp at this
  |cons v vs =>
   have h0 := hr.2 0 d v rfl rfl
   cases d with
   |held u0 =>
    cases u0 with
    |inl u =>
     have h : (zMT cs).map (u :: ·) = some us := h
     cases hc : zMT cs with
     |none=>rw [hc] at h;cases h
     |some us' =>
      rw [hc] at h
      simp at h;subst h
      have e : v = u := h0.2.1
      have := zru hc (vs := vs) ⟨by have := hr.1;simpa using this,fun j d' u' hd hu=>hr.2 (j + 1) d' u' hd hu⟩
      rw [e,this]
    |inr u=>cases h
   |_=>cases h
theorem ztB {d : AV} {k v : Value} (h : zLP d = some k) (hr : rep S μ d v) : v = k := by
 cases d with
 |held u0 =>
  cases u0 with
  |inl u=>cases h;exact hr.1
  |inr u=>cases h
 |agg cs =>
  obtain ⟨us,rfl,hu⟩ := (show ∃ us : List Value,v = .agg us.toArray ∧ reps S μ cs us from hr)
  have h : (zMT cs).map (fun us=>Value.agg us.toArray) = some k := h
  cases hc : zMT cs with
  |none=>rw [hc] at h;cases h
  |some us' =>
   rw [hc] at h
   simp at h;subst h
   rw [zru hc hu]
 |_=>cases h
def LookP (P : Program) (t : TypeId) (H : List AObj) (m x : AV) (ok : Bool) (d : AV) : Prop :=
 P = Try.prog ∧ ∃ i ob q key kl c,m = MP i ∧ H[i]? = some ob ∧ ob.k = 5 ∧ Keyed P ob.e ∧ P.underlying t = some (.map ob.e ob.z) ∧ P.underlying ob.z = some (.int q) ∧ (∀ w,(zeroValue ob.z).run P w = .ok (.int q 0) w) ∧
  zLP x = some key ∧ keyOf P ob.e key = some kl ∧ (zNc ob.c).atKey kl (.lit (.int q 0)) = .lit (.int q c) ∧ d = (if ok = true then TU [V (.int q c),V (.bool (Maps.has (zNc ob.c) kl))] else V (.int q c))
theorem zEm {i j : Nat} (h : MP i = MP j) : i = j := by injection h with _ h;injection h with h;injection h with h;injection h with h;injection h with h;injection h
theorem LookP.det {t : TypeId} {m x : AV} {ok : Bool} {d d' : AV} (h : LookP P t H m x ok d) (h' : LookP P t H m x ok d') : d = d' := by
 obtain ⟨_,i,ob,q,key,kl,c,rfl,h1,_,_,_,h2,_,h3,h4,h5,rfl⟩ := h
 obtain ⟨_,i',ob',q',key',kl',c',e,g1,_,_,_,g2,_,g3,g4,g5,rfl⟩ := h'
 have := zEm e
 subst this
 rw [h1] at g1;cases g1
 rw [h2] at g2;cases g2
 rw [h3] at g3;cases g3
 rw [h4] at g4;cases g4
 rw [h5] at g5;cases g5
 rfl
theorem LookP.more {t : TypeId} {m x : AV} {ok : Bool} {d : AV} (h : LookP P t H m x ok d) (X : List AObj) : LookP P t (H ++ X) m x ok d := by
 obtain ⟨h0,i,ob,q,key,kl,c,rfl,h1,rest⟩ := h
 exact ⟨h0,i,ob,q,key,kl,c,rfl,by rw [List.getElem?_append_left (List.getElem?_eq_some_iff.1 h1).1];exact h1,rest⟩
def zFD (P : Program) (t : TypeId) (H : List AObj) (m x : AV) (ok : Bool) (K : AV → Prop) : Prop := ∃ d,LookP P t H m x ok d ∧ K d
theorem zIN (hr : Rel w S μ H) {i : Nat} {ob : AObj} (hi : H[i]? = some ob) (hk : ob.k = 5) {v : Value} (hm : rep S μ (MP i) v) : ∃ b,μ[i]? = some (.map (some b)) ∧ v = .map (some b) ∧ w.ownsMap Try.prog ob.e (plainElem Try.prog ob.z) b ob.c.length (zNc ob.c) := by
 obtain ⟨b,h1,rfl⟩ := (show ∃ b,μ[i]? = some (.map (some b)) ∧ v = .map (some b) from hm)
 obtain ⟨b',h2,h3⟩ := (hr.objs i _ ob h1 hi).2.2.2 hk
 cases h2
 exact ⟨b,h1,rfl,h3⟩
theorem zBW {t : TypeId} {x y : Operand} {ok : Bool} {m k : AV} (hrel : Rel w S μ H) (ho : o.op = .lookup t x y ok) (hx : rep S μ m (a.eval x)) (hy : rep S μ k (a.eval y)) (h : zFD P t H m k ok fun r=>K r H) : o.wp P a w (z4i w S μ H a o K) Q := by
 obtain ⟨d,⟨rfl,i,ob,q,key,kl,c,rfl,h1,h2,h3,h4,h5,h6,h7,h8,h9,rfl⟩,hK⟩ := h
 obtain ⟨b,_,hv,hown⟩ := zIN hrel h1 h2 hx
 have hkey := ztB h7 hy
 cases ok with
 |false =>
  obtain ⟨c',hrun,hat,_⟩ := hown.lookup_int h3 h4 h5 (h6 w) h8
  rw [h9] at hat
  cases hat
  refine z4v hrel (u := .int q c) ?_ hK ⟨rfl,rfl⟩
  unfold execOp
  rw [ho]
  simp only [hv,hkey,hrun,Sem.run_bind,Sem.run_pure,Result.andThen_ok]
 |true =>
  have hw0 : (Lit.int q 0).wf = true := by cases q <;> decide
  obtain ⟨v,ps,hrun,hR⟩ := hown.look_ok h3 h4 (h6 w) (plainElem_int h5 hw0) h8
  obtain ⟨c',rfl,hc,_⟩ := plainElem_int_inv h5 hR
  rw [h9] at hc
  simp only [Prod.mk.injEq] at hc
  cases hc.1
  refine z4v hrel (u := .tuple #[.int q c, .bool (Maps.has (zNc ob.c) kl)]) ?_ hK ⟨[.int q c, .bool (Maps.has (zNc ob.c) kl)],rfl,rfl,fun j d u hd hu=>?_⟩
  ·unfold execOp
   rw [ho]
   simp only [hv,hkey,hrun,Sem.run_bind,Sem.run_pure,Result.andThen_ok]
  ·match j,hd,hu with
   |0,hd,hu=>cases hd;cases hu;exact ⟨rfl,rfl⟩
   |1,hd,hu=>cases hd;cases hu;exact ⟨rfl,rfl⟩
theorem Rel.turn (hr : Rel w S μ H) {w' : World} {i b : Nat} {x : Value} {ob ob' : AObj} (hμ : μ[i]? = some x) (ho : H[i]? = some ob) (hk : ob.k ≠ 0 ∧ ob.k ≠ 2) (hkk : ob'.k = ob.k) (hbx : z60 x = some b)
  (h0 : w'.os = w.os ∧ w'.tape = w.tape ∧ w'.output = w.output ∧ w.heap.size ≤ w'.heap.size) (hb : ∀ b',b' < w.heap.size → b' ≠ b → w'.heap[b']? = w.heap[b']?) (hr' : objRep w' S μ x ob') :
  Rel w' S μ (H.set i ob') ∧ Step H.length w S μ H w' S μ (H.set i ob') := by
 have hown : zLD μ H b := ⟨i,_,ob,hμ,ho,hk.1,hbx⟩
 have hget : ∀ (i' : Nat) (o' : AObj),(H.set i ob')[i']? = some o' → (i' = i ∧ o' = ob') ∨ (i' ≠ i ∧ H[i']? = some o') := by
  intro i' o' h
  by_cases e : i' = i
  ·subst e
   rw [List.getElem?_set_self (List.getElem?_eq_some_iff.1 ho).1] at h
   injection h with h
   exact .inl ⟨rfl,h.symm⟩
  ·rw [List.getElem?_set_ne (Ne.symm e)] at h;exact .inr ⟨e,h⟩
 have hne : ∀ (i' : Nat) (x' : Value) (o' : AObj) (b' : Nat),i' ≠ i → μ[i']? = some x' → H[i']? = some o' → o'.k ≠ 0 → z60 x' = some b' → b' ≠ b := by
  intro i' x' o' b' hn hx ho' hk' hb' e
  subst e
  exact hn (hr.sep i' i x' _ o' ob b' hx ho' hk' hb' hμ ho hk.1 hbx)
 have hns : ∀ j d,¬ S b j d := fun j d h=>hk.2 (hr.apart i _ ob b hμ ho hk.1 hbx j d h).1
 have hoo : ∀ b',zLD μ (H.set i ob') b' → zLD μ H b' := by
  rintro b' ⟨i',x',o',hx',ho',hk',hb'⟩
  rcases hget i' o' ho' with ⟨rfl,rfl⟩|⟨hn,q⟩
  ·rw [hμ] at hx';injection hx' with hx';subst hx'
   exact ⟨i',_,ob,hμ,ho,hk.1,hb'⟩
  ·exact ⟨i',x',o',hx',q,hk',hb'⟩
 refine ⟨⟨by simpa using hr.len,fun b' j d hs=>?_,fun i' x' o' hx' ho'=>?_,fun i' x' o' hx' ho'=>?_,fun i1 i2 x1 x2 o1 o2 b' hx1 ho1 hk1 hb1 hx2 ho2 hk2 hb2=>?_,fun i' x' o' b' hx' ho' hk' hb' j d hs=>?_⟩,⟨h0.1,h0.2.1,h0.2.2.1,h0.2.2.2,fun b' hb' hn=>?_,fun _ _ _ h=>h,fun i' x' _ hx'=>⟨x',hx', .inl rfl⟩,fun b' j d h _=>.inl h,fun b' h _=>hoo b' h⟩⟩
 ·obtain ⟨u,hu,r⟩ := hr.still b' j d hs
  have : b' ≠ b := fun e=>hns j d (e ▸ hs)
  exact ⟨u,by rw [World.cell?_of_block (w := w) (w' := w') (a := ⟨b',j,none⟩) (hb b' (hr.still_lt hs) this)];exact hu,r⟩
 ·rcases hget i' o' ho' with ⟨rfl,rfl⟩|⟨hn,q⟩
  ·rw [hkk];rw [hμ] at hx';injection hx' with hx';subst hx';exact hr.kinds i' _ ob hμ ho
  ·exact hr.kinds i' x' o' hx' q
 ·rcases hget i' o' ho' with ⟨rfl,rfl⟩|⟨hn,q⟩
  ·rw [hμ] at hx';injection hx' with hx';subst hx'
   exact hr'
  ·by_cases hk0 : o'.k = 0
   ·exact objRep.zero hk0
   ·exact (hr.objs i' x' o' hx' q).move (Ext.refl _ _) fun b' hb'=>hb b' (hr.own_lt hx' q hk0 hb') (hne i' x' o' b' hn hx' q hk0 hb')
 ·have f : ∀ (i' : Nat) (x' : Value) (o' : AObj),μ[i']? = some x' → (H.set i ob')[i']? = some o' → o'.k ≠ 0 → ∃ o2,H[i']? = some o2 ∧ o2.k ≠ 0 := by
   intro i' x' o' _ h hk'
   rcases hget i' o' h with ⟨rfl,rfl⟩|⟨_,q⟩
   ·exact ⟨ob,ho,hk.1⟩
   ·exact ⟨o',q,hk'⟩
  obtain ⟨o3,q3,q4⟩ := f i1 x1 o1 hx1 ho1 hk1
  obtain ⟨o5,q5,q6⟩ := f i2 x2 o2 hx2 ho2 hk2
  exact hr.sep i1 i2 x1 x2 o3 o5 b' hx1 q3 q4 hb1 hx2 q5 q6 hb2
 ·rcases hget i' o' ho' with ⟨rfl,rfl⟩|⟨hn,q⟩
  ·rw [hμ] at hx';injection hx' with hx';subst hx'
   rw [hbx] at hb';injection hb' with hb';subst hb'
   exact absurd hs (hns j d)
  ·exact hr.apart i' x' o' b' hx' q hk' hb' j d hs
 ·exact hb b' hb' (fun e=>hn (e ▸ hown))
def zMG (kb : List UInt8) (q : IntKind) (c : Int) : AV := TU [V (.string ⟨kb.toArray⟩),V (.int q c)]
theorem zwt {c : List AV} {kb : List UInt8} {q : IntKind} {v : Int} : zNc (c ++ [zMG kb q v]) = (zNc c).put (.string kb) (.lit (.int q v)) := by
 unfold zNc
 rw [List.foldl_append]
 rfl
def PutP (P : Program) (t : TypeId) (H : List AObj) (m x y : AV) (H' : List AObj) : Prop :=
 P = Try.prog ∧ ∃ i ob q key kb c,m = MP i ∧ H[i]? = some ob ∧ ob.k = 5 ∧ Keyed P ob.e ∧ P.underlying t = some (.map ob.e ob.z) ∧ P.underlying ob.z = some (.int q) ∧
  zLP x = some key ∧ keyOf P ob.e key = some (.string kb) ∧ y = V (.int q c) ∧ (Lit.int q c).wf = true ∧ ob.c.length < maxLen ∧ H' = H.set i ⟨5,ob.e,ob.z,ob.c ++ [zMG kb q c]⟩
theorem PutP.det {t : TypeId} {m x y : AV} {H1 H2 : List AObj} (h : PutP P t H m x y H1) (h' : PutP P t H m x y H2) : H1 = H2 := by
 obtain ⟨_,i,ob,q,key,kl,c,rfl,h1,_,_,_,h2,h3,h4,rfl,_,_,rfl⟩ := h
 obtain ⟨_,i',ob',q',key',kl',c',e,g1,_,_,_,g2,g3,g4,e2,_,_,rfl⟩ := h'
 have := zEm e
 subst this
 rw [h1] at g1;cases g1
 rw [h3] at g3;cases g3
 rw [h4] at g4;cases g4
 cases e2
 rfl
def zLT (P : Program) (t : TypeId) (H : List AObj) (m x y : AV) (K : List AObj → Prop) : Prop := ∃ H',PutP P t H m x y H' ∧ K H'
theorem zHr {t : TypeId} {x y z : Operand} {m k e : AV} (hrel : Rel w S μ H) (ho : o.op = .mapUpdate t x y z) (hx : rep S μ m (a.eval x)) (hy : rep S μ k (a.eval y)) (hz : rep S μ e (a.eval z)) (h : zLT P t H m k e fun H'=>K .nil H') : o.wp P a w (z4i w S μ H a o K) Q := by
 obtain ⟨H',⟨rfl,i,ob,q,key,kb,c,rfl,h1,h2,h3,h4,h5,h7,h8,rfl,h9,h10,rfl⟩,hK⟩ := h
 obtain ⟨b,hμ,hv,hown⟩ := zIN hrel h1 h2 hx
 have hkey := ztB h7 hy
 have hval : a.eval z = .int q c := hz.1
 obtain ⟨w',hrun,hown',hg⟩ := hown.update h3 h4 h10 h8 (plainElem_int h5 h9)
 have hob : objRep w' S μ (.map (some b)) ⟨5,ob.e,ob.z,ob.c ++ [zMG kb q c]⟩ := by
  refine ⟨fun q=>by simp at q,fun q=>by simp at q,fun q=>by simp at q,fun _=>⟨b,rfl,?_⟩⟩
  dsimp only
  rw [zwt,List.length_append,List.length_singleton]
  exact hown'
 obtain ⟨g1,g2,g3,g4,g5⟩ := hg
 obtain ⟨r1,r2⟩ := hrel.turn (w' := w') (ob' := ⟨5,ob.e,ob.z,ob.c ++ [zMG kb q c]⟩) hμ h1 ⟨by omega,by omega⟩ h2.symm rfl ⟨g1,g2,g3,g4⟩ (fun b' hb' hne=>g5 b' hb' (fun e=>hne (by injection e))) hob
 unfold Oper.wp
 have hex : (execOp a.eval o).run Try.prog w = .ok .skip w' := by
  unfold execOp
  rw [ho]
  simp only [hv,hkey,hval,hrun,Sem.run_bind,Sem.run_pure,Result.andThen_ok]
 rw [hex]
 exact ⟨.nil,undef,_,S,μ,hK,rfl,trivial,r1,r2,fun q=>by rw [ho] at q;cases q⟩
def zAO (P : Program) (t : TypeId) (H : List AObj) (K : AV → List AObj → Prop) : Prop :=
 match P.underlying t with
 |some (.map k e)=>K (MP H.length) (H ++ [⟨5,k,e,[]⟩])
 |_=>False
theorem zES {t : TypeId} (hrel : Rel w S μ H) (ho : o.op = .makeMap t none) (h : zAO P t H K) : o.wp P a w (z4i w S μ H a o K) Q := by
 unfold zAO at h
 split at h
 ·rename_i k e hu
  have hown := World.ownsMap_made (H := Unit) w Try.prog k (plainElem Try.prog e)
  obtain ⟨h1,h2⟩ := hrel.grow (w' := w.alloc (.map #[] 0)) ((Below.refl _ _).alloc (Nat.le_refl _) _) (fun _ _ _ h=>h) (fun _ _ _ h=>.inl h) (fun b j d h hb=>by have := hrel.still_lt h;omega)
  have hnb : ∀ b,z60 (.map (some w.heap.size)) = some b → ¬ zLD μ H b ∧ ∀ j d,S b j d → (⟨5,k,e,[]⟩ : AObj).k = 2 ∧ j < (⟨5,k,e,[]⟩ : AObj).c.length * (⟨5,k,e,[]⟩ : AObj).z := by
   intro b hb
   simp [z60] at hb;subst hb
   refine ⟨?_,fun j d h=>by have := hrel.still_lt h;omega⟩
   rintro ⟨i,x,o,hx,ho,hk,hbk⟩
   have := hrel.own_lt hx ho hk hbk;omega
  have r1 := h1.add (x := .map (some w.heap.size)) (o := ⟨5,k,e,[]⟩) (by simp) ⟨fun q=>by simp at q,fun q=>by simp at q,fun q=>by simp at q,fun _=>⟨w.heap.size,rfl,hown⟩⟩ hnb
  have r2 := h2.add hrel.len (x := .map (some w.heap.size)) (o := ⟨5,k,e,[]⟩) fun b hb=>by simp [z60] at hb;omega
  unfold Oper.wp
  have hex : (execOp a.eval o).run P w = .ok (.value (.map (some w.heap.size))) (w.alloc (.map #[] 0)) := by
   unfold execOp
   rw [ho]
   simp only [Option.map_none,run_makeMap,Sem.run_bind,Sem.run_pure,Result.andThen_ok]
  rw [hex]
  exact ⟨MP H.length,_,_,S,_,h,rfl,⟨w.heap.size,by rw [← hrel.len];simp,rfl⟩,r1,r2,fun q=>by rw [ho] at q;cases q⟩
 ·exact h.elim
end
end Go.Proofs.Ytaaogcnjfkgnoaa

namespace Go.Proofs.Ytaaogcnjfkgnoaa
open Go.RowKit
def ro1 (H : List AObj) : AV → AV
 |.held (.inr (.inr (i,n)))=>match H[i]? with
  |some o=>if o.k = 2 ∧ n = o.c.length then SL o.c else OW i n
  |none=>OW i n
 |.held (.inl (.slice none 0 0))=>SL []
 |d=>d
def roA (H : List AObj) : AV → AV
 |.agg cs=>.agg (cs.map (ro1 H))
 |d=>ro1 H d
def ro (H : List AObj) : AV → AV
 |.iface s (.agg ds)=>.iface s (.agg (ds.map (roA H)))
 |d=>roA H d
section
variable {P : Program} {G : Gl} {w : World} {S : SS} {μ : List Value} {H : List AObj} {a : Act} {o : Oper} {K : AV → List AObj → Prop} {Q : Exit → Act → World → Prop} {T : Tm} {N : FS}
theorem rep1.toRo (hr : Rel w S μ H) {d : AV} {v : Value} (h : rep1 S μ d v) : rep1 S μ (ro1 H d) v := by
 unfold ro1
 split
 ·rename_i i n
  split
  ·rename_i ob hob
   split
   ·rename_i hh
    obtain ⟨hk,hn⟩ := hh
    obtain ⟨es,A,c,hK,hv,h1,h2,h3⟩ := zm3 (K := fun es=>es = ob.c) hr (d := OW i n) (v := v) h ⟨ob,hob,hk,hn,rfl⟩
    subst hK
    exact ⟨A,c,hv,h1,h2,h3⟩
   ·exact h
  ·exact h
 ·obtain ⟨rfl,_⟩ := h
  exact ⟨none,0,rfl,Nat.le_refl _,Nat.zero_le _,fun hne=>absurd rfl hne⟩
 ·exact h
theorem zr7 {d : AV} (h : ∀ cs,d ≠ DataW.agg cs) : ∀ cs,ro1 H d ≠ DataW.agg cs := by
 intro cs e
 unfold ro1 at e
 split at e
 ·split at e
  ·split at e <;> cases e
  ·cases e
 ·cases e
 ·exact h cs e
theorem zvu {d : AV} {s : String} {x : AV} (h : ro1 H d = .iface s x) : d = .iface s x := by
 unfold ro1 at h
 split at h
 ·split at h
  ·split at h <;> cases h
  ·cases h
 ·cases h
 ·exact h
theorem repA.toRo (hr : Rel w S μ H) {d : AV} {v : Value} (h : repA S μ d v) : repA S μ (roA H d) v := by
 unfold repA at h
 split at h
 ·rename_i cs
  obtain ⟨us,e,hl,hu⟩ := h
  refine ⟨us,e,by simpa using hl,fun j d u hd hu'=>?_⟩
  rw [List.getElem?_map] at hd
  cases hc : cs[j]? with
  |none=>rw [hc] at hd;cases hd
  |some c =>
   rw [hc] at hd
   simp at hd;subst hd
   exact ⟨(hu j c u hc hu').1,(hu j c u hc hu').2.toRo hr⟩
 ·rename_i hne
  have e : roA H d = ro1 H d := by
   unfold roA
   split
   ·exact absurd rfl (hne _)
   ·rfl
  rw [e]
  have h2 := rep1.toRo hr h
  unfold repA
  split
  ·rename_i cs hcs;exact absurd hcs (zr7 hne cs)
  ·exact h2
theorem rep.toRo (hr : Rel w S μ H) {d : AV} {v : Value} (h : rep S μ d v) : rep S μ (ro H d) v := by
 unfold rep at h
 split at h
 ·rename_i s ds
  obtain ⟨us,e,hl,hu⟩ := h
  refine ⟨us,e,by simpa using hl,fun j d u hd hu'=>?_⟩
  rw [List.getElem?_map] at hd
  cases hc : ds[j]? with
  |none=>rw [hc] at hd;cases hd
  |some c =>
   rw [hc] at hd
   simp at hd;subst hd
   exact (hu j c u hc hu').toRo hr
 ·rename_i hne
  have e : ro H d = roA H d := by
   unfold ro
   split
   ·exact absurd rfl (hne _ _)
   ·rfl
  rw [e]
  exact z7G (repA.toRo hr h)
def RAW : FuncId := 29
def roF (f : FuncId) (H : List AObj) (l : List AV) : List AV := match Nat.beq f RAW with|true=>l|false=>l.map (ro H)
theorem zCa {f : FuncId} {l : List AV} : (roF f H l).length = l.length := by
 unfold roF
 split
 ·rfl
 ·exact List.length_map ..
theorem zCb {f : FuncId} {l : List AV} {j : Nat} {d : AV} (h : (roF f H l)[j]? = some d) : ∃ x,l[j]? = some x ∧ (d = x ∨ d = ro H x) := by
 unfold roF at h
 split at h
 ·exact ⟨d,h, .inl rfl⟩
 ·rw [List.getElem?_map] at h
  cases hx : l[j]? with
  |none=>rw [hx] at h;cases h
  |some x =>
   rw [hx] at h
   simp at h
   exact ⟨x,rfl, .inr h.symm⟩
theorem zET {f : FuncId} {args : Array Operand} {ts : Array TypeId} (hrel : Rel w S μ H) (hf : Fr S μ N T a) (hg : GOk G S) (ho : o.op = .call { callee := .value (.func f),args := args,argTypes := ts })
  (h : AC P G f (roF f H (args.toList.map (ev G T))) H K) : o.wp P a w (z4i w S μ H a o K) Q := by
 unfold Oper.wp
 rw [zlE h.1 ho rfl]
 have hc := h.2 w S μ (args.toList.map a.eval) hrel hg (by rw [zCa,List.length_map,List.length_map]) (fun j d v hd hv=>by
  obtain ⟨y,hy,hdy⟩ := zCb hd
  rw [List.getElem?_map] at hy hv
  cases hx : args.toList[j]? with
  |none=>rw [hx] at hy;cases hy
  |some x =>
   rw [hx] at hy hv
   simp only [Option.map_some,Option.some.injEq] at hy hv
   subst hy hv
   rcases hdy with rfl|rfl
   ·exact hf.ev hg x
   ·exact (hf.ev hg x).toRo hrel)
 have e : (args.toList.map a.eval).toArray = args.map a.eval := by rw [← Array.toList_map,Array.toArray_toList]
 rw [e] at hc
 refine hc.mono fun e w' ⟨v,r,H',S',μ',he,hR,hrel',hrep,hst⟩=>?_
 subst he
 exact ⟨r,v,H',S',μ',hR,rfl,hrep,hrel',hst,fun q=>by rw [ho] at q;cases q⟩
end
section
variable {P : Program} {G : Gl} {w : World} {S : SS} {μ : List Value} {H : List AObj} {a : Act} {o : Oper} {K : AV → List AObj → Prop} {Q : Exit → Act → World → Prop} {T : Tm} {N : FS}
def zLj : AV → Bool
 |.nil=>true
 |.held (.inl _)=>true
 |.held (.inr (.inl _))=>true
 |.ptr _=>true
 |_=>false
theorem zCn {d : AV} {v : Value} (h : rep S μ d v) (hc : zLj d = true) : rep0 S μ d v := by
 match d,h,hc with
 |.nil,_,_=>trivial
 |.held (.inl u),h,_=>exact h
 |.held (.inr (.inl (i,q))),h,_=>exact h
 |.ptr d,h,_=>exact h
theorem zn8 {d : AV} {v : Value} (h : rep0 S μ d v) : rep S μ d v := by
 match d,h with
 |.nil,_=>trivial
 |.held (.inl u),h=>exact h
 |.held (.inr (.inl (i,q))),h=>exact h
 |.ptr d,h=>exact h
theorem zse {fn : Fn} {first caps : Array Operand} (hrel : Rel w S μ H) (hf : Fr S μ N T a) (hg : GOk G S) (ho : o.op = .makeFunc fn first caps) (hc : ((first.toList ++ caps.toList).map (ev G T)).all zLj = true)
  (hK : K (CL fn first.toList.length ((first.toList ++ caps.toList).map (ev G T))) H) : o.wp P a w (z4i w S μ H a o K) Q := by
 refine z4v (u := .func fn (first.map a.eval) (caps.map a.eval)) hrel ?_ hK ?_
 ·unfold execOp
  rw [ho]
  simp only [Instr.makeFunc,Sem.run_bind,Sem.run_pure,Result.andThen_ok]
 ·refine ⟨(first.toList ++ caps.toList).map a.eval,?_,by simp,fun j d u hd hu=>?_⟩
  ·have e1 : ((first.toList ++ caps.toList).map a.eval).take first.toList.length = (first.map a.eval).toList := by
    rw [List.map_append,List.take_append_of_le_length (by simp),List.take_of_length_le (by simp)];simp
   have e2 : ((first.toList ++ caps.toList).map a.eval).drop first.toList.length = (caps.map a.eval).toList := by
    rw [List.map_append,List.drop_append_of_le_length (by simp),List.drop_of_length_le (by simp)];simp
   rw [e1,e2]
  ·rw [List.getElem?_map] at hd hu
   cases hx : (first.toList ++ caps.toList)[j]? with
   |none=>rw [hx] at hd;cases hd
   |some x =>
    have hxm := List.mem_of_getElem? hx
    rw [hx] at hd hu
    simp only [Option.map_some,Option.some.injEq] at hd hu
    subst hd hu
    exact zCn (hf.ev hg x) ((List.all_eq_true.1 hc) _ (List.mem_map.2 ⟨x,hxm,rfl⟩))
def zpU (P : Program) (G : Gl) (x : AV) (args : List AV) (H : List AObj) (K : AV → List AObj → Prop) : Prop :=
 match x with
 |.slice caps [.held (.inl (.func (.func f) _ _)), .held (.inr (.inl (k,_)))]=>AC P G f ((caps.take k ++ args ++ caps.drop k).map (ro H)) H K
 |.held (.inl (.func (.func f) ⟨[]⟩ ⟨[]⟩))=>AC P G f (args.map (ro H)) H K
 |_=>False
theorem zjj {t : Tmp} {args : Array Operand} {ts : Array TypeId} {f : FuncId} {fs cs : Array Value} (hf : zey P f = true) (ho : o.op = .call { callee := .value (.tmp t),args := args,argTypes := ts }) (ht : a.eval (.tmp t) = .func (.func f) fs cs) :
  (execOp a.eval o).run P w = .ok (.enter f (fs ++ args.map a.eval ++ cs)) w := by
 unfold zey at hf
 cases h : P.funcs[f]? with
 |none=>rw [h] at hf;cases hf
 |some fn =>
  rw [h] at hf
  simp only [Bool.and_eq_true,Bool.not_eq_true',Option.isSome_iff_ne_none] at hf
  obtain ⟨h1,h2⟩ := hf
  have h3 : fn.body.isNone = false := by cases hb : fn.body with|none=>exact absurd hb h2|some _=>rfl
  unfold execOp
  rw [ho]
  simp only [resolve,ht,Deferred.ofValue,Sem.run_bind,Sem.run_pure,Result.andThen_ok,invoke,callFunc,run_program,h,h1,h3]
  simp [Sem.run_pure]
theorem zAo {t : Tmp} {args : Array Operand} {ts : Array TypeId} (hrel : Rel w S μ H) (hf : Fr S μ N T a) (hg : GOk G S) (ho : o.op = .call { callee := .value (.tmp t),args := args,argTypes := ts })
  (h : zpU P G (get T t) (args.toList.map (ev G T)) H K) : o.wp P a w (z4i w S μ H a o K) Q := by
 have hl : loud o.op = true := by rw [ho];rfl
 unfold zpU at h
 split at h
 ·rename_i caps f f1 f2 k k2 hT
  have hs := hf.slot t
  rw [hT] at hs
  obtain ⟨us,hu,hul,hur⟩ := hs
  have ht : a.eval (.tmp t) = .func (.func f) (us.take k).toArray (us.drop k).toArray := hu
  unfold Oper.wp
  rw [zjj h.1 ho ht]
  have hrc : ∀ (j : Nat) (d : AV) (v : Value),caps[j]? = some d → us[j]? = some v → rep S μ d v := fun j d v hd hv=>zn8 (hur j d v hd hv)
  have hc := h.2 w S μ (us.take k ++ args.toList.map a.eval ++ us.drop k) hrel hg (by simp [hul]) (fun j d v hd hv=>by
   rw [List.getElem?_map] at hd
   cases hx : (caps.take k ++ args.toList.map (ev G T) ++ caps.drop k)[j]? with
   |none=>rw [hx] at hd;cases hd
   |some x =>
    rw [hx] at hd
    simp only [Option.map_some,Option.some.injEq] at hd
    subst hd
    refine rep.toRo hrel ?_
    have hlt : (us.take k).length = (caps.take k).length := by simp [hul]
    rcases Nat.lt_or_ge j (caps.take k ++ args.toList.map (ev G T)).length with hj|hj
    ·rw [List.getElem?_append_left hj] at hx
     rw [List.getElem?_append_left (by simp only [List.length_append,List.length_map,hlt] at hj ⊢;exact hj)] at hv
     rcases Nat.lt_or_ge j (caps.take k).length with hj2|hj2
     ·rw [List.getElem?_append_left hj2] at hx
      rw [List.getElem?_append_left (by rw [hlt];exact hj2)] at hv
      rw [List.getElem?_take] at hx hv
      split at hx
      ·rw [if_pos (by assumption)] at hv;exact hrc j x v hx hv
      ·cases hx
     ·rw [List.getElem?_append_right hj2] at hx
      rw [List.getElem?_append_right (by rw [hlt];exact hj2),hlt] at hv
      rw [List.getElem?_map] at hx hv
      cases hy : args.toList[j - (caps.take k).length]? with
      |none=>rw [hy] at hx;cases hx
      |some y =>
       rw [hy] at hx hv
       simp only [Option.map_some,Option.some.injEq] at hx hv
       subst hx hv
       exact hf.ev hg y
    ·rw [List.getElem?_append_right hj] at hx
     have hle : (us.take k ++ args.toList.map a.eval).length = (caps.take k ++ args.toList.map (ev G T)).length := by simp [hul]
     rw [List.getElem?_append_right (by rw [hle];exact hj),hle] at hv
     rw [List.getElem?_drop] at hx hv
     exact hrc _ x v hx hv)
  have e : (us.take k ++ args.toList.map a.eval ++ us.drop k).toArray = (us.take k).toArray ++ args.map a.eval ++ (us.drop k).toArray := by
   apply Array.ext'
   simp
  rw [e] at hc
  refine hc.mono fun e w' ⟨v,r,H',S',μ',he,hR,hrel',hrep,hst⟩=>?_
  subst he
  exact ⟨r,v,H',S',μ',hR,rfl,hrep,hrel',hst,fun q=>by rw [hl] at q;cases q⟩
 ·rename_i f hT
  have hs := hf.slot t
  rw [hT] at hs
  have ht : a.eval (.tmp t) = .func (.func f) #[] #[] := hs.1
  unfold Oper.wp
  rw [zjj h.1 ho ht]
  have hc := h.2 w S μ (args.toList.map a.eval) hrel hg (by simp) (fun j d v hd hv=>by
   rw [List.getElem?_map,List.getElem?_map] at hd
   rw [List.getElem?_map] at hv
   cases hx : args.toList[j]? with
   |none=>rw [hx] at hd;cases hd
   |some x =>
    rw [hx] at hd hv
    simp only [Option.map_some,Option.some.injEq] at hd hv
    subst hd hv
    exact (hf.ev hg x).toRo hrel)
  have e : (args.toList.map a.eval).toArray = #[] ++ args.map a.eval ++ #[] := by
   apply Array.ext'
   simp
  rw [e] at hc
  refine hc.mono fun e w' ⟨v,r,H',S',μ',he,hR,hrel',hrep,hst⟩=>?_
  subst he
  exact ⟨r,v,H',S',μ',hR,rfl,hrep,hrel',hst,fun q=>by rw [hl] at q;cases q⟩
 ·exact h.elim
end
def aMM (mx : Bool) (x y : AV) (K : AV → Prop) : Prop := match x,y with
 |.held (.inl (.int k a)), .held (.inl (.int k' b))=>k = k' ∧ K (V (.int k (if mx = true then (if b > a then b else a) else (if b < a then b else a))))
 |_,_=>False
theorem zIF {P : Program} {w : World} {S : SS} {μ : List Value} {H : List AObj} {a : Act} {o : Oper} {K : AV → List AObj → Prop} {Q : Exit → Act → World → Prop} {x y : Operand} {ts : Array TypeId} {d e : AV} (mx : Bool) (hrel : Rel w S μ H) (ho : o.op = .call { callee := .builtin (if mx = true then .max else .min),args := #[x,y],argTypes := ts }) (hx : rep S μ d (a.eval x)) (hy : rep S μ e (a.eval y)) (h : aMM mx d e fun r=>K r H) : o.wp P a w (z4i w S μ H a o K) Q := by
 unfold aMM at h
 split at h
 ·rename_i k i k' j
  obtain ⟨rfl,hK⟩ := h
  obtain ⟨e1,_⟩ := hx
  obtain ⟨e2,_⟩ := hy
  refine z4v hrel ?_ hK (zsm rfl)
  unfold execOp
  rw [ho]
  cases mx <;> simp [resolve,invoke,builtin,Sem.run_bind,Sem.run_pure,Result.andThen_ok,e1,e2,Builtin.max_,Builtin.min_,Builtin.max2,Builtin.min2]
 ·exact h.elim
def z0A (P : Program) (G : Gl) (o : Oper) (s : ASt) (K : AV → List AObj → Prop) : Prop :=
 match o.op with
 |.move x=>K (ev G s.T x) s.H
 |.assign x=>K (ev G s.T x) s.H
 |.pick c x y=>zug (ev G s.T c) (ev G s.T x) (ev G s.T y) fun r=>K r s.H
 |.binOp op t x y _=>zMc P t op (ev G s.T x) (ev G s.T y) fun r=>K r s.H
 |.unOp op _ x=>aUn op (ev G s.T x) fun r=>K r s.H
 |.alloc t=>match zpm P t with
  |some c=>K (OP s.H.length 0) (s.H ++ [⟨1,t,0,c⟩])
  |none=>False
 |.box t x=>(cellsOf (ev G s.T x)).all zN7 = true ∧ K (OP s.H.length 0) (s.H ++ [⟨1,t,0,cellsOf (ev G s.T x)⟩])
 |.build t ps=>zlS P t (ps.toList.map fun p=>(p.1,ev G s.T p.2)) fun r=>K r s.H
 |.buildSlice t n ps=>zfa P t n (ps.toList.map fun p=>(p.1,ev G s.T p.2)) fun r=>K r s.H
 |.load t x=>zjK (z1T P t) s.H (ev G s.T x) fun r=>K r s.H
 |.store t x y=>zpz (z1T P t) s.H (ev G s.T x) (ev G s.T y) fun H'=>K .nil H'
 |.nilCheck x=>zMO (ev G s.T x) fun r=>K r s.H
 |.convert src dst x=>zs9 P src dst (ro s.H (ev G s.T x)) fun r=>K r s.H
 |.extract x i=>zah (ev G s.T x) i fun r=>K r s.H
 |.fieldAddr t x f=>zm6 (zmw P t f) (ev G s.T x) fun r=>K r s.H
 |.field t x f=>zfj (zmw P t f) (ev G s.T x) fun r=>K r s.H
 |.indexAddr t x y=>zed P t s.H (ev G s.T x) (ev G s.T y) fun r=>K r s.H
 |.index t x y=>zfC P t (ev G s.T x) (ev G s.T y) fun r=>K r s.H
 |.slice t x lo hi none=>zkW P t s.H (ev G s.T x) (lo.map (ev G s.T)) (hi.map (ev G s.T)) fun r=>K r s.H
 |.call { callee := .value (.func f),args := args,argTypes := _ }=>AC P G f (roF f s.H (args.toList.map (ev G s.T))) s.H K
 |.makeFunc fn first caps=>((first.toList ++ caps.toList).map (ev G s.T)).all zLj = true ∧ K (CL fn first.toList.length ((first.toList ++ caps.toList).map (ev G s.T))) s.H
 |.call { callee := .value (.tmp t),args := args,argTypes := _ }=>zpU P G (get s.T t) (args.toList.map (ev G s.T)) s.H K
 |.call { callee := .builtin .len,args := ⟨[x]⟩,argTypes := ⟨[t]⟩ }=>zNC P t s.H (ev G s.T x) fun r=>K r s.H
 |.call { callee := .builtin .append,args := ⟨[x,y]⟩,argTypes := ⟨[t,t']⟩ }=>if t' = t then zMB P t s.H (ev G s.T x) (ev G s.T y) K else P.underlying t' = some .string ∧ zwT P t s.H (ev G s.T x) (ev G s.T y) K
 |.call { callee := .builtin .max,args := ⟨[x,y]⟩,argTypes := _ }=>aMM true (ev G s.T x) (ev G s.T y) fun r=>K r s.H
 |.call { callee := .builtin .min,args := ⟨[x,y]⟩,argTypes := _ }=>aMM false (ev G s.T x) (ev G s.T y) fun r=>K r s.H
 |.lookup t x y ok=>zFD P t s.H (ev G s.T x) (ev G s.T y) ok fun r=>K r s.H
 |.mapUpdate t x y z=>zLT P t s.H (ev G s.T x) (ev G s.T y) (ev G s.T z) fun H'=>K .nil H'
 |.makeMap t none=>zAO P t s.H K
 |_=>False
theorem zwa {S : SS} {μ : List Value} {N : FS} {T : Tm} {a : Act} {G : Gl} (hf : Fr S μ N T a) (hg : GOk G S) (x : Option Operand) : (∀ y,x.map (ev G T) = some y → ∃ u,x.map a.eval = some u ∧ rep S μ y u) ∧ (x.map (ev G T) = none → x.map a.eval = none) := by
 cases x with
 |none=>exact ⟨fun y h=>(by cases h),fun _=>rfl⟩
 |some x=>exact ⟨fun y h=>by simp only [Option.map_some,Option.some.injEq] at h;subst h;exact ⟨_,rfl,hf.ev hg x⟩,fun h=>by cases h⟩
theorem zfK {P : Program} {G : Gl} {N : FS} {o : Oper} {s : ASt} {K : AV → List AObj → Prop} (h : z0A P G o s K) {w : World} {S : SS} {μ : List Value} {a : Act} (hr : Rel w S μ s.H) (hf : Fr S μ N s.T a) (hg : GOk G S) (Q : Exit → Act → World → Prop) :
  o.wp P a w (z4i w S μ s.H a o K) Q := by
 unfold z0A at h
 split at h
 ·rename_i hx;exact zxV hr (.inl hx) (hf.ev hg _) h
 ·rename_i hx;exact zxV hr (.inr hx) (hf.ev hg _) h
 ·rename_i hx;exact zB5 hr hx (hf.ev hg _) (hf.ev hg _) (hf.ev hg _) h
 ·rename_i hx;exact zGC hr hx (hf.ev hg _) (hf.ev hg _) h
 ·rename_i hx;exact zKu hr hx (hf.ev hg _) h
 ·rename_i t hx
  split at h
  ·rename_i c hc;exact zAc hr hx hc h
  ·exact h.elim
 ·rename_i hx;exact zG4 hr hx (hf.ev hg _) h.1 h.2
 ·rename_i hx;exact zA5 hr hf hg hx h
 ·rename_i hx;exact op_buildSlice hr hf hg hx h
 ·rename_i hx;exact zDm hr hx (hf.ev hg _) h
 ·rename_i hx;exact zzU hr hx (hf.ev hg _) (hf.ev hg _) h
 ·rename_i hx;exact zrS hr hx (hf.ev hg _) h
 ·rename_i hx;exact op_conv hr hx ((hf.ev hg _).toRo hr) h
 ·rename_i hx;exact zsv hr hx (hf.ev hg _) h
 ·rename_i hx;exact zqC hr hx (hf.ev hg _) h
 ·rename_i hx;exact zAd hr hx (hf.ev hg _) h
 ·rename_i hx;exact zqf hr hx (hf.ev hg _) (hf.ev hg _) h
 ·rename_i hx;exact zy7 hr hx (hf.ev hg _) (hf.ev hg _) h
 ·rename_i hx;exact zAr hr hx (hf.ev hg _) (zwa hf hg _).1 (zwa hf hg _).2 (zwa hf hg _).1 (zwa hf hg _).2 h
 ·rename_i hx;exact zET hr hf hg hx h
 ·rename_i hx;exact zse hr hf hg hx h.1 h.2
 ·rename_i hx;exact zAo hr hf hg hx h
 ·rename_i hx;exact zG2 hr hx (hf.ev hg _) h
 ·rename_i hx
  split at h
  ·rename_i e;subst e;exact zve hr hx (hf.ev hg _) (hf.ev hg _) h
  ·exact ztY hr hx (hf.ev hg _) (hf.ev hg _) h.1 h.2
 ·rename_i hx;exact zIF true hr hx (hf.ev hg _) (hf.ev hg _) h
 ·rename_i hx;exact zIF false hr hx (hf.ev hg _) (hf.ev hg _) h
 ·rename_i hx;exact zBW hr hx (hf.ev hg _) (hf.ev hg _) h
 ·rename_i hx;exact zHr hr hx (hf.ev hg _) (hf.ev hg _) (hf.ev hg _) h
 ·rename_i hx;exact zES hr hx h
 ·exact h.elim
def zm7 (ops : List Oper) (j : Nat) : Option Tmp := (ops[j]?).bind (·.dst)
abbrev UD : AV := .iface "" (.agg [])
def zkX (x : AV) (want : Bool) (A B : Prop) : Prop :=
 match x with
 |.held (.inl (.bool b))=>(b = want → A) ∧ (b = !want → B)
 |.iface _ (.agg [])=>B
 |_=>False
def zbL (P : Program) (G : Gl) (ops : List Oper) : List Oper → ASt → (ASt → Prop) → Prop
 |[],s,K=>K s
 |o :: r,s,K=>match o.guard with
  |none=>z0A P G o s fun d H=>zbL P G ops r (s.set H o.dst d) K
  |some (j,want)=>match zm7 ops j with
   |some t=>zkX (get s.T t) want (z0A P G o s fun d H=>zbL P G ops r (s.set H o.dst d) K) (zbL P G ops r (s.set s.H o.dst UD) K)
   |none=>False
def zNp (N : Nat) (ops : List Oper) : Bool := ops.all fun o=>match o.dst with|some d=>decide (d < N)|none=>true
theorem za4 {S : SS} {μ : List Value} {N : FS} {T : Tm} {a : Act} (hf : Fr S μ N T a) {ops : List Oper} {j t : Nat} {b : Bool} (ht : zm7 ops j = some t) (hx : get T t = V (.bool b)) : yielded ops.toArray a.tmps j = some b := by
 have h := hf.slot t
 rw [hx] at h
 obtain ⟨he,_⟩ := h
 unfold yielded
 have h1 : ((ops.toArray)[j]?).bind (·.dst) = some t := by simpa [zm7] using ht
 rw [h1]
 simp only [Option.bind_some]
 rw [Array.getD_eq_getD_getElem?] at he
 cases h2 : a.tmps[t]? with
 |none=>rw [h2] at he;simp [undef] at he
 |some x=>rw [h2] at he;simp only [Option.getD_some] at he;subst he;rfl
theorem zqv (S : SS) (μ : List Value) : rep S μ UD undef := ⟨[],rfl,rfl,fun j d u h=>by simp at h⟩
theorem zyo {S : SS} {μ : List Value} {t : String} {v : Value} (h : rep S μ (.iface t (.agg [])) v) : v = undef := by
 obtain ⟨us,rfl,hl,_⟩ := h
 have : us = [] := List.eq_nil_of_length_eq_zero hl
 subst this;rfl
theorem zhB {S : SS} {μ : List Value} {N : FS} {T : Tm} {a : Act} (hf : Fr S μ N T a) {ops : List Oper} {j t : Nat} {q : String} (ht : zm7 ops j = some t) (hx : get T t = .iface q (.agg [])) : yielded ops.toArray a.tmps j = none := by
 have h := hf.slot t
 rw [hx] at h
 have he := zyo h
 unfold yielded
 have h1 : ((ops.toArray)[j]?).bind (·.dst) = some t := by simpa [zm7] using ht
 rw [h1]
 simp only [Option.bind_some]
 rw [Array.getD_eq_getD_getElem?] at he
 cases h2 : a.tmps[t]? with
 |none=>rfl
 |some x=>rw [h2] at he;simp only [Option.getD_some] at he;subst he;rfl
theorem Oper.wp_next {P : Program} {o : Oper} {a : Act} {w : World} {K K' : Act → World → Prop} {Q : Exit → Act → World → Prop} (hh : o.wp P a w K Q) (h : ∀ a w,K a w → K' a w) : o.wp P a w K' Q := by
 unfold Oper.wp at *
 generalize (execOp a.eval o).run P w = r at *
 cases r with
 |ok n w' =>
  cases n <;> simp only [Oper.upon] at hh ⊢ <;>
   first
    |exact h _ _ hh
    |exact Calls.mono hh (fun e w'' he=>by cases e <;> first|exact h _ _ he|exact he)
    |exact Rows.mono hh (fun _ _ he=>h _ _ he)
 |halt x w'=>cases x <;> simp only [Oper.upon] at hh ⊢ <;> exact hh
theorem zlb {P : Program} {G : Gl} {N : FS} {n : Nat} {ops : List Oper} {K : ASt → Prop} {Q : Exit → ASt → Prop} (hK : ∀ s,K s → Q .normal s) {w0 : World} {S0 : SS} {μ0 : List Value} {H0 : List AObj} (hn : n ≤ H0.length) (hl0 : μ0.length = H0.length) : ∀ (l : List Oper) (s : ASt),zbL P G ops l s K → zNp N l = true →
  ∀ w S μ a,Rel w S μ s.H → Fr S μ N s.T a → GOk G S → Step n w0 S0 μ0 H0 w S μ s.H → wpList P ops.toArray (Lift N n w0 S0 μ0 H0 Q) l a w
 |[],s,h,_,w,S,μ,a,hr,hf,hg,hs=>⟨s,S,μ,hK s h,hr,hf,hs⟩
 |o :: r,s,h,hfit,w,S,μ,a,hr,hf,hg,hs=>by
  have hfit' := hfit
  simp only [zNp,List.all_cons,Bool.and_eq_true] at hfit'
  have hd : ∀ i,o.dst = some i → i < N := fun i e=>by have := hfit'.1;rw [e] at this;simpa using this
  have hgo : ∀ (hw : Region.wanted o (yielded ops.toArray a.tmps) = true),z0A P G o s (fun d H=>zbL P G ops r (s.set H o.dst d) K) → wpList P ops.toArray (Lift N n w0 S0 μ0 H0 Q) (o :: r) a w := by
   intro hw hstep
   unfold wpList
   rw [if_pos hw]
   refine .inl ?_
   have hop := zfK hstep hr hf hg (Lift N n w0 S0 μ0 H0 Q)
   refine _root_.Go.Proofs.Ytaaogcnjfkgnoaa.Oper.wp_next hop fun a' w'=>?_
   rintro ⟨d,u,H',S',μ',hrest,rfl,hrep,hr',hs',_⟩
   have hst := (hf.ext (hs'.toExt hr)).put o.dst hd hrep
   have hn' : n ≤ s.H.length := by
    have := hs.objs
    rcases Nat.lt_or_ge s.H.length n with hlt|hge
    ·have hlm : s.H.length < μ0.length := by omega
     obtain ⟨x',hx',_⟩ := hs.objs s.H.length μ0[s.H.length] hlt (List.getElem?_eq_getElem hlm)
     have := (List.getElem?_eq_some_iff.1 hx').1
     rw [hr.len] at this;omega
    ·exact hge
   exact zlb hK hn hl0 r _ hrest hfit'.2 w' S' μ' _ hr' hst (hg.ext hs'.still) (hs.trans (hs'.less hn'))
  unfold zbL at h
  split at h
  ·rename_i hgd
   exact hgo (by simp [Region.wanted,hgd]) h
  ·rename_i j want hgd
   split at h
   ·rename_i t ht
    unfold zkX at h
    split at h
    ·rename_i b hb
     have hy := za4 hf ht hb
     by_cases e : b = want
     ·exact hgo (by simp [Region.wanted,hgd,hy,e]) (h.1 e)
     ·have hrest := h.2 (by cases b <;> cases want <;> simp_all)
      unfold wpList
      rw [if_neg (by simp [Region.wanted,hgd,hy,e])]
      have hst := hf.put o.dst hd (zqv S μ)
      exact zlb hK hn hl0 r _ hrest hfit'.2 w S μ _ hr hst hg hs
    ·rename_i q hb
     have hy := zhB hf ht hb
     unfold wpList
     rw [if_neg (by simp [Region.wanted,hgd,hy])]
     have hst := hf.put o.dst hd (zqv S μ)
     exact zlb hK hn hl0 r _ h hfit'.2 w S μ _ hr hst hg hs
    ·exact h.elim
   ·exact h.elim
theorem zp2 {P : Program} {G : Gl} {N : FS} {n : Nat} {Q : Exit → ASt → Prop} {s : ASt} {id : Nat} {ops : List Oper} (hfit : zNp N ops = true) (hn : n ≤ s.H.length) (h : zbL P G ops ops s fun s=>Q .normal s) : AWp P G N n (.region id ops.toArray false) Q s :=
 fun w S μ a hr hf hg=>wp_region_lit (zlb (K := fun s=>Q .normal s) (fun s h=>h) hn hr.len ops s h hfit w S μ a hr hf hg (Step.refl _ _ _ _ _))
end Go.Proofs.Ytaaogcnjfkgnoaa

namespace Go.Proofs.Ytaaogcnjfkgnoaa
open Go.RowKit
def z14 : Nat → List AV → Tm
 |_,[]=>[]
 |k,d :: r=>(k,d) :: z14 (k + 1) r
theorem zle : ∀ (args : List AV) (k i : Nat),get (z14 k args) i = if k ≤ i then (args[i - k]?).getD .nil else .nil
 |[],k,i=>by simp [z14,get]
 |d :: r,k,i=>by
  simp only [z14,get]
  split
  ·rename_i e;subst e;simp
  ·rename_i hne
   rw [zle r (k + 1) i]
   by_cases h : k ≤ i
   ·rw [if_pos (by omega),if_pos h]
    obtain ⟨q,hq⟩ : ∃ q,i - k = q + 1 := ⟨i - k - 1,by omega⟩
    rw [hq,show i - (k + 1) = q by omega]
    simp
   ·rw [if_neg (by omega),if_neg h]
def noT : AV → AV
 |.iface _ _=>.nil
 |d=>d
section
variable {P : Program} {G : Gl}
theorem zAh {S : SS} {μ : List Value} {d : AV} {v : Value} (h : rep S μ d v) : repA S μ (noT d) v := by
 unfold noT
 split
 ·trivial
 ·rename_i hne
  unfold rep at h
  split at h
  ·exact absurd rfl (hne _ _)
  ·exact h
theorem zvB {f : FuncId} {args : List AV} {X : AV} {H : List AObj} {R : AV → List AObj → Prop} (h : ACp P G f args X) (ha : args.all (ltT 0) = true) (k : R X H) : AC P G f args H R :=
 (AC.pure h ha H).mono fun r H' ⟨e1,e2⟩=>by subst e1 e2;exact k
end
end Go.Proofs.Ytaaogcnjfkgnoaa

namespace Go.Proofs.Ytaaogcnjfkgnoaa
open Go.RowKit
section
variable {P : Program} {G : Gl} {N : FS} {n : Nat} {s s' : ASt} {H H' : List AObj} {T : Tm} {K : ASt → Prop} {K1 : AV → Prop} {K2 : AV → List AObj → Prop} {ops l r : List Oper} {dst : Option Tmp} {op : Op} {ty : TypeId} {pos : String} {af : Array Edge} {gd : Option (Nat × Bool)} {x y z : AV} {t t' : TypeId}
theorem zzN {j i : Nat} : get ((j,x) :: T) i = if j = i then x else get T i := _root_.id rfl
theorem zBP {a : Operand} : z0A P G ⟨dst, .load t a,ty,pos,af,gd⟩ s K2 = zjK (z1T P t) s.H (ev G s.T a) fun r=>K2 r s.H := _root_.id rfl
section
variable {k : IntKind} {a b : Int}
end
theorem z2s {a : Int} (h1 : -9223372036854775808 ≤ a) (h2 : a ≤ 9223372036854775807) : IntKind.i64.wrap a = a := IntWalk.i64_in a ⟨h1,h2⟩
theorem zFJ {a : Int} (h1 : 0 ≤ a) (h2 : a ≤ 18446744073709551615) : IntKind.u64.wrap a = a := IntWalk.u64_in a ⟨h1,h2⟩
theorem ztg {a b : Int} (h : 0 ≤ a) : a.tmod b = a % b := Int.tmod_eq_emod_of_nonneg h
theorem zGb {cs : List AV} : cellsOf (.agg cs) = cs := _root_.id rfl
theorem co_V {v : Value} : cellsOf (V v) = [V v] := _root_.id rfl
theorem zyp {es sp : List AV} : cellsOf (.slice es sp) = [.slice es sp] := _root_.id rfl
theorem zK0 {i m : Nat} : cellsOf (OW i m) = [OW i m] := _root_.id rfl
theorem zJU {i m : Nat} : cellsOf (OP i m) = [OP i m] := _root_.id rfl
theorem zFE : cellsOf (.ptr x) = [.ptr x] := _root_.id rfl
theorem zHR {v : Value} : zN7 (V v) = true := _root_.id rfl
theorem zuc {es sp : List AV} : zN7 (.slice es sp) = true := _root_.id rfl
theorem zCP {i m : Nat} : zN7 (OW i m) = true := _root_.id rfl
theorem zEt {i m : Nat} : zN7 (OP i m) = true := _root_.id rfl
theorem zAj : zN7 (.ptr x) = true := _root_.id rfl
theorem zA0 {cs : List AV} : zN7 (.agg cs) = true := _root_.id rfl
theorem zHH {a : List AV} {o : Nat} : z09 a o [] = a := _root_.id rfl
theorem zBu {a c : List AV} {o : Nat} : z09 a o (x :: c) = z09 (a.set o x) (o + 1) c := _root_.id rfl
theorem zFm {k : IntKind} {i : Int} : ro H (V (.int k i)) = V (.int k i) := _root_.id rfl
theorem zEV {b : Bool} : ro H (V (.bool b)) = V (.bool b) := _root_.id rfl
theorem zGS {b : ByteArray} : ro H (V (.string b)) = V (.string b) := _root_.id rfl
theorem zCv : ro H (V (.slice none 0 0)) = SL [] := _root_.id rfl
theorem zAm {es sp : List AV} : ro H (.slice es sp) = .slice es sp := _root_.id rfl
theorem zGJ : ro H (.ptr x) = .ptr x := _root_.id rfl
theorem zKi {i o : Nat} : ro H (OP i o) = OP i o := _root_.id rfl
theorem zK1 {i m : Nat} : ro H (OW i m) = ro1 H (OW i m) := _root_.id rfl
theorem zGi {cs : List AV} : ro H (.agg cs) = .agg (cs.map (ro1 H)) := _root_.id rfl
theorem zKI {ds : List AV} : ro H (TU ds) = TU (ds.map (roA H)) := _root_.id rfl
theorem zBw {cs : List AV} : roA H (.agg cs) = .agg (cs.map (ro1 H)) := _root_.id rfl
theorem zKz {v : Value} : roA H (V v) = ro1 H (V v) := _root_.id rfl
theorem zvQ {es sp : List AV} : roA H (.slice es sp) = .slice es sp := _root_.id rfl
theorem zHz {i m : Nat} : roA H (OW i m) = ro1 H (OW i m) := _root_.id rfl
theorem zFG {i m : Nat} : roA H (OP i m) = OP i m := _root_.id rfl
theorem zB3 : roA H (.ptr x) = .ptr x := _root_.id rfl
theorem zGP {k : IntKind} {i : Int} : ro1 H (V (.int k i)) = V (.int k i) := _root_.id rfl
theorem zCX {b : Bool} : ro1 H (V (.bool b)) = V (.bool b) := _root_.id rfl
theorem zGK {b : ByteArray} : ro1 H (V (.string b)) = V (.string b) := _root_.id rfl
theorem zEC : ro1 H (V (.slice none 0 0)) = SL [] := _root_.id rfl
theorem zya {es sp : List AV} : ro1 H (.slice es sp) = .slice es sp := _root_.id rfl
theorem zFL : ro1 H (.ptr x) = .ptr x := _root_.id rfl
theorem zJy {i o : Nat} : ro1 H (OP i o) = OP i o := _root_.id rfl
theorem zKm {v : Value} : noT (V v) = V v := _root_.id rfl
theorem zCH {cs : List AV} : noT (.agg cs) = .agg cs := _root_.id rfl
theorem zvI {es sp : List AV} : noT (.slice es sp) = .slice es sp := _root_.id rfl
theorem zGD {i m : Nat} : noT (OW i m) = OW i m := _root_.id rfl
theorem zHx {i m : Nat} : noT (OP i m) = OP i m := _root_.id rfl
theorem zC4 : noT (.ptr x) = .ptr x := _root_.id rfl
theorem zEn : noT .nil = .nil := _root_.id rfl
section
variable {Q : Exit → ASt → Prop} {id : Nat} {c d e : Code}
theorem wr (hfit : zNp N ops = true) (hn : n ≤ s.H.length) (h : zbL P G ops ops s fun s=>AWp P G N n d Q s) : AWp P G N n (.seq (.region id ops.toArray false) d) Q s := zxP (zp2 hfit hn h)
end
end
end Go.Proofs.Ytaaogcnjfkgnoaa

namespace Go.Proofs.Ytaaogcnjfkgnoaa
open Go.RowKit
theorem zMK {p : Prop} (h : p) : Hid p := h
def cB (b : UInt8) : Value := .int .u8 (b.toNat : Int)
theorem zK7 (n : Nat) (h : n < 256) : cB (UInt8.ofNat n) = .int .u8 (n : Int) := by
 simp [cB];omega
def Rd (w : World) (A : Option Addr) (size n : Nat) (xs : List Value) : Prop :=
 xs.length = n * size ∧ (0 < n → ∃ b off,A = some ⟨b,off,none⟩ ∧ b < w.heap.size ∧ ∀ j u,xs[j]? = some u → w.cell? ⟨b,off + j,none⟩ = some u)
section
variable {w w' : World} {A : Option Addr} {size n : Nat} {xs : List Value}
theorem Rd.keep (h : Rd w A size n xs) (hs : w.heap.size ≤ w'.heap.size) (hk : ∀ b o,b < w.heap.size → w'.cell? ⟨b,o,none⟩ = w.cell? ⟨b,o,none⟩) : Rd w' A size n xs :=
 ⟨h.1,fun hn=>by
  obtain ⟨b,off,e,hb,hc⟩ := h.2 hn
  exact ⟨b,off,e,by omega,fun j u hu=>(hk _ _ hb).trans (hc j u hu)⟩⟩
theorem Rd.below (h : Rd w A size n xs) (hb : Below w.heap.size w w') : Rd w' A size n xs := h.keep hb.size fun b o hlt=>hb.cell (p := ⟨b,o,none⟩) hlt
theorem Rd.drew (h : Rd w A size n xs) : Rd w.drew A size n xs := h
theorem Rd.alloc (h : Rd w A size n xs) (o : Obj) : Rd (w.alloc o) A size n xs := h.below ((Below.refl _ _).alloc (Nat.le_refl _) o)
theorem Rd.at_ (h : Rd w A size n xs) (hn : 0 < n) : ∃ b off,A = some ⟨b,off,none⟩ ∧ b < w.heap.size ∧ ∀ j u,xs[j]? = some u → w.cell? ⟨b,off + j,none⟩ = some u := h.2 hn
theorem Rd.of_own {base : Nat} {e : TypeId} {c : Nat} (h : w.ownsRow base e size (.slice A n c) n xs) : Rd w A size n xs := by
 refine ⟨h.1,fun hn=>?_⟩
 obtain ⟨g,cap,hv,_,hlt⟩ := h.form hn
 have hA : A = some ⟨g,0,none⟩ := by injection hv
 subst hA
 exact ⟨g,0,rfl,hlt,fun j u hu=>by
  have := h.cells (g := g) rfl j u hu
  rw [show (⟨g,0,none⟩ : Addr).add j = ⟨g,0 + j,none⟩ from by unfold Addr.add;split <;> simp_all] at this
  exact this⟩
theorem Rd.less (h : Rd w A size n xs) {k : Nat} (hk : k ≤ n) : Rd w A size k (xs.take (k * size)) := by
 refine ⟨by rw [List.length_take,h.1];exact Nat.min_eq_left (Nat.mul_le_mul_right _ hk),fun hn=>?_⟩
 obtain ⟨b,off,e,hb,hcell⟩ := h.2 (by omega)
 refine ⟨b,off,e,hb,fun j u hu=>hcell j u ?_⟩
 rw [List.getElem?_take] at hu
 split at hu
 ·exact hu
 ·cases hu
end
def Bs (w : World) (A : Option Addr) (l : List UInt8) : Prop := Rd w A 1 l.length (l.map cB)
theorem Bs.below {w w' : World} {A : Option Addr} {l : List UInt8} (h : Bs w A l) (hb : Below w.heap.size w w') : Bs w' A l := Rd.below h hb
theorem Bs.cell {w : World} {A : Option Addr} {l : List UInt8} (h : Bs w A l) (hn : 0 < l.length) : ∃ b off,A = some ⟨b,off,none⟩ ∧ b < w.heap.size ∧ ∀ j (hj : j < l.length),w.cell? ⟨b,off + j,none⟩ = some (.int .u8 (l[j].toNat : Int)) := by
 obtain ⟨b,off,e,hb,hc⟩ := h.2 hn
 exact ⟨b,off,e,hb,fun j hj=>hc j _ (by simp [hj,cB])⟩
theorem Bs.of_own {w : World} {base : Nat} {t : TypeId} {A : Option Addr} {c : Nat} {l : List UInt8} (h : w.ownsRow base t 1 (.slice A l.length c) l.length (l.map cB)) : Bs w A l := Rd.of_own h
theorem zpL {P : Program} (src dst e : TypeId) (hs : P.underlying src = some (.slice e)) (he : P.underlying e = some (.int .u8)) (hd : P.underlying dst = some .string)
  (w : World) (A : Option Addr) (c : Nat) (l : List UInt8) (hb : Bs w A l) : (_root_.Go.convert src dst (.slice A l.length c)).run P w = .ok (.string ⟨l.toArray⟩) w := by
 cases A with
 |none =>
  have h0 : l.length = 0 := by
   rcases Nat.eq_zero_or_pos l.length with h|h
   ·exact h
   ·obtain ⟨b,off,e,_⟩ := hb.cell h;cases e
  have hl : l = [] := List.eq_nil_of_length_eq_zero h0
  subst hl
  exact run_convert_bytes_nil w src e hs he _ c dst hd
 |some a =>
  refine run_convert_bytes_back w src dst e a c l hs he hd fun j hj=>?_
  obtain ⟨b,off,e,_,hc⟩ := hb.cell (by omega)
  injection e with e
  subst e
  rw [show (⟨b,off,none⟩ : Addr).add j = ⟨b,off + j,none⟩ from by unfold Addr.add;split <;> simp_all]
  exact hc j hj
def cS (s : List UInt8) : Value := .string ⟨s.toArray⟩
def Ss (w : World) (A : Option Addr) (L : List (List UInt8)) : Prop := Rd w A 1 L.length (L.map cS)
theorem Ss.below {w w' : World} {A : Option Addr} {l : List (List UInt8)} (h : Ss w A l) (hb : Below w.heap.size w w') : Ss w' A l := Rd.below h hb
theorem Ss.cell {w : World} {A : Option Addr} {l : List (List UInt8)} (h : Ss w A l) (hn : 0 < l.length) : ∃ b off,A = some ⟨b,off,none⟩ ∧ b < w.heap.size ∧ ∀ j (hj : j < l.length),w.cell? ⟨b,off + j,none⟩ = some (.string ⟨l[j].toArray⟩) := by
 obtain ⟨b,off,e,hb,hc⟩ := h.2 hn
 exact ⟨b,off,e,hb,fun j hj=>hc j _ (by simp [hj,cS])⟩
theorem Ss.take {w : World} {A : Option Addr} {l : List (List UInt8)} (hb : Ss w A l) (k : Nat) : Ss w A (l.take k) := by
 by_cases h : k < l.length
 ·have := Rd.less hb (k := k) (by omega)
  unfold Ss
  rw [List.map_take,show (l.take k).length = k from by simp;omega]
  simpa using this
 ·rw [List.take_of_length_le (by omega)];exact hb
section
variable {P : Program} (w : World)
theorem ztd {ops : Array Oper} {rest : List Oper} {o : Oper} {a : Act} {Q : Exit → Act → World → Prop} (hgd : o.guard = none) (s x : Operand) (t : TypeId)
  (ho : o.op = .call { callee := .builtin .append,args := #[s,x],argTypes := #[t,t] })
  (w0 : World) (base : Nat) (e : TypeId) (z : Value) (size bytes : Nat) (ht : P.underlying t = some (.slice e)) (hi : (P.info? e).map (fun i=>(i.zero,i.size,i.bytes)) = some (some z,size,bytes))
  (hzs : z.cells.size = size) (hsz : 0 < size) (hby : bytes ≤ 4096)
  (v : Value) (n : Nat) (xs : List Value) (hs : a.eval s = v) (hown : w.ownsRow base e size v n xs) (hbel : Below base w0 w)
  (ad : Addr) (m c : Nat) (news : List Value) (hx : a.eval x = .slice (some ad) m c) (hl : news.length = m * size) (hnews : ∀ j u,news[j]? = some u → w.cell? (ad.add j) = some u) (h1 : ∀ u ∈ news,u.oneCell' = true)
  (hm : 0 < m) (hroom : n + m ≤ 34359738368) (hbase : base ≤ w.heap.size)
  (h : ∀ g cap w',w'.ownsRow base e size (.slice (some ⟨g,0,none⟩) (n + m) cap) (n + m) (xs ++ news) → Below base w0 w' → w.grownBy w' v.ownBlock → wpList P ops Q rest (a.put o.dst (.slice (some ⟨g,0,none⟩) (n + m) cap)) w') : wpList P ops Q (o :: rest) a w := by
 obtain ⟨i0,hi0,hz0,hz1,hz2⟩ := info_parts hi
 refine wpList_append_lies w hgd s x t ho base e i0 z size bytes ht hi0 hz0 hz1 hz2 hzs hsz v n xs hs hown ad m c news hx hl hnews h1 hm (by simp only [maxLen];omega)
  (by have := Nat.mul_le_mul hroom hby;omega) hbase _ rfl ?_
 intro g cap w' hown' hgrow _ _
 exact h g cap w' hown' (hbel.grown hgrow hbase fun k hk=>(hown.lt k hk).1) hgrow
theorem zfT {ops : Array Oper} {rest : List Oper} {o : Oper} {a : Act} {Q : Exit → Act → World → Prop} (hgd : o.guard = none) (s x : Operand) (t : TypeId)
  (ho : o.op = .call { callee := .builtin .append,args := #[s,x],argTypes := #[t,t] })
  (w0 : World) (base : Nat) (e te : TypeId) (z : Value) (bytes : Nat) (ht : P.underlying t = some (.slice e)) (hi : (P.info? e).map (fun i=>(i.zero,i.size,i.bytes)) = some (some z,1,bytes))
  (hzs : z.cells.size = 1) (hby : bytes ≤ 4096)
  (v : Value) (n : Nat) (xs : List Value) (y : Value) (hs : a.eval s = v) (hx : a.eval x = .slice (some ⟨w.heap.size,0,none⟩) 1 1) (h1 : y.oneCell' = true)
  (hown : w.ownsRow base e 1 v n xs) (hbel : Below base w0 w) (hbase : base ≤ w.heap.size) (hroom : n + 1 ≤ 34359738368)
  (h : ∀ g cap w',w'.ownsRow base e 1 (.slice (some ⟨g,0,none⟩) (n + 1) cap) (n + 1) (xs ++ [y]) → Below base w0 w' → wpList P ops Q rest (a.put o.dst (.slice (some ⟨g,0,none⟩) (n + 1) cap)) w') :
  wpList P ops Q (o :: rest) a (w.alloc (.cells #[y] te)) := by
 refine ztd (w.alloc (.cells #[y] te)) hgd s x t ho w0 base e z 1 bytes ht hi hzs (by omega) hby v n xs hs (hown.alloc _) (hbel.alloc hbase _) ⟨w.heap.size,0,none⟩ 1 1 [y] hx (by simp) (cell_one_new _ _ _)
  (by intro u hu;simp at hu;subst hu;exact h1) (by omega) hroom (by simp;omega) ?_
 intro g cap w' hown' hb' _
 exact h g cap w' hown' hb'
end
def Blk (w : World) (g : Nat) (t : TypeId) (cs : Array Value) : Prop := w.heap[g]? = some (.cells cs t (0,0))
section
variable {w w' : World} {g : Nat} {t : TypeId} {cs : Array Value}
theorem Blk.lt (h : Blk w g t cs) : g < w.heap.size := (Array.getElem?_eq_some_iff.1 h).1
theorem Blk.cell (h : Blk w g t cs) (i : Nat) : w.cell? ⟨g,i,none⟩ = cs[i]? := cell_of_row w g i cs t (0,0) h
theorem Blk.free (h : Blk w g t cs) (i : Nat) : w.frozen? ⟨g,i,none⟩ = false := by
 unfold Blk at h;simp [World.frozen?,h]
theorem Blk.new (w : World) (t : TypeId) (cs : Array Value) : Blk (w.alloc (.cells cs t)) w.heap.size t cs := heap_alloc_new w _
theorem Blk.alloc (h : Blk w g t cs) (o : Obj) : Blk (w.alloc o) g t cs := (Below.heap_alloc w o g h.lt).trans h
theorem Blk.below {B : Nat} (h : Blk w g t cs) (hb : Below B w w') (hg : g < B) : Blk w' g t cs := (hb.block g hg).trans h
theorem Blk.gr (h : Blk w g t cs) (hb : Below w.heap.size w w') : Blk w' g t cs := h.below hb h.lt
theorem Blk.grown {row : Option Nat} (h : Blk w g t cs) (hb : w.grownBy w' row) (hg : some g ≠ row) : Blk w' g t cs := (hb.block g h.lt hg).trans h
theorem Bs.grown {A : Option Addr} {l : List UInt8} (h : Bs w A l) (hg : w.grownBy w' (some g)) (hne : ∀ b off,A = some ⟨b,off,none⟩ → 0 < l.length → b ≠ g) : Bs w' A l :=
 ⟨h.1,fun hn=>by
  obtain ⟨b,off,e,hb,hc⟩ := h.2 hn
  refine ⟨b,off,e,Nat.lt_of_lt_of_le hb hg.size,fun j u hu=>?_⟩
  rw [World.cell?_of_block (w := w) (a := ⟨b,off + j,none⟩) (hg.block b hb (fun x=>hne b off e hn (by injection x)))]
  exact hc j u hu⟩
end
end Go.Proofs.Ytaaogcnjfkgnoaa

namespace Go.Proofs.Ytaaogcnjfkgnoaa
open Go.RowKit
def Gr (w w' : World) : Prop := Below w.heap.size w w'
theorem Gr.refl (w : World) : Gr w w := Below.refl _ _
theorem Gr.trans {a b c : World} (h : Gr a b) (k : Gr b c) : Gr a c := Below.trans h (k.mono h.size)
theorem Gr.drew (w : World) : Gr w w.drew := (Below.refl _ _).drew
theorem Gr.alloc (w : World) (o : Obj) : Gr w (w.alloc o) := (Below.refl _ _).alloc (Nat.le_refl _) o
section
variable {P : Program} {ops : Array Oper}
def zAR (ops : Array Oper) (o : Oper) : List (Nat × Nat) :=
 o.after.toList.filterMap fun e=>if Region.binds .any e then ((ops[e.on]?).bind (·.dst)).map (fun d=>(e.on,d)) else none
def zwU (ops : Array Oper) (j d : Nat) : Bool :=
 (List.range ops.size).all fun k=>k == j || ((ops[k]?).map fun ok=>ok.dst != some d || ok.after.any fun e=>Region.binds .any e && e.on == j).getD true
theorem Oper.wp_mono2 {o : Oper} {a : Act} {w : World} {K K' : Act → World → Prop} {Q Q' : Exit → Act → World → Prop} (h : ∀ a w,K a w → K' a w) (hQ : ∀ e a w,e ≠ .normal → Q e a w → Q' e a w)
  (hh : o.wp P a w K Q) : o.wp P a w K' Q' := by
 unfold Oper.wp at *
 generalize (execOp a.eval o).run P w = r at *
 cases r with
 |ok n w' =>
  cases n <;> simp only [Oper.upon] at hh ⊢ <;>
   first
    |exact h _ _ hh
    |exact Calls.mono hh (fun e w'' he=>by cases e <;> first|exact h _ _ he|exact hQ _ _ _ (by simp) he|exact he.imp fun _ ⟨_,g⟩=>⟨_,hQ _ _ _ (by simp) g⟩)
    |exact Rows.mono hh (fun _ _ he=>h _ _ he)
 |halt x w'=>cases x <;> simp only [Oper.upon] at hh ⊢ <;> first|exact hQ _ _ _ (by simp) hh|exact hh
structure SlotInv (ops : Array Oper) (Φ : Nat → Value → World → Prop) (a0 : Act) (w0 : World) (listed : Array Bool) (a : Act) (w : World) : Prop where
 len : listed.size = ops.size
 gr : Gr w0 w
 defers : a.defers = a0.defers
 size : a.tmps.size = a0.tmps.size
 done : ∀ k ok d,ops[k]? = some ok → ok.dst = some d → listed.getD k false = true → Φ k (a.tmps.getD d undef) w
 kept : ∀ d,(∀ k ok,ops[k]? = some ok → ok.dst = some d → listed.getD k false = false) → a.tmps.getD d undef = a0.tmps.getD d undef
 closed : ∀ k ok,ops[k]? = some ok → listed.getD k false = true → ∀ e ∈ ok.after,Region.binds .any e = true → listed.getD e.on false = true
theorem zoT (a : Act) (d : Nat) (v : Value) (h : d < a.tmps.size) : (a.put (some d) v).tmps.getD d undef = v := by
 simp [Act.put,Array.getD,h]
theorem zid (a : Act) (d d' : Nat) (v : Value) (h : d' ≠ d) : (a.put (some d) v).tmps.getD d' undef = a.tmps.getD d' undef := by
 simp only [Act.put,Array.getD_eq_getD_getElem?,Array.getElem?_setIfInBounds]
 rw [if_neg (fun e=>h e.symm)]
theorem zcl {listed : Array Bool} {i : Nat} (hi : i < listed.size) (h : listed.getD i true = false) : listed.getD i false = false := by
 simp only [Array.getD_eq_getD_getElem?,Array.getElem?_eq_getElem hi,Option.getD_some] at h ⊢;exact h
theorem zfc {listed : Array Bool} {i : Nat} (hi : i < listed.size) : (listed.setIfInBounds i true).getD i false = true := by
 simp [Array.getD_eq_getD_getElem?,hi]
theorem zrv {p q : Nat → Bool} {j : Nat} : ∀ {l : List Nat},j ∈ l → p j = true → q j = false → (∀ x,q x = true → p x = true) → (l.filter q).length < (l.filter p).length
 |[],h,_,_,_=>by cases h
 |x :: r,hj,hp,hq,hle=>by
  have hmono : (r.filter q).length ≤ (r.filter p).length := by
   clear hj
   induction r with
   |nil=>simp
   |cons y r ih =>
    simp only [List.filter_cons]
    cases hqy : q y <;> cases hpy : p y <;> simp
    ·exact ih
    ·omega
    ·rw [hle y hqy] at hpy;cases hpy
    ·exact ih
  simp only [List.filter_cons]
  rcases List.mem_cons.1 hj with rfl|hj
  ·rw [hp,hq];simp;omega
  ·have ih := zrv hj hp hq hle
   cases hqx : q x <;> cases hpx : p x <;> simp
   ·exact ih
   ·omega
   ·rw [hle x hqx] at hpx;cases hpx
   ·exact ih
def OpSees (ops : Array Oper) (Φ : Nat → Value → World → Prop) (a0 : Act) (w0 : World) (j : Nat) (o : Oper) (a : Act) (w : World) : Prop :=
 Gr w0 w ∧ a.defers = a0.defers ∧ a.tmps.size = a0.tmps.size ∧ (∀ p ∈ zAR ops o,Φ p.1 (a.tmps.getD p.2 undef) w) ∧ (∀ d,zwU ops j d = true → a.tmps.getD d undef = a0.tmps.getD d undef)
variable {Φ : Nat → Value → World → Prop} {a0 a : Act} {w0 w : World} {j : Nat} {o : Oper} {Ψ : Value → World → Prop}
theorem OpSees.free (h : OpSees ops Φ a0 w0 j o a w) (d : Nat) (hd : zwU ops j d = true) : a.eval (.tmp d) = a0.tmps.getD d undef := h.2.2.2.2 d hd
theorem OpSees.gr (h : OpSees ops Φ a0 w0 j o a w) : Gr w0 w := h.1
end
section
variable {P : Program}
end
structure Row where
 preds : List (Nat × Nat)
 frees : List Nat
 guard : Option (Nat × Nat × Bool)
section
variable {P : Program} {Φ : Nat → Value → World → Prop}
end
end Go.Proofs.Ytaaogcnjfkgnoaa

