/-
  Texts laid together, part 3 of 7: laws of a walk over data, contracts of functions, each whole by itself.
-/
import Derived.Test.YtaplemeamcgpkaaDoorMgb
import Derived.DeepKeys
set_option maxRecDepth 100000
noncomputable section
set_option linter.unusedVariables false
set_option linter.unusedSimpArgs false
namespace Go.Proofs.YtaplemeamcgpkaaDoor
open Go.RowKit
section
variable {P : Program} {G : Gl} {N : FS} {n : Nat} {s : ASt} {H H' X : List AObj} {T : Tm}
def zlU (acc : List Nat) (o : Oper) : Nat := o.after.toList.foldl (fun m e=>if Region.binds .any e then m ||| (acc.getD e.on 0 ||| 2 ^ e.on) else m) 0
def zEu : List Oper → List Nat → List Nat
 |[],acc=>acc
 |o :: r,acc=>zEu r (acc ++ [zlU acc o])
def anc (ops : List Oper) (k i : Nat) : Bool := ((zEu ops []).getD k 0).testBit i
theorem ziG (acc : List Nat) (i : Nat) : ∀ (l : List Edge) (m0 : Nat),(l.foldl (fun m e=>if Region.binds .any e then m ||| (acc.getD e.on 0 ||| 2 ^ e.on) else m) m0).testBit i = true → m0.testBit i = true ∨ ∃ e ∈ l,Region.binds .any e = true ∧ ((acc.getD e.on 0).testBit i = true ∨ i = e.on)
 |[],m0,h=>.inl h
 |e :: l,m0,h=>by
  rw [List.foldl_cons] at h
  rcases ziG acc i l _ h with h|⟨e',h1,h2⟩
  ·split at h
   ·rename_i hb
    rw [Nat.testBit_or,Nat.testBit_or,Bool.or_eq_true,Bool.or_eq_true,Nat.testBit_two_pow,decide_eq_true_eq] at h
    rcases h with h|h|h
    ·exact .inl h
    ·exact .inr ⟨e,List.mem_cons_self ..,hb, .inl h⟩
    ·exact .inr ⟨e,List.mem_cons_self ..,hb, .inr h.symm⟩
   ·exact .inl h
  ·exact .inr ⟨e',List.mem_cons_of_mem _ h1,h2⟩
theorem zg0 : ∀ (l : List Oper) (acc : List Nat),(zEu l acc).take acc.length = acc
 |[],acc=>by simp [zEu]
 |o :: l,acc=>by
  have := zg0 l (acc ++ [zlU acc o])
  simp only [zEu]
  rw [List.length_append,List.length_singleton] at this
  have h2 := congrArg (List.take acc.length) this
  rw [List.take_take,Nat.min_eq_left (by omega)] at h2
  rw [h2];simp
theorem zp8 : ∀ (l : List Oper) (acc : List Nat) (k : Nat) (o : Oper),l[k]? = some o → (zEu l acc).getD (acc.length + k) 0 = zlU ((zEu l acc).take (acc.length + k)) o
 |[],acc,k,o,h=>by simp at h
 |o1 :: l,acc,k,o,h=>by
  rcases k with _|k
  ·simp at h;subst h
   have h1 := zg0 l (acc ++ [zlU acc o1])
   have h2 := zg0 (o1 :: l) acc
   simp only [zEu] at h2 ⊢
   rw [Nat.add_zero,h2]
   have h3 : ((zEu l (acc ++ [zlU acc o1])).take (acc ++ [zlU acc o1]).length)[acc.length]? = some (zlU acc o1) := by rw [h1];simp
   rw [List.getElem?_take,if_pos (by simp)] at h3
   rw [List.getD_eq_getElem?_getD,h3];rfl
  ·simp only [List.getElem?_cons_succ] at h
   have := zp8 l (acc ++ [zlU acc o1]) k o h
   simp only [zEu]
   rw [List.length_append,List.length_singleton,Nat.add_assoc,Nat.add_comm 1 k] at this
   exact this
theorem zkh {ops : List Oper} {k i : Nat} (h : anc ops k i = true) : ∃ ok e,ops[k]? = some ok ∧ e ∈ ok.after ∧ Region.binds .any e = true ∧ (anc ops e.on i = true ∨ i = e.on) := by
 unfold anc at h
 cases hk : ops[k]? with
 |none =>
  have hl : ∀ (l : List Oper) (acc : List Nat),(zEu l acc).length = acc.length + l.length := by
   intro l
   induction l with
   |nil=>intro acc;simp [zEu]
   |cons o l ih=>intro acc;simp only [zEu,ih];simp;omega
  have h1 := List.getElem?_eq_none_iff.1 hk
  rw [List.getD_eq_getElem?_getD,List.getElem?_eq_none (by rw [hl];simpa using h1)] at h
  simp at h
 |some ok =>
  have h1 := zp8 ops [] k ok hk
  simp only [List.length_nil,Nat.zero_add] at h1
  rw [h1] at h
  rcases ziG _ i _ 0 h with h|⟨e,h2,h3,h4⟩
  ·simp at h
  ·refine ⟨ok,e,rfl,by simpa using h2,h3,?_⟩
   rcases h4 with h4|h4
   ·left
    unfold anc
    rw [List.getD_eq_getElem?_getD,List.getElem?_take] at h4
    split at h4
    ·rw [List.getD_eq_getElem?_getD];exact h4
    ·simp at h4
   ·exact .inr h4
theorem zAi {ops : List Oper} (hsh : z1O ops.toArray = true) : ∀ {k i : Nat},anc ops k i = true → i < k := by
 intro k
 induction k using Nat.strongRecOn with
 |ind k ih =>
  intro i h
  obtain ⟨ok,e,h1,h2,h3,h4⟩ := zkh h
  have := z3R hsh (k := k) (ok := ok) (by simpa using h1) e h2 h3
  rcases h4 with h4|h4
  ·have := ih e.on this h4;omega
  ·omega
theorem zfF {ops : List Oper} (hsh : z1O ops.toArray = true) {listed : Array Bool} (hcl : znd ops.toArray listed) : ∀ {k i : Nat},anc ops k i = true → (∀ ok,ops[k]? = some ok → ∀ e ∈ ok.after,Region.binds .any e = true → listed.getD e.on false = true) → listed.getD i false = true := by
 intro k
 induction k using Nat.strongRecOn with
 |ind k ih =>
  intro i h hk
  obtain ⟨ok,e,h1,h2,h3,h4⟩ := zkh h
  have hl := hk ok h1 e h2 h3
  rcases h4 with h4|h4
  ·exact ih e.on (z3R hsh (k := k) (ok := ok) (by simpa using h1) e h2 h3) h4 fun ok' h5 e' h6 h7=>hcl e.on ok' (by simpa using h5) hl e' h6 h7
  ·rw [h4];exact hl
abbrev KC := FuncId → Nat
def zDp (kc : KC) (op : Op) : Nat := match op with
 |.alloc _=>1
 |.call { callee := .value (.func f), .. }=>kc f
 |op=>if loud op = true then 2 else 0
variable {kc : KC}
def loI (kc : KC) (ops : List Oper) (A : List Nat) (i : Nat) : Nat := (List.range i).foldl (fun m k=>if (match ops[k]? with|some o=>zDp kc o.op != 0|none=>false) && (A.getD i 0).testBit k then k + 1 else m) 0
theorem zmd (f : Nat → Bool) : ∀ (n : Nat),(((List.range n).foldl (fun m k=>if f k then k + 1 else m) 0 = 0) ∧ ∀ k,k < n → f k = false) ∨ ∃ q,q < n ∧ (List.range n).foldl (fun m k=>if f k then k + 1 else m) 0 = q + 1 ∧ f q = true ∧ ∀ k,q < k → k < n → f k = false
 |0=>.inl ⟨rfl,fun k h=>by omega⟩
 |n + 1=>by
  rw [List.range_succ,List.foldl_append]
  simp only [List.foldl_cons,List.foldl_nil]
  cases hf : f n with
  |true =>
   right
   exact ⟨n,by omega,by simp,hf,fun k h1 h2=>by omega⟩
  |false =>
   simp only [Bool.false_eq_true,if_false]
   rcases zmd f n with ⟨h1,h2⟩|⟨q,h1,h2,h3,h4⟩
   ·left
    refine ⟨h1,fun k hk=>?_⟩
    rcases Nat.lt_or_ge k n with q|q
    ·exact h2 k q
    ·have : k = n := by omega
     subst this;exact hf
   ·right
    refine ⟨q,by omega,h2,h3,fun k hk1 hk2=>?_⟩
    rcases Nat.lt_or_ge k n with q|q
    ·exact h4 k hk1 q
    ·have : k = n := by omega
     subst this;exact hf
theorem zbJ (ops : List Oper) (i : Nat) : (loI kc ops (zEu ops []) i = 0 ∧ ∀ (k : Nat) (o : Oper),k < i → ops[k]? = some o → zDp kc o.op ≠ 0 → anc ops i k = false) ∨
  ∃ (q : Nat) (o : Oper),q < i ∧ loI kc ops (zEu ops []) i = q + 1 ∧ ops[q]? = some o ∧ zDp kc o.op ≠ 0 ∧ anc ops i q = true ∧ ∀ (k : Nat) (o : Oper),q < k → k < i → ops[k]? = some o → zDp kc o.op ≠ 0 → anc ops i k = false := by
 have nf : ∀ (k : Nat) (o : Oper),ops[k]? = some o → zDp kc o.op ≠ 0 → ((match ops[k]? with|some o=>zDp kc o.op != 0|none=>false) && ((zEu ops []).getD i 0).testBit k) = false → anc ops i k = false := by
  intro k o ho hc h
  rw [ho] at h
  have : (zDp kc o.op != 0) = true := by simpa using hc
  dsimp only at h
  rw [this,Bool.true_and] at h
  exact h
 rcases zmd (fun k=>(match ops[k]? with|some o=>zDp kc o.op != 0|none=>false) && ((zEu ops []).getD i 0).testBit k) i with ⟨h1,h2⟩|⟨q,h1,h2,h3,h4⟩
 ·exact .inl ⟨h1,fun k o hk ho hc=>nf k o ho hc (h2 k hk)⟩
 ·right
  rw [Bool.and_eq_true] at h3
  obtain ⟨h3,h5⟩ := h3
  cases hq : ops[q]? with
  |none=>rw [hq] at h3;cases h3
  |some o =>
   rw [hq] at h3
   exact ⟨q,o,h1,h2,hq,by simpa using h3,h5,fun k o' hk1 hk2 ho hc=>nf k o' ho hc (h4 k hk1 hk2)⟩
theorem zzb (ops : List Oper) (i : Nat) : loI kc ops (zEu ops []) i ≤ i := by
 rcases zbJ (kc := kc) ops i with ⟨h,_⟩|⟨q,o,h1,h2,_⟩ <;> omega
def z9i (kc : KC) (ops : List Oper) (A : List Nat) (i : Nat) : Bool := !((List.range ops.length).all fun k=>match ops[k]? with|some o=>decide (zDp kc o.op ≤ 1) || k == i || (if i < k then (A.getD k 0).testBit i else (A.getD i 0).testBit k)|none=>true)
theorem zmm {ops : List Oper} {i : Nat} (h : z9i kc ops (zEu ops []) i = false) {k : Nat} {o : Oper} (ho : ops[k]? = some o) (hc : 1 < zDp kc o.op) (hk : k ≠ i) : (if i < k then anc ops k i else anc ops i k) = true := by
 unfold z9i at h
 rw [Bool.not_eq_false'] at h
 have := List.all_eq_true.1 h k (List.mem_range.2 (List.getElem?_eq_some_iff.1 ho).1)
 rw [ho] at this
 dsimp only at this
 rw [decide_eq_false (show ¬ zDp kc o.op ≤ 1 by omega),Bool.false_or,show (k == i) = false by simpa using hk,Bool.false_or] at this
 exact this
theorem zcI {ops : List Oper} {A : List Nat} {i : Nat} (h : ∀ (k : Nat) (o : Oper),ops[k]? = some o → zDp kc o.op = 0) : z9i kc ops A i = false := by
 unfold z9i
 rw [Bool.not_eq_false',List.all_eq_true]
 intro k hk
 cases ho : ops[k]? with
 |none=>rfl
 |some o=>simp [h k o ho]
def zEe (kc : KC) (ops : List Oper) (A : List Nat) (hl : List (List AObj)) (i : Nat) : List AObj := match z9i kc ops A i with|true=>[]|false=>hl.getD (loI kc ops A i) []
def zDe (ops : List Oper) (T : Tm) (o : Oper) : Prop := o.guard = none ∨ ∃ (j : Nat) (want : Bool) (t : Nat),o.guard = some (j,want) ∧ z1N ops j = some t ∧ get T t = V (.bool want)
def zB0 (ops : List Oper) (T : Tm) (o : Oper) : Prop := ∃ (j : Nat) (want : Bool) (t : Nat),o.guard = some (j,want) ∧ z1N ops j = some t ∧ (get T t = V (.bool (!want)) ∨ ∃ q,get T t = .iface q (.agg []))
def zd7 (f : Bool) (o : Oper) : Option (TypeId × Operand) := match f,o.op with
 |true, .load t x=>some (t,x)
 |_,_=>none
theorem zlV {f : Bool} {o : Oper} {t : TypeId} {x : Operand} (h : zd7 f o = some (t,x)) : o.op = .load t x := by
 unfold zd7 at h
 split at h
 ·rename_i t' x' h1
  injection h with h
  injection h with h3 h4
  subst h3 h4
  exact h1
 ·cases h
abbrev Opn := Nat × AV × AV
def zem (H : List AObj) (x : Opn) : Prop := z67 x.1 H x.2.1 (· = x.2.2)
abbrev OpI := Nat × Opn
def z8C (A : List Nat) (p : Nat) : List OpI → List OpI
 |[]=>[]
 |x :: l=>match (A.getD p 0).testBit x.1 with|true=>z8C A p l|false=>x :: z8C A p l
theorem ziB {A : List Nat} {p : Nat} {x : OpI} : ∀ {l : List OpI},x ∈ l → (A.getD p 0).testBit x.1 = true ∨ x ∈ z8C A p l
 |y :: l,h=>by
  unfold z8C
  rcases List.mem_cons.1 h with rfl|h
  ·cases hb : (A.getD p 0).testBit x.1 with
   |true=>exact .inl rfl
   |false=>exact .inr (List.mem_cons_self ..)
  ·rcases ziB (A := A) (p := p) h with q|q
   ·exact .inl q
   ·cases hb : (A.getD p 0).testBit y.1 with
    |true=>exact .inr q
    |false=>exact .inr (List.mem_cons_of_mem _ q)
def zp4 (kc : KC) (ops : List Oper) (lo hi j : Nat) : Prop := ∀ k o,ops[k]? = some o → zDp kc o.op ≠ 0 → lo ≤ k → k < hi → anc ops k j = false
def zDj (P : Program) (G : Gl) (kc : KC) (ops : List Oper) (St : List AObj → Prop) (Hl Hj : List AObj) (T : Tm) (o : Oper) (v : AV) (Hk : List AObj) : Prop :=
 if zDp kc o.op = 0 then Hk = Hj ∧ (z8c P G ops Hl T o v ∨ ∃ t x,o.op = .load t x ∧ zDe ops T o ∧ ∀ H,St H → zem H (z0z P t,ev G T x,v))
 else (zDe ops T o ∧ z08 P G o ⟨Hj,T⟩ (fun d H'=>d = v ∧ H' = Hk) ∧ (zDp kc o.op = 1 → ∃ X,Hk = Hj ++ X)) ∨ (zB0 ops T o ∧ v = UD ∧ Hk = Hj)
theorem ztN {ops : List Oper} {St St' : List AObj → Prop} {Hl Hj : List AObj} {T : Tm} {o : Oper} {v : AV} {Hk : List AObj} (q : ∀ H,St' H → St H) (h : zDj P G kc ops St Hl Hj T o v Hk) : zDj P G kc ops St' Hl Hj T o v Hk := by
 unfold zDj at h ⊢
 split at h
 ·rename_i hc
  rw [if_pos hc]
  refine ⟨h.1,h.2.imp id ?_⟩
  rintro ⟨t,x,h1,h2,h3⟩
  exact ⟨t,x,h1,h2,fun H hs=>h3 H (q H hs)⟩
 ·rename_i hc
  rw [if_neg hc]
  exact h
def z8i (P : Program) (G : Gl) (kc : KC) (ops : List Oper) : List (List AObj) → List (Nat × List AObj) → List OpI → List Oper → ASt → (ASt → Prop) → Prop
 |acc,old,opn,[],s,K=>K s
 |acc,old,opn,o :: r,s,K =>
  if zDp kc o.op = 0 then (match o.guard with
   |none=>(match zd7 (z9i kc ops (zEu ops []) acc.length) o with
    |some (t,x)=>z67 (z0z P t) s.H (ev G s.T x) fun d=>(∀ p ∈ old,loI kc ops (zEu ops []) acc.length ≤ p.1 → zem p.2 (z0z P t,ev G s.T x,d)) ∧ z8i P G kc ops (acc ++ [s.H]) old ((acc.length,z0z P t,ev G s.T x,d) :: opn) r (s.set s.H o.dst d) K
    |none=>z0T P G o ⟨zEe kc ops (zEu ops []) (acc ++ [s.H]) acc.length,s.T⟩ fun d=>z8i P G kc ops (acc ++ [s.H]) old opn r (s.set s.H o.dst d) K)
   |some (j,want)=>match z1N ops j with
    |some t=>z3t (get s.T t) want (match zd7 (z9i kc ops (zEu ops []) acc.length) o with
    |some (t,x)=>z67 (z0z P t) s.H (ev G s.T x) fun d=>(∀ p ∈ old,loI kc ops (zEu ops []) acc.length ≤ p.1 → zem p.2 (z0z P t,ev G s.T x,d)) ∧ z8i P G kc ops (acc ++ [s.H]) old ((acc.length,z0z P t,ev G s.T x,d) :: opn) r (s.set s.H o.dst d) K
    |none=>z0T P G o ⟨zEe kc ops (zEu ops []) (acc ++ [s.H]) acc.length,s.T⟩ fun d=>z8i P G kc ops (acc ++ [s.H]) old opn r (s.set s.H o.dst d) K) (z8i P G kc ops (acc ++ [s.H]) old opn r (s.set s.H o.dst UD) K)
    |none=>False)
  else (match o.guard with
   |none=>∃ v H',z08 P G o s (fun d Hk=>d = v ∧ Hk = H') ∧ (zDp kc o.op = 1 → ∃ X,H' = s.H ++ X) ∧ (∀ x ∈ (z8C (zEu ops []) acc.length opn),zem H' x.2) ∧ z8i P G kc ops (acc ++ [s.H]) ((acc.length,s.H) :: old) (z8C (zEu ops []) acc.length opn) r (s.set H' o.dst v) K
   |some (j,want)=>match z1N ops j with
    |some t=>z3t (get s.T t) want (∃ v H',z08 P G o s (fun d Hk=>d = v ∧ Hk = H') ∧ (zDp kc o.op = 1 → ∃ X,H' = s.H ++ X) ∧ (∀ x ∈ (z8C (zEu ops []) acc.length opn),zem H' x.2) ∧ z8i P G kc ops (acc ++ [s.H]) ((acc.length,s.H) :: old) (z8C (zEu ops []) acc.length opn) r (s.set H' o.dst v) K) (z8i P G kc ops (acc ++ [s.H]) old opn r (s.set s.H o.dst UD) K)
    |none=>False)
theorem z2B {ops : List Oper} {K K' : ASt → Prop} (q : ∀ s,K s → K' s) : ∀ {l : List Oper} {acc : List (List AObj)} {old : List (Nat × List AObj)} {opn : List OpI} {s : ASt},z8i P G kc ops acc old opn l s K → z8i P G kc ops acc old opn l s K'
 |[],acc,old,opn,s,h=>q s h
 |o :: l,acc,old,opn,s,h=>by
  unfold z8i at h ⊢
  split at h
  ·rename_i hc
   rw [if_pos hc]
   have go : (match zd7 (z9i kc ops (zEu ops []) acc.length) o with
    |some (t,x)=>z67 (z0z P t) s.H (ev G s.T x) fun d=>(∀ p ∈ old,loI kc ops (zEu ops []) acc.length ≤ p.1 → zem p.2 (z0z P t,ev G s.T x,d)) ∧ z8i P G kc ops (acc ++ [s.H]) old ((acc.length,z0z P t,ev G s.T x,d) :: opn) l (s.set s.H o.dst d) K
    |none=>z0T P G o ⟨zEe kc ops (zEu ops []) (acc ++ [s.H]) acc.length,s.T⟩ fun d=>z8i P G kc ops (acc ++ [s.H]) old opn l (s.set s.H o.dst d) K) → (match zd7 (z9i kc ops (zEu ops []) acc.length) o with
    |some (t,x)=>z67 (z0z P t) s.H (ev G s.T x) fun d=>(∀ p ∈ old,loI kc ops (zEu ops []) acc.length ≤ p.1 → zem p.2 (z0z P t,ev G s.T x,d)) ∧ z8i P G kc ops (acc ++ [s.H]) old ((acc.length,z0z P t,ev G s.T x,d) :: opn) l (s.set s.H o.dst d) K'
    |none=>z0T P G o ⟨zEe kc ops (zEu ops []) (acc ++ [s.H]) acc.length,s.T⟩ fun d=>z8i P G kc ops (acc ++ [s.H]) old opn l (s.set s.H o.dst d) K') := by
    intro h
    cases hop : zd7 (z9i kc ops (zEu ops []) acc.length) o with
    |some p =>
     rw [hop] at h
     exact z4j (fun d k=>⟨k.1,z2B q k.2⟩) h
    |none =>
     rw [hop] at h
     exact zfB (fun d k=>z2B q k) h
   split at h
   ·exact go h
   ·split at h
    ·unfold z3t at h ⊢
     split at h
     ·exact ⟨fun e=>go (h.1 e),fun e=>z2B q (h.2 e)⟩
     ·exact z2B q h
     ·exact h.elim
    ·exact h.elim
  ·rename_i hc
   rw [if_neg hc]
   split at h
   ·obtain ⟨v,H',h1,h2,h3,h4⟩ := h
    exact ⟨v,H',h1,h2,h3,z2B q h4⟩
   ·split at h
    ·unfold z3t at h ⊢
     split at h
     ·exact ⟨fun e=>by
      obtain ⟨v,H',h1,h2,h3,h4⟩ := h.1 e
      exact ⟨v,H',h1,h2,h3,z2B q h4⟩,fun e=>z2B q (h.2 e)⟩
     ·exact z2B q h
     ·exact h.elim
    ·exact h.elim
def zFx (acc : List (List AObj)) (hs : Nat → List AObj) (q : Nat) : List AObj := if q < acc.length then acc.getD q [] else hs (q - acc.length)
theorem zu8 {acc : List (List AObj)} {hs : Nat → List AObj} {H : List AObj} (h : hs 0 = H) {q : Nat} (hq : q ≤ acc.length) : (acc ++ [H]).getD q [] = zFx acc hs q := by
 unfold zFx
 split
 ·rename_i hl
  rw [List.getD_eq_getElem?_getD,List.getElem?_append_left hl,List.getD_eq_getElem?_getD]
 ·have : q = acc.length := by omega
  subst this
  simp [h]
theorem zoH {acc : List (List AObj)} {hs hs' : Nat → List AObj} {H : List AObj} (h : hs 0 = H) (h' : ∀ i,hs (i + 1) = hs' i) (q : Nat) : zFx (acc ++ [H]) hs' q = zFx acc hs q := by
 unfold zFx
 rw [List.length_append,List.length_singleton]
 by_cases h1 : q < acc.length
 ·rw [if_pos (by omega),if_pos h1,List.getD_eq_getElem?_getD,List.getElem?_append_left h1,List.getD_eq_getElem?_getD]
 ·rw [if_neg h1]
  by_cases h2 : q = acc.length
  ·subst h2
   rw [if_pos (by omega)]
   simp [h]
  ·rw [if_neg (by omega),← h']
   congr 1;omega
def zFQ (kc : KC) (ops : List Oper) (acc : List (List AObj)) (hs : Nat → List AObj) (i : Nat) : List AObj := match z9i kc ops (zEu ops []) i with|true=>[]|false=>zFx acc hs (loI kc ops (zEu ops []) i)
theorem ztS {ops : List Oper} {acc : List (List AObj)} {hs : Nat → List AObj} {H : List AObj} (h : hs 0 = H) : zEe kc ops (zEu ops []) (acc ++ [H]) acc.length = zFQ kc ops acc hs acc.length := by
 unfold zEe zFQ
 cases z9i kc ops (zEu ops []) acc.length with
 |true=>rfl
 |false=>exact zu8 h (zzb ops _)
theorem zom {ops : List Oper} {acc : List (List AObj)} {hs hs' : Nat → List AObj} {H : List AObj} (h : hs 0 = H) (h' : ∀ i,hs (i + 1) = hs' i) (q : Nat) : zFQ kc ops (acc ++ [H]) hs' q = zFQ kc ops acc hs q := by
 unfold zFQ
 rw [zoH h h']
theorem ziL {ops : List Oper} {K : ASt → Prop} : ∀ {l : List Oper} {acc : List (List AObj)} {old : List (Nat × List AObj)} {opn : List OpI} {H : List AObj} {T : Tm},z8i P G kc ops acc old opn l ⟨H,T⟩ K → (∀ i,l[i]? = ops[acc.length + i]?) → (∀ x ∈ opn,zem H x.2) → ∃ (vs : List AV) (hs : Nat → List AObj),vs.length = l.length ∧ hs 0 = H ∧ K ⟨hs l.length,zDt T l vs⟩ ∧
  (∀ q,q ≤ l.length → ∀ x ∈ opn,zp4 kc ops acc.length (acc.length + q) x.1 → zem (hs q) x.2) ∧
  ∀ i o v,l[i]? = some o → vs[i]? = some v → zDj P G kc ops (fun H'=>(∃ k,(k,H') ∈ old ∧ loI kc ops (zEu ops []) (acc.length + i) ≤ k) ∨ ∃ q,q ≤ l.length ∧ H' = hs q ∧ zp4 kc ops acc.length (acc.length + q) (acc.length + i) ∧ loI kc ops (zEu ops []) (acc.length + i) ≤ acc.length + q) (zFQ kc ops acc hs (acc.length + i)) (hs i) (zDt T (l.take i) (vs.take i)) o v (hs (i + 1))
 |[],acc,old,opn,H,T,h,_,hc=>⟨[],fun _=>H,rfl,rfl,h,fun q _ x hx _=>hc x hx,fun i o v ho=>by simp at ho⟩
 |o :: l,acc,old,opn,H,T,h,hll,hc=>by
  have ho0 : ops[acc.length]? = some o := by have := hll 0;simpa using this.symm
  have hll1 : ∀ i,l[i]? = ops[(acc ++ [H]).length + i]? := fun i=>by
   have := hll (i + 1)
   rw [List.getElem?_cons_succ] at this
   rw [this,List.length_append,List.length_singleton]
   congr 1;omega
  have key : ∀ (v : AV) (H1 : List AObj) (old1 : List (Nat × List AObj)) (opn1 : List OpI),z8i P G kc ops (acc ++ [H]) old1 opn1 l (ASt.set ⟨H,T⟩ H1 o.dst v) K → (∀ x ∈ opn1,zem H1 x.2) → (∀ x ∈ opn,x ∈ opn1 ∨ (zDp kc o.op ≠ 0 ∧ anc ops acc.length x.1 = true)) → (∀ p ∈ old,p ∈ old1) → ((acc.length,H) ∈ old1 ∨ H1 = H) →
    (∀ St : List AObj → Prop,(∀ H',St H' → (∃ k,(k,H') ∈ old ∧ loI kc ops (zEu ops []) acc.length ≤ k) ∨ H' = H ∨ ∀ x ∈ opn1,x.1 = acc.length → zem H' x.2) → zDj P G kc ops St (zEe kc ops (zEu ops []) (acc ++ [H]) acc.length) H T o v H1) → ∃ (vs : List AV) (hs : Nat → List AObj),vs.length = (o :: l).length ∧ hs 0 = H ∧ K ⟨hs (o :: l).length,zDt T (o :: l) vs⟩ ∧
    (∀ q,q ≤ (o :: l).length → ∀ x ∈ opn,zp4 kc ops acc.length (acc.length + q) x.1 → zem (hs q) x.2) ∧
    ∀ i o' v,(o :: l)[i]? = some o' → vs[i]? = some v → zDj P G kc ops (fun H'=>(∃ k,(k,H') ∈ old ∧ loI kc ops (zEu ops []) (acc.length + i) ≤ k) ∨ ∃ q,q ≤ (o :: l).length ∧ H' = hs q ∧ zp4 kc ops acc.length (acc.length + q) (acc.length + i) ∧ loI kc ops (zEu ops []) (acc.length + i) ≤ acc.length + q) (zFQ kc ops acc hs (acc.length + i)) (hs i) (zDt T ((o :: l).take i) (vs.take i)) o' v (hs (i + 1)) := by
   intro v H1 old1 opn1 hd hc1 hsub hold hH hf
   obtain ⟨vs,hs,h1,h2,h3,h5,h4⟩ := ziL (ops := ops) (l := l) (acc := acc ++ [H]) (old := old1) (opn := opn1) (H := H1) (T := (ASt.set ⟨[],T⟩ [] o.dst v).T) hd hll1 hc1
   have hal : (acc ++ [H]).length = acc.length + 1 := by simp
   have shift : ∀ {q j : Nat},zp4 kc ops acc.length (acc.length + (q + 1)) j → zp4 kc ops (acc ++ [H]).length ((acc ++ [H]).length + q) j := fun {q j} hn k o' hk hk1 hk2 hk3=>hn k o' hk hk1 (by omega) (by omega)
   let hs2 : Nat → List AObj := fun i=>match i with|0=>H|i + 1=>hs i
   refine ⟨v :: vs,hs2,by simp [h1],rfl,h3,fun q hq x hx hn=>?_,fun i o' v' ho' hv'=>?_⟩
   ·cases q with
    |zero=>exact hc x hx
    |succ q =>
     rcases hsub x hx with q1|⟨q1,q2⟩
     ·exact h5 q (by simpa using hq) x q1 (shift hn)
     ·have := hn acc.length o ho0 q1 (Nat.le_refl _) (by omega)
      rw [q2] at this;cases this
   rcases i with _|i
   ·simp at ho' hv';subst ho' hv'
    show zDj P G kc ops _ (zFQ kc ops acc hs2 (acc.length + 0)) H T o v (hs 0)
    rw [h2,Nat.add_zero,← ztS (H := H) (rfl : hs2 0 = H)]
    refine hf _ fun H' hs'=>?_
    rcases hs' with q|⟨q,hq,rfl,hn,_⟩
    ·exact .inl (by simpa using q)
    ·cases q with
     |zero=>exact .inr (.inl rfl)
     |succ q=>exact .inr (.inr fun x hx hx1=>h5 q (by simpa using hq) x hx (by rw [hx1];exact shift hn))
   ·simp only [List.getElem?_cons_succ] at ho' hv'
    have := h4 i o' v' ho' hv'
    rw [zom (hs := hs2) rfl (fun _=>rfl),List.length_append,List.length_singleton,Nat.add_assoc,Nat.add_comm 1 i] at this
    refine ztN (fun H' hs'=>?_) this
    rcases hs' with ⟨k,q,qk⟩|⟨q,hq,rfl,hn,hlo⟩
    ·exact .inl ⟨k,hold _ q,qk⟩
    ·cases q with
     |zero =>
      rcases hH with q2|q2
      ·exact .inl ⟨acc.length,q2,by simpa using hlo⟩
      ·exact .inr ⟨0,Nat.zero_le _,by rw [h2,q2],fun k o' hk hk1 hk2 hk3=>by omega,by simp at hlo ⊢;omega⟩
     |succ q=>exact .inr ⟨q,by simpa using hq,rfl,fun k o' hk hk1 hk2 hk3=>hn k o' hk hk1 (by omega) (by omega),by omega⟩
  unfold z8i at h
  unfold zDj at key
  split at h
  ·rename_i hw
   have fin : ∀ v,z8c P G ops (zEe kc ops (zEu ops []) (acc ++ [H]) acc.length) T o v → z8i P G kc ops (acc ++ [H]) old opn l (ASt.set ⟨H,T⟩ H o.dst v) K → _ := fun v hv hd=>key v H old opn hd hc (fun _ q=>.inl q) (fun _ q=>q) (.inr rfl) fun St _=>by rw [if_pos hw];exact ⟨rfl, .inl hv⟩
   have opn' : ∀ (t : TypeId) (x : Operand) (d : AV),zd7 (z9i kc ops (zEu ops []) acc.length) o = some (t,x) → zDe ops T o → z67 (z0z P t) H (ev G T x) (fun x=>x = d) → (∀ p ∈ old,loI kc ops (zEu ops []) acc.length ≤ p.1 → zem p.2 (z0z P t,ev G T x,d)) → z8i P G kc ops (acc ++ [H]) old ((acc.length,z0z P t,ev G T x,d) :: opn) l (ASt.set ⟨H,T⟩ H o.dst d) K → _ := fun t x d hop hgd h3 h4 h5 =>
    key d H old ((acc.length,z0z P t,ev G T x,d) :: opn) h5 (fun y hy=>(List.mem_cons.1 hy).elim (fun e=>by rw [e];exact h3) (fun hy=>hc y hy)) (fun y hy=>.inl (List.mem_cons_of_mem _ hy)) (fun _ q=>q) (.inr rfl) fun St hSt=>by
     rw [if_pos hw]
     refine ⟨rfl, .inr ⟨t,x,zlV hop,hgd,fun H' hs'=>?_⟩⟩
     rcases hSt H' hs' with ⟨k,q,qk⟩|rfl|q
     ·exact h4 _ q qk
     ·exact h3
     ·exact q _ (List.mem_cons_self ..) rfl
   dsimp only at h
   split at h
   ·rename_i hg
    cases hop : zd7 (z9i kc ops (zEu ops []) acc.length) o with
    |some p =>
     rw [hop] at h
     obtain ⟨d,h3,h4,h5⟩ := z5z h
     exact opn' p.1 p.2 d hop (.inl hg) h3 h4 h5
    |none =>
     rw [hop] at h
     obtain ⟨v,h1,h2⟩ := z8m h
     exact fin v (by unfold z8c;rw [hg];exact h1) h2
   ·rename_i j want hg
    split at h
    ·rename_i t ht
     unfold z3t at h
     split at h
     ·rename_i bb hbb
      by_cases e : bb = want
      ·have h' := h.1 e
       cases hop : zd7 (z9i kc ops (zEu ops []) acc.length) o with
       |some p =>
        rw [hop] at h'
        obtain ⟨d,h3,h4,h5⟩ := z5z h'
        exact opn' p.1 p.2 d hop (.inr ⟨j,want,t,hg,ht,by rw [← e];exact hbb⟩) h3 h4 h5
       |none =>
        rw [hop] at h'
        obtain ⟨v,h1,h2⟩ := z8m h'
        exact fin v (by unfold z8c;rw [hg];exact ⟨t,ht, .inl ⟨bb,hbb,fun _=>h1,fun q=>absurd e q⟩⟩) h2
      ·exact fin UD (by unfold z8c;rw [hg];exact ⟨t,ht, .inl ⟨bb,hbb,fun q=>absurd q e,fun _=>rfl⟩⟩) (h.2 (by cases bb <;> cases want <;> first|rfl|exact absurd rfl e))
     ·rename_i q hbb
      exact fin UD (by unfold z8c;rw [hg];exact ⟨t,ht, .inr ⟨⟨q,hbb⟩,rfl⟩⟩) h
     ·exact h.elim
    ·exact h.elim
  ·rename_i hw
   have act : zDe ops T o → (∃ v H',z08 P G o ⟨H,T⟩ (fun d Hk=>d = v ∧ Hk = H') ∧ (zDp kc o.op = 1 → ∃ X,H' = H ++ X) ∧ (∀ x ∈ (z8C (zEu ops []) acc.length opn),zem H' x.2) ∧ z8i P G kc ops (acc ++ [H]) ((acc.length,H) :: old) (z8C (zEu ops []) acc.length opn) l (ASt.set ⟨H,T⟩ H' o.dst v) K) → _ := fun hgd ⟨v,H1,h1,h2,h3,h4⟩=>key v H1 ((acc.length,H) :: old) (z8C (zEu ops []) acc.length opn) h4 h3 (fun x q=>(ziB q).elim (fun e=>.inr ⟨hw,e⟩) .inl) (fun _ q=>List.mem_cons_of_mem _ q) (.inl (List.mem_cons_self ..)) fun St _=>by rw [if_neg hw];exact .inl ⟨hgd,h1,h2⟩
   have off : zB0 ops T o → z8i P G kc ops (acc ++ [H]) old opn l (ASt.set ⟨H,T⟩ H o.dst UD) K → _ := fun hgd hd=>key UD H old opn hd hc (fun _ q=>.inl q) (fun _ q=>q) (.inr rfl) fun St _=>by rw [if_neg hw];exact .inr ⟨hgd,rfl,rfl⟩
   split at h
   ·rename_i hg
    exact act (.inl hg) h
   ·rename_i j want hg
    split at h
    ·rename_i t ht
     unfold z3t at h
     split at h
     ·rename_i bb hbb
      by_cases e : bb = want
      ·exact act (.inr ⟨j,want,t,hg,ht,by rw [← e];exact hbb⟩) (h.1 e)
      ·have e2 : bb = !want := by cases bb <;> cases want <;> first|rfl|exact absurd rfl e
       exact off ⟨j,want,t,hg,ht, .inl (by rw [← e2];exact hbb)⟩ (h.2 e2)
     ·rename_i q hbb
      exact off ⟨j,want,t,hg,ht, .inr ⟨q,hbb⟩⟩ h
     ·exact h.elim
    ·exact h.elim
theorem Rel.void {w : World} {S : SS} {μ : List Value} (hr : Rel w S μ H) (t : TypeId) : Rel w S (μ ++ [.bool false]) (H ++ [⟨0,t,0,[]⟩]) ∧ Step H.length w S μ H w S (μ ++ [.bool false]) (H ++ [⟨0,t,0,[]⟩]) :=
 ⟨hr.add (.inl rfl) (objRep.zero rfl) fun b hb=>by simp [z2I] at hb,(Step.refl _ _ _ _ _).add hr.len fun b hb=>by simp [z2I] at hb⟩
theorem z89 {α : Type} {l : List α} {i k : Nat} {x y : α} (h : (l.set i x)[k]? = some y) : (k = i ∧ y = x) ∨ (k ≠ i ∧ l[k]? = some y) := by
 by_cases e : k = i
 ·subst e
  have hl : k < l.length := by
   have := (List.getElem?_eq_some_iff.1 h).1
   simpa using this
  rw [List.getElem?_set_self hl] at h
  injection h with h
  exact .inl ⟨rfl,h.symm⟩
 ·rw [List.getElem?_set_ne (Ne.symm e)] at h
  exact .inr ⟨e,h⟩
theorem zqM {S : SS} {μ : List Value} {i : Nat} (hμ : μ[i]? = some (.bool false)) (x : Value) : Ext S μ S (μ.set i x) :=
 ⟨fun _ _ _ h=>h,fun k y hy=>by
  by_cases e : k = i
  ·subst e
   rw [hμ] at hy;injection hy with hy;subst hy
   exact ⟨x,List.getElem?_set_self (List.getElem?_eq_some_iff.1 hμ).1, .inr (.inr rfl)⟩
  ·exact ⟨y,by rw [List.getElem?_set_ne (Ne.symm e)];exact hy, .inl rfl⟩⟩
theorem Rel.fill {w : World} {S : SS} {μ : List Value} {i : Nat} {o0 o : AObj} {x : Value} (hr : Rel w S μ H) (hμ : μ[i]? = some (.bool false)) (hH : H[i]? = some o0) (h0 : o0.k = 0) (hk : o.k = 0 ∨ o.k = 1 ∨ o.k = 2 ∨ o.k = 4 ∨ o.k = 5) (ho : objRep w S (μ.set i x) x o) (hb : ∀ b,z2I x = some b → ¬ zDf μ H b ∧ ∀ j d,S b j d → o.k = 2 ∧ j < o.c.length * o.z) : Rel w S (μ.set i x) (H.set i o) := by
 have he := zqM (S := S) hμ x
 have hgo : ∀ (k : Nat) (x' : Value) (o' : AObj),(μ.set i x)[k]? = some x' → (H.set i o)[k]? = some o' → (μ[k]? = some x' ∧ H[k]? = some o' ∧ k ≠ i) ∨ (k = i ∧ x' = x ∧ o' = o) := by
  intro k x' o' hx' ho'
  rcases z89 hx' with ⟨q,rfl⟩|⟨q,hx'⟩
  ·rcases z89 ho' with ⟨_,rfl⟩|⟨q',_⟩
   ·exact .inr ⟨q,rfl,rfl⟩
   ·exact absurd q q'
  ·rcases z89 ho' with ⟨q',_⟩|⟨_,ho'⟩
   ·exact absurd q' q
   ·exact .inl ⟨hx',ho',q⟩
 refine ⟨by simp [hr.len],hr.still,fun k x' o' hx' ho'=>?_,fun k x' o' hx' ho'=>?_,fun k k' x1 x2 o1 o2 b hx1 ho1 hk1 hb1 hx2 ho2 hk2 hb2=>?_,fun k x' o' b hx' ho' hk' hb' j d hs=>?_⟩
 ·rcases hgo k x' o' hx' ho' with ⟨q1,q2,_⟩|⟨_,rfl,rfl⟩
  ·exact hr.kinds k x' o' q1 q2
  ·exact hk
 ·rcases hgo k x' o' hx' ho' with ⟨q1,q2,_⟩|⟨_,rfl,rfl⟩
  ·exact (hr.objs k x' o' q1 q2).move he fun b _=>rfl
  ·exact ho
 ·rcases hgo k x1 o1 hx1 ho1 with ⟨q1,q2,_⟩|⟨e1,rfl,rfl⟩
  ·rcases hgo k' x2 o2 hx2 ho2 with ⟨q3,q4,_⟩|⟨e2,rfl,rfl⟩
   ·exact hr.sep k k' x1 x2 o1 o2 b q1 q2 hk1 hb1 q3 q4 hk2 hb2
   ·exact absurd ⟨k,x1,o1,q1,q2,hk1,hb1⟩ (hb b hb2).1
  ·rcases hgo k' x2 o2 hx2 ho2 with ⟨q3,q4,_⟩|⟨e2,rfl,rfl⟩
   ·exact absurd ⟨k',x2,o2,q3,q4,hk2,hb2⟩ (hb b hb1).1
   ·omega
 ·rcases hgo k x' o' hx' ho' with ⟨q1,q2,_⟩|⟨_,rfl,rfl⟩
  ·exact hr.apart k x' o' b q1 q2 hk' hb' j d hs
  ·exact (hb b hb').2 j d hs
theorem Step.fill {w0 w : World} {S0 S : SS} {μ0 μ : List Value} {H0 : List AObj} {i : Nat} {o : AObj} {x : Value} (hs : Step n w0 S0 μ0 H0 w S μ H) (hμ : μ[i]? = some (.bool false)) (hb : ∀ b,z2I x = some b → w0.heap.size ≤ b) : Step n w0 S0 μ0 H0 w S (μ.set i x) (H.set i o) :=
 ⟨hs.os,hs.tape,hs.output,hs.size,hs.block,hs.still,fun k y hk hy=>by
  obtain ⟨x',hx',h1⟩ := hs.objs k y hk hy
  by_cases e : k = i
  ·subst e
   rw [hμ] at hx';injection hx' with hx';subst hx'
   refine ⟨x,List.getElem?_set_self (List.getElem?_eq_some_iff.1 hμ).1, .inr (.inr ?_)⟩
   rcases h1 with e|⟨A,m,c,A',m',c',_,e,_⟩|e
   ·exact e.symm
   ·cases e
   ·exact e
  ·exact ⟨x',by rw [List.getElem?_set_ne (Ne.symm e)];exact hx',h1⟩,hs.old,fun b hob hlt=>by
  obtain ⟨k,x',o',hx',ho',hk',hb'⟩ := hob
  rcases z89 hx' with ⟨_,rfl⟩|⟨q,hx'⟩
  ·have := hb b hb';omega
  ·rcases z89 ho' with ⟨q',_⟩|⟨_,ho'⟩
   ·exact absurd q' q
   ·exact hs.mine b ⟨k,x',o',hx',ho',hk',hb'⟩ hlt⟩
theorem zf2 {a : Act} {o : Oper} {w : World} {t : TypeId} {c : List AV} (ho : o.op = .alloc t) (hz : z7r P t = some c) : ∃ cs : List Value,(execOp a.eval o).run P w = .ok (.value (.pointer (some ⟨w.heap.size,0,none⟩))) (w.alloc (.cells cs.toArray t)) ∧ ∀ S μ,reps S μ c cs := by
 obtain ⟨i,z,hi,hzz,_,hr⟩ := zfO hz
 refine ⟨z.cells.toList,?_,hr⟩
 unfold execOp
 rw [ho]
 simp [Instr.alloc,zeroValue,typeInfo,hi,hzz,newVar,newRow,newObj,Sem.run]
theorem znW {a : Act} {o : Oper} {w : World} {S : SS} {μ : List Value} {t : TypeId} {c : List AV} {Q : Exit → Act → World → Prop} (hrel : Rel w S μ H) (ho : o.op = .alloc t) (hz : z7r P t = some c) :
  o.wp P a w (fun a' w'=>∃ u μ',a' = a.put o.dst u ∧ rep S μ' (OP H.length 0) u ∧ Rel w' S μ' (H ++ [⟨1,t,0,c⟩]) ∧ Step H.length w S μ H w' S μ' (H ++ [⟨1,t,0,c⟩]) ∧ ∃ z,μ' = μ ++ [z]) Q := by
 obtain ⟨cs,hrun,hc⟩ := zf2 (P := P) (a := a) (w := w) ho hz
 obtain ⟨h1,h2⟩ := hrel.new t (hc S μ)
 unfold Oper.wp
 rw [hrun]
 exact ⟨_,_,rfl,⟨w.heap.size, .pointer (some ⟨w.heap.size,0,none⟩),by rw [← hrel.len];simp,rfl,rfl⟩,h1,h2,_,rfl⟩
theorem zn8 {a : Act} {o : Oper} {w : World} {S : SS} {μ : List Value} {t : TypeId} {c : List AV} {i : Nat} {o0 : AObj} {K : AV → List AObj → Prop} {Q : Exit → Act → World → Prop} (hrel : Rel w S μ H) (ho : o.op = .alloc t) (hz : z7r P t = some c) (hμ : μ[i]? = some (.bool false)) (hH : H[i]? = some o0) (h0 : o0.k = 0)
  (hK : K (OP i 0) (H.set i ⟨1,t,0,c⟩)) : o.wp P a w (z1u w S μ H a o K) Q := by
 obtain ⟨cs,hrun,hc⟩ := zf2 (P := P) (a := a) (w := w) ho hz
 have hil : i < μ.length := (List.getElem?_eq_some_iff.1 hμ).1
 obtain ⟨h1,h2⟩ := hrel.grow (w' := w.alloc (.cells cs.toArray t)) ((Below.refl _ _).alloc (Nat.le_refl _) _) (fun _ _ _ h=>h) (fun _ _ _ h=>.inl h) (fun b j d h hb=>by have := hrel.still_lt h;omega)
 have h3 : Rel (w.alloc (.cells cs.toArray t)) S (μ.set i (.pointer (some ⟨w.heap.size,0,none⟩))) (H.set i ⟨1,t,0,c⟩) := by
  refine h1.fill hμ hH h0 (.inr (.inl rfl)) ⟨fun _=>⟨w.heap.size,cs.toArray,rfl,heap_alloc_new w _,by simpa using hc S _⟩,⟨fun h=>(by simp at h),fun h=>(by simp at h),fun h=>(by simp at h)⟩⟩ fun b hb=>?_
  simp [z2I] at hb;subst hb
  refine ⟨?_,fun j d h=>by have := hrel.still_lt h;omega⟩
  rintro ⟨k,x,o,hx,ho,hk,hbk⟩
  have := hrel.own_lt hx ho hk hbk;omega
 have h4 : Step H.length w S μ H (w.alloc (.cells cs.toArray t)) S (μ.set i (.pointer (some ⟨w.heap.size,0,none⟩))) (H.set i ⟨1,t,0,c⟩) := by
  refine h2.fill hμ fun b hb=>?_
  simp [z2I] at hb;omega
 unfold Oper.wp
 rw [hrun]
 exact ⟨_,_,_,S,_,hK,rfl,⟨w.heap.size, .pointer (some ⟨w.heap.size,0,none⟩),List.getElem?_set_self hil,rfl,rfl⟩,h3,h4,fun q=>by rw [ho] at q;cases q⟩
def zE9 (ops : List Oper) (f : Nat → Oper → Bool) : Bool := (List.range ops.length).all fun k=>match ops[k]? with|some o=>f k o|none=>true
theorem z4w {ops : List Oper} {f : Nat → Oper → Bool} (h : zE9 ops f = true) {k : Nat} {o : Oper} (ho : ops[k]? = some o) : f k o = true := by
 have := List.all_eq_true.1 h k (List.mem_range.2 (List.getElem?_eq_some_iff.1 ho).1)
 rwa [ho] at this
def zFD (ops : List Oper) (p : Nat) : Bool := match ops[p]? with|some o=>(match o.op,o.guard with|.alloc _,none=>true|_,_=>false)|none=>false
def zEQ (ops : List Oper) (p : Nat) : Bool := zFD ops p && zFD ops (p + 1) && zE9 ops fun j _=>!anc ops j (p + 1) || anc ops j p
theorem zdX {ops : List Oper} {p : Nat} {o : Oper} (ho : ops[p]? = some o) (h : zFD ops p = true) : ∃ t,o.op = .alloc t ∧ o.guard = none := by
 unfold zFD at h
 rw [ho] at h
 dsimp only at h
 split at h
 ·rename_i t e1 e2;exact ⟨t,e1,e2⟩
 ·cases h
def tailY (kc : KC) (ops : List Oper) (N : Nat) : Bool :=
  zE9  ops fun k o =>
    (match o.dst with
      | some d => decide (d < N) && zE9  ops (fun q oq => q == k || oq.dst != some d)
      | none => zDp  kc o.op != 0) &&
    (decide (zDp  kc o.op ≤ 1) || zE9  ops fun i oi => i == k || zDp  kc oi.op == 0 || (if i < k then anc ops k i else anc ops i k)) &&
    (decide (zDp  kc o.op ≠ 1) || zE9  ops fun i oi => i == k || decide (zDp  kc oi.op ≠ 1) || (if i < k then anc ops k i || (k == i + 1 && zEQ  ops i) else anc ops i k || (i == k + 1 && zEQ  ops k)))
structure TailY (kc : KC) (ops : List Oper) (N : Nat) : Prop where
 dst : ∀ (k d : Nat) (o : Oper),ops[k]? = some o → o.dst = some d → d < N ∧ ∀ (q : Nat) (oq : Oper),ops[q]? = some oq → oq.dst = some d → q = k
 low : ∀ (k : Nat) (o : Oper),ops[k]? = some o → 1 < zDp kc o.op → ∀ (i : Nat) (oi : Oper),ops[i]? = some oi → zDp kc oi.op ≠ 0 → i < k → anc ops k i = true
 high : ∀ (k : Nat) (o : Oper),ops[k]? = some o → 1 < zDp kc o.op → ∀ (i : Nat) (oi : Oper),ops[i]? = some oi → zDp kc oi.op ≠ 0 → k < i → anc ops i k = true
 loud : ∀ (k i : Nat) (o oi : Oper),ops[k]? = some o → zDp kc o.op ≠ 0 → ops[i]? = some oi → zDp kc oi.op ≠ 0 → k < i → anc ops i k = true ∨ (i = k + 1 ∧ zEQ ops k = true)
theorem zkz {ops : List Oper} (h : tailY kc ops N = true) : TailY kc ops N := by
 have g : ∀ (k : Nat) (o : Oper),ops[k]? = some o → _ := fun k o ho=>z4w h ho
 simp only [Bool.and_eq_true] at g
 have gW : ∀ (k : Nat) (o : Oper),ops[k]? = some o → 1 < zDp kc o.op → ∀ (i : Nat) (oi : Oper),ops[i]? = some oi → zDp kc oi.op ≠ 0 → i ≠ k → (if i < k then anc ops k i else anc ops i k) = true := by
  intro k o ho hw i oi hoi hr hne
  have h1 := (g k o ho).1.2
  rw [decide_eq_false (show ¬ zDp kc o.op ≤ 1 by omega),Bool.false_or] at h1
  have h2 := z4w h1 hoi
  rw [Bool.or_eq_true,Bool.or_eq_true,beq_iff_eq,beq_iff_eq] at h2
  rcases h2 with (h2|h2)|h2
  ·exact absurd h2 hne
  ·exact absurd h2 hr
  ·exact h2
 have gA : ∀ (k : Nat) (o : Oper),ops[k]? = some o → zDp kc o.op = 1 → ∀ (i : Nat) (oi : Oper),ops[i]? = some oi → zDp kc oi.op = 1 → i ≠ k → (if i < k then anc ops k i || (k == i + 1 && zEQ ops i) else anc ops i k || (i == k + 1 && zEQ ops k)) = true := by
  intro k o ho hw i oi hoi hr hne
  have h1 := (g k o ho).2
  rw [decide_eq_false (show ¬ zDp kc o.op ≠ 1 by omega),Bool.false_or] at h1
  have h2 := z4w h1 hoi
  rw [decide_eq_false (show ¬ zDp kc oi.op ≠ 1 by omega),Bool.or_false,Bool.or_eq_true,beq_iff_eq] at h2
  exact h2.resolve_left hne
 refine ⟨fun k d o ho hd=>?_,fun k o ho hw i oi hoi hr hik=>?_,fun k o ho hw i oi hoi hr hik=>?_,fun k i o oi ho hk hoi hi hki=>?_⟩
 ·have h1 := (g k o ho).1.1
  rw [hd] at h1
  simp only [Bool.and_eq_true,decide_eq_true_eq] at h1
  refine ⟨h1.1,fun q oq hoq hqd=>?_⟩
  have h5 := z4w h1.2 hoq
  simpa [hqd] using h5
 ·have := gW k o ho hw i oi hoi hr (by omega)
  rwa [if_pos hik] at this
 ·have := gW k o ho hw i oi hoi hr (by omega)
  rwa [if_neg (by omega)] at this
 ·by_cases h1 : zDp kc o.op = 1
  ·by_cases h2 : zDp kc oi.op = 1
   ·have := gA k o ho h1 i oi hoi h2 (by omega)
    rw [if_neg (by omega),Bool.or_eq_true,Bool.and_eq_true,beq_iff_eq] at this
    exact this
   ·have := gW i oi hoi (by omega) k o ho hk (by omega)
    rw [if_pos hki] at this
    exact .inl this
  ·have := gW k o ho (by omega) i oi hoi hi (by omega)
   rw [if_neg (by omega)] at this
   exact .inl this
def zqH (ops : List Oper) : Bool :=
 zE9 ops fun j o=>(zji o ++ (match o.guard with|some (k,_)=>(z1N ops k).toList|none=>[])).all fun t =>
  (zE9 ops fun k ok=>ok.dst != some t || anc ops k j) || !(zE9 ops fun k ok=>!(decide (k < j) && ok.dst == some t && anc ops j k))
def HY (kc : KC) (ops : List Oper) (B : List AObj) (hs : Nat → List AObj) (listed : Array Bool) (Hc : List AObj) (μ : List Value) : Prop :=
  (∃ (k : Nat) (o : Oper), ops[k]? = some o ∧ zDp  kc o.op ≠ 0 ∧ listed.getD k false = true ∧ (∀ (k' : Nat) (o' : Oper), ops[k']? = some o' → zDp  kc o'.op ≠ 0 → listed.getD k' false = true → k' ≤ k) ∧ (∀ (k' : Nat) (o' : Oper), ops[k']? = some o' → zDp  kc o'.op ≠ 0 → k' ≤ k → listed.getD k' false = true) ∧ Hc = hs (k + 1)) ∨
  ((∀ (k : Nat) (o : Oper), ops[k]? = some o → zDp  kc o.op ≠ 0 → listed.getD k false = false) ∧ Hc = B) ∨
  (∃ (q : Nat) (o o1 : Oper) (t : TypeId) (x y : AObj), ops[q]? = some o ∧ zDp  kc o.op ≠ 0 ∧ ops[q + 1]? = some o1 ∧ zDp  kc o1.op ≠ 0 ∧ zEQ  ops q = true ∧ listed.getD q false = false ∧ listed.getD (q + 1) false = true ∧ (∀ (k' : Nat) (o' : Oper), ops[k']? = some o' → zDp  kc o'.op ≠ 0 → listed.getD k' false = true → k' ≤ q + 1) ∧
    (∀ (k' : Nat) (o' : Oper), ops[k']? = some o' → zDp  kc o'.op ≠ 0 → k' < q → listed.getD k' false = true) ∧ Hc = hs q ++ [⟨0, t, 0, []⟩] ++ [y] ∧ hs (q + 1) = hs q ++ [x] ∧ hs (q + 2) = hs q ++ [x] ++ [y] ∧ μ[(hs q).length]? = some (.bool false))
structure JY (kc : KC) (n : Nat) (N : FS) (ops : List Oper) (B : List AObj) (hs : Nat → List AObj) (T0 E : Tm) (w0 : World) (S0 : SS) (μ0 : List Value) (listed : Array Bool) (a : Act) (w : World) (S : SS) (μ : List Value) (Hc : List AObj) : Prop where
 hd : HY kc ops B hs listed Hc μ
 rel : Rel w S μ Hc
 step : Step n w0 S0 μ0 B w S μ Hc
 len : n ≤ Hc.length
 size : a.tmps.size = N
 nodef : a.defers = N.d
 slot : ∀ t,zoN ops listed t → rep S μ (get E t) (a.tmps.getD t undef)
 start : ∀ t,(∀ (k : Nat) (o : Oper),ops[k]? = some o → o.dst = some t → listed.getD k false = false) → rep S μ (get T0 t) (a.tmps.getD t undef)
theorem Step.longer {w w' : World} {S S' : SS} {μ μ' : List Value} (h : Step H.length w S μ H w' S' μ' H') (hr : Rel w S μ H) (hr' : Rel w' S' μ' H') : H.length ≤ H'.length := by
 cases hl : H.length with
 |zero=>exact Nat.zero_le _
 |succ m =>
  have hm : m < μ.length := by rw [hr.len];omega
  obtain ⟨x',hx',_⟩ := h.objs m _ (by rw [hl];exact Nat.lt_succ_self m) (List.getElem?_eq_getElem hm)
  have := (List.getElem?_eq_some_iff.1 hx').1
  rw [hr'.len] at this
  exact this
theorem zj0 {T T' : Tm} {o : Oper} (hw : zDp kc o.op ≠ 0) (h : zfs T T' o) {K : AV → List AObj → Prop} (hs : z08 P G o ⟨H,T⟩ K) : z08 P G o ⟨H,T'⟩ K := by
 obtain ⟨dst,op,ty,pos,af,gd⟩ := o
 have e : ∀ x,x ∈ op.operands.toList → ev G T x = ev G T' x := fun x hx=>zdb h hx
 cases op with
 |alloc t=>exact hs
 |box t x=>simpa [z08,e x (by simp [Op.operands])] using hs
 |store t x y=>simpa [z08,e x (by simp [Op.operands]),e y (by simp [Op.operands])] using hs
 |makeFunc fn first caps =>
  have : (first.toList ++ caps.toList).map (ev G T) = (first.toList ++ caps.toList).map (ev G T') := List.map_congr_left fun x hx=>e x (by
   simpa [Op.operands] using hx)
  simp only [z08] at hs ⊢
  rw [← this];exact hs
 |call c =>
  obtain ⟨callee,args,ts⟩ := c
  cases callee with
  |value x =>
   cases x with
   |func f =>
    have h2 : args.toList.map (ev G T) = args.toList.map (ev G T') := List.map_congr_left fun x hx=>e x (by simp [Op.operands,Call.operands];exact .inr (by simpa using hx))
    simp only [z08] at hs ⊢
    rw [← h2];exact hs
   |tmp t =>
    have h1 : get T t = get T' t := e (.tmp t) (by simp [Op.operands,Call.operands])
    have h2 : args.toList.map (ev G T) = args.toList.map (ev G T') := List.map_congr_left fun x hx=>e x (by simp [Op.operands,Call.operands];exact .inr (by simpa using hx))
    simp only [z08] at hs ⊢
    rw [← h1,← h2];exact hs
   |const v=>simp [z08] at hs
   |global g=>simp [z08] at hs
  |invoke r m=>simp [z08] at hs
  |builtin b =>
   by_cases hb : b = .append
   ·subst hb
    obtain ⟨al⟩ := args
    obtain ⟨tl⟩ := ts
    rcases al with _|⟨x,_|⟨y,_|⟨z,r⟩⟩⟩
    ·simp [z08] at hs
    ·simp [z08] at hs
    ·rcases tl with _|⟨t,_|⟨t',_|⟨t'',r'⟩⟩⟩
     ·simp [z08] at hs
     ·simp [z08] at hs
     ·simpa [z08,e x (by simp [Op.operands,Call.operands]),e y (by simp [Op.operands,Call.operands])] using hs
     ·simp [z08] at hs
    ·simp [z08] at hs
   ·by_cases hmm : b = .max ∨ b = .min
    ·rcases hmm with rfl|rfl
     all_goals
      obtain ⟨al⟩ := args
      rcases al with _|⟨x,_|⟨y,_|⟨z,r⟩⟩⟩
      ·simp [z08] at hs
      ·simp [z08] at hs
      ·simpa [z08,e x (by simp [Op.operands,Call.operands]),e y (by simp [Op.operands,Call.operands])] using hs
      ·simp [z08] at hs
    rw [not_or] at hmm
    exfalso
    by_cases hl : b = .len
    ·subst hl;simp [zDp,loud] at hw
    ·cases b <;> first|exact hb rfl|exact hl rfl|exact hmm.1 rfl|exact hmm.2 rfl|(simp [z08] at hs;done)
 |mapUpdate t x y z=>simpa [z08,e x (by simp [Op.operands]),e y (by simp [Op.operands]),e z (by simp [Op.operands])] using hs
 |makeMap t r =>
  cases r with
  |none=>simpa [z08] using hs
  |some y=>simp [z08] at hs
 |_=>simp [zDp,loud] at hw
theorem zo0 {Q : Exit → ASt → Prop} {id : Nat} {ops : List Oper} {s : ASt} (hmx : P.follows .mixedOrders = true) (hsh : z1O ops.toArray = true) (hok : tailY kc ops N = true) (hlk : zqH ops = true) (hn : n ≤ s.H.length)
  (h : z8i P G kc ops [] [] [] ops s fun s=>Q .normal s) : AWp P G N n (.region id ops.toArray true) Q s := by
 obtain ⟨B,T⟩ := s
 intro w0 S0 μ0 a0 hrel hfr hG
 have ok := zkz hok
 obtain ⟨vs,hs,hvl,hs0,hend,_,hfacts⟩ := ziL h (fun i=>by simp) (fun x hx=>by cases hx)
 have hget : ∀ (k : Nat) (o : Oper),(ops.toArray)[k]? = some o → ops[k]? = some o := fun k o h=>by simpa using h
 have hvs : ∀ (k : Nat) (o : Oper),ops[k]? = some o → vs[k]? = some (vs.getD k .nil) := fun k o ho=>by
  have : k < vs.length := by rw [hvl];exact (List.getElem?_eq_some_iff.1 ho).1
  simp [List.getD,this]
 have hback : ∀ {k i : Nat},anc ops k i = true → i < k := fun h=>zAi hsh h
 have hfacts : ∀ i o v,ops[i]? = some o → vs[i]? = some v → zDj P G kc ops (fun H'=>∃ q,q ≤ ops.length ∧ H' = hs q ∧ zp4 kc ops 0 q i ∧ loI kc ops (zEu ops []) i ≤ q) (zFQ kc ops [] hs i) (hs i) (zDt T (ops.take i) (vs.take i)) o v (hs (i + 1)) := fun i o v ho hv=>by
  have := hfacts i o v ho hv
  simpa using this
 have hadd : ∀ (q i : Nat),i + q ≤ ops.length → (∀ (k : Nat) (o : Oper),i ≤ k → k < i + q → ops[k]? = some o → zDp kc o.op ≤ 1) → ∃ X,hs (i + q) = hs i ++ X := by
  intro q
  induction q with
  |zero=>intro i _ _;exact ⟨[],by simp⟩
  |succ q ih =>
   intro i hle hno
   have hk : i + q < ops.length := by omega
   have ho : ops[i + q]? = some ops[i + q] := List.getElem?_eq_getElem hk
   have hf := hfacts (i + q) ops[i + q] _ ho (hvs _ _ ho)
   have hq := hno (i + q) ops[i + q] (by omega) (by omega) ho
   obtain ⟨X,hX⟩ := ih i (by omega) fun k o h1 h2=>hno k o h1 (by omega)
   unfold zDj at hf
   rw [show i + (q + 1) = i + q + 1 by omega]
   split at hf
   ·exact ⟨X,by rw [hf.1,hX]⟩
   ·rcases hf with ⟨_,_,hf⟩|⟨_,_,hf⟩
    ·obtain ⟨Y,hY⟩ := hf (by omega)
     exact ⟨X ++ Y,by rw [hY,hX,List.append_assoc]⟩
    ·exact ⟨X,by rw [hf,hX]⟩
 have hadd' : ∀ (i j : Nat),i ≤ j → j ≤ ops.length → (∀ (k : Nat) (o : Oper),i ≤ k → k < j → ops[k]? = some o → zDp kc o.op ≤ 1) → ∃ X,hs j = hs i ++ X := by
  intro i j hij hj hno
  have := hadd (j - i) i (by omega) fun k o h1 h2=>hno k o h1 (by omega)
  rwa [show i + (j - i) = j by omega] at this
 have hsc : ∀ (q i : Nat),i + q ≤ ops.length → (∀ (k : Nat) (o : Oper),i ≤ k → k < i + q → ops[k]? = some o → zDp kc o.op = 0) → hs (i + q) = hs i := by
  intro q
  induction q with
  |zero=>intro i _ _;rfl
  |succ q ih =>
   intro i hle hno
   have hk : i + q < ops.length := by omega
   have ho : ops[i + q]? = some ops[i + q] := List.getElem?_eq_getElem hk
   have hf := hfacts (i + q) ops[i + q] _ ho (hvs _ _ ho)
   have hq := hno (i + q) ops[i + q] (by omega) (by omega) ho
   have := ih i (by omega) fun k o h1 h2=>hno k o h1 (by omega)
   unfold zDj at hf
   rw [if_pos hq] at hf
   rw [← this,show i + (q + 1) = i + q + 1 by omega];exact hf.1
 have hsc' : ∀ (i j : Nat),i ≤ j → j ≤ ops.length → (∀ (k : Nat) (o : Oper),i ≤ k → k < j → ops[k]? = some o → zDp kc o.op = 0) → hs j = hs i := by
  intro i j hij hj hno
  have := hsc (j - i) i (by omega) fun k o h1 h2=>hno k o h1 (by omega)
  rwa [show i + (j - i) = j by omega] at this
 have nb : ∀ {b : Bool},(b = true → False) → b = false := fun {b} h=>by cases b with|false=>rfl|true=>exact (h rfl).elim
 have z0 : ∀ {m : Nat},(m ≠ 0 → False) → m = 0 := fun {m} h=>by cases m with|zero=>rfl|succ m=>exact (h (by omega)).elim
 have hE : ∀ (j t : Nat),(∀ o ∈ ops,o.dst ≠ some t) ∨ (∃ (k : Nat) (o : Oper),k < j ∧ ops[k]? = some o ∧ o.dst = some t) → get (zDt T (ops.take j) (vs.take j)) t = get (zDt T ops vs) t := by
  intro j t ht
  rcases ht with hu|⟨k,o,hkj,ho,hd⟩
  ·rw [z1s _ _ _ _ fun o' ho2=>hu o' (List.mem_of_mem_take ho2),z1s _ _ _ _ hu]
  ·have huniq := (ok.dst k t o ho hd).2
   rw [z2N (ops.take j) (vs.take j) T t k o (vs.getD k .nil) (by rw [List.getElem?_take,if_pos hkj];exact ho) (by rw [List.getElem?_take,if_pos hkj];exact hvs k o ho) hd fun q oq hoq e=>?_,
    z2N ops vs T t k o (vs.getD k .nil) ho (hvs k o ho) hd fun q oq hoq e=>huniq q oq hoq e]
   rw [List.getElem?_take] at hoq
   split at hoq
   ·exact huniq q oq hoq e
   ·cases hoq
 refine wp_region_inv (fun listed a w=>∃ S μ Hc,JY kc n N ops B hs T (zDt T ops vs) w0 S0 μ0 listed a w S μ Hc) hmx hsh ?_ ?_ ?_
 ·
  rintro listed a w j o ho hlsz hjf hedges hcl ⟨S,μ,Hc,hJ⟩
  have ho' := hget j o ho
  have hjl : j < ops.length := (List.getElem?_eq_some_iff.1 ho').1
  have hjs : j < listed.size := by rw [hlsz];simpa using hjl
  have hset : ∀ k,k ≠ j → (listed.setIfInBounds j true).getD k false = listed.getD k false := fun k hk=>getD_set_ne false (fun e=>hk e.symm)
  have hself := z4r hjs
  have hafter : ∀ i,anc ops j i = true → listed.getD i false = true := fun i hi=>zfF hsh hcl hi fun ok' hk e he hb=>by
   rw [ho'] at hk;injection hk with hk;subst hk
   exact hedges e he hb
  have hafter2 : ∀ (k i : Nat),listed.getD k false = true → anc ops k i = true → listed.getD i false = true := fun k i hl hi=>zfF hsh hcl hi fun ok' hk e he hb=>hcl k ok' (by simpa using hk) hl e he hb
  have nl : ∀ (k : Nat),anc ops k j = true → listed.getD k false = false := fun k hk=>nb fun hl=>by
   have := hafter2 k j hl hk
   rw [hjf] at this;cases this
  have hne : ∀ k,listed.getD k false = true → k ≠ j := fun k hl e=>by subst e;rw [hl] at hjf;cases hjf
  have upd : ∀ {S' : SS} {μ' : List Value} {Hc' : List AObj} {u : Value} {w' : World},HY kc ops B hs (listed.setIfInBounds j true) Hc' μ' → Rel w' S' μ' Hc' → Step Hc.length w S μ Hc w' S' μ' Hc' → (∀ d,o.dst = some d → rep S' μ' (vs.getD j .nil) u) →
    JY kc n N ops B hs T (zDt T ops vs) w0 S0 μ0 (listed.setIfInBounds j true) (a.put o.dst u) w' S' μ' Hc' := by
   intro S' μ' Hc' u w' hHD hr' hst' hrep
   have hle : Hc.length ≤ Hc'.length := hst'.longer hJ.rel hr'
   have hext := hst'.toExt hJ.rel
   refine ⟨hHD,hr',hJ.step.trans (hst'.less hJ.len),Nat.le_trans hJ.len hle,?_,?_,fun t ht=>?_,fun t ht=>?_⟩
   ·cases hd : o.dst <;> simp [Act.put,hJ.size]
   ·cases hd : o.dst <;> simp [Act.put,hJ.nodef]
   ·by_cases hdt : o.dst = some t
    ·have hu := ok.dst j t o ho' hdt
     rw [z2N ops vs T t j o (vs.getD j .nil) ho' (hvs j o ho') hdt fun q oq hoq e=>hu.2 q oq hoq e,hdt]
     rw [za4 a t u (by rw [hJ.size];exact hu.1)]
     exact hrep t hdt
    ·have e1 : (a.put o.dst u).tmps.getD t undef = a.tmps.getD t undef := by
      cases hd : o.dst with
      |none=>rfl
      |some d=>exact z3U a d t u (fun e=>hdt (by rw [hd,e]))
     rw [e1]
     refine (hJ.slot t ?_).ext hext
     rcases ht with hu|⟨k,ok',hk,hkd,hl⟩
     ·exact .inl hu
     ·have hkj : k ≠ j := by rintro rfl;rw [ho'] at hk;injection hk with hk;subst hk;exact hdt hkd
      rw [hset k hkj] at hl
      exact .inr ⟨k,ok',hk,hkd,hl⟩
   ·have hdt : o.dst ≠ some t := by
     intro e
     have := ht j o ho' e
     rw [hself] at this;cases this
    have e1 : (a.put o.dst u).tmps.getD t undef = a.tmps.getD t undef := by
     cases hd : o.dst with
     |none=>rfl
     |some d=>exact z3U a d t u (fun e=>hdt (by rw [hd,e]))
    rw [e1]
    refine (hJ.start t fun k ok' hk hkd=>?_).ext hext
    have hkj : k ≠ j := by rintro rfl;rw [ho'] at hk;injection hk with hk;subst hk;exact hdt hkd
    have := ht k ok' hk hkd
    rwa [hset k hkj] at this
  let L := zji o ++ (match o.guard with|some (k,_)=>(z1N ops k).toList|none=>[])
  have hlook : ∀ t ∈ L,rep S μ (get (zDt T (ops.take j) (vs.take j)) t) (a.tmps.getD t undef) := by
   intro t ht
   have h1 := z4w hlk ho'
   have h2 := List.all_eq_true.1 h1 t ht
   rw [Bool.or_eq_true] at h2
   rcases h2 with hu|hp
   ·have hun : ∀ (k : Nat) (ok' : Oper),ops[k]? = some ok' → ok'.dst = some t → anc ops k j = true := by
     intro k ok' hk hd
     have := z4w hu hk
     simpa [hd] using this
    have e : get (zDt T (ops.take j) (vs.take j)) t = get T t := by
     refine z1s _ _ _ _ fun o' ho2 e=>?_
     obtain ⟨k,hk⟩ := List.getElem?_of_mem ho2
     rw [List.getElem?_take] at hk
     split at hk
     ·have := hback (hun k o' hk e)
      omega
     ·cases hk
    rw [e]
    exact hJ.start t fun k ok' hk hd=>nl k (hun k ok' hk hd)
   ·rw [Bool.not_eq_true'] at hp
    unfold zE9 at hp
    rw [List.all_eq_false] at hp
    obtain ⟨k,_,hk⟩ := hp
    cases hok : ops[k]? with
    |none=>rw [hok] at hk;exact absurd rfl hk
    |some ok' =>
     rw [hok] at hk
     simp only [Bool.not_eq_true',Bool.not_eq_false,Bool.and_eq_true,decide_eq_true_eq,beq_iff_eq] at hk
     obtain ⟨⟨hkj,hd⟩,han⟩ := hk
     rw [hE j t (.inr ⟨k,ok',hkj,hok,hd⟩)]
     exact hJ.slot t (.inr ⟨k,ok',hok,hd,hafter k han⟩)
  let Tj : Tm := L.map fun t=>(t,get (zDt T (ops.take j) (vs.take j)) t)
  have hTj : ∀ (L : List Nat) (E : Tm) (i : Nat),(i ∈ L → get (L.map fun t=>(t,get E t)) i = get E i) ∧ (i ∉ L → get (L.map fun t=>(t,get E t)) i = .nil) := by
   intro L E i
   induction L with
   |nil=>exact ⟨fun h=>(by cases h),fun _=>rfl⟩
   |cons t L ih =>
    simp only [List.map_cons,get]
    refine ⟨fun h=>?_,fun h=>?_⟩
    ·split
     ·rename_i e;rw [e]
     ·rename_i e;exact ih.1 ((List.mem_cons.1 h).resolve_left fun q=>e q.symm)
    ·rw [if_neg fun e=>h (List.mem_cons.2 (.inl e.symm))]
     exact ih.2 fun q=>h (List.mem_cons_of_mem _ q)
  have hfrj : Fr S μ N Tj a := by
   refine ⟨hJ.size,hJ.nodef,fun i=>?_⟩
   by_cases hi : i ∈ L
   ·show rep S μ (get (L.map fun t=>(t,get _ t)) i) _
    rw [(hTj L _ i).1 hi]
    exact hlook i hi
   ·show rep S μ (get (L.map fun t=>(t,get _ t)) i) _
    rw [(hTj L _ i).2 hi];trivial
  have hGj := hG.ext hJ.step.still
  have hagree : zfs (zDt T (ops.take j) (vs.take j)) Tj o := fun t ht=>((hTj L _ t).1 (List.mem_append_left _ ht)).symm
  have odd_no : ∀ {q k : Nat},zEQ ops q = true → k < ops.length → anc ops k (q + 1) = true → anc ops k q = true := by
   intro q k ho hk ha
   unfold zEQ at ho
   rw [Bool.and_eq_true] at ho
   have := z4w ho.2 (List.getElem?_eq_getElem hk)
   rw [ha] at this
   simpa using this
  have below : ∀ (k i : Nat) (ok' oi : Oper),ops[k]? = some ok' → zDp kc ok'.op ≠ 0 → listed.getD k false = true → ops[i]? = some oi → zDp kc oi.op ≠ 0 → i < k → listed.getD i false = true ∨ (k = i + 1 ∧ zEQ ops i = true) := by
   intro k i ok' oi hk' hw' hl hoi hi hik
   rcases ok.loud i k oi ok' hoi hi hk' hw' hik with q|q
   ·exact .inl (hafter2 k i hl q)
   ·exact .inr q
  have ahead : ∀ (i : Nat) (oi : Oper),zDp kc o.op ≠ 0 → ops[i]? = some oi → zDp kc oi.op ≠ 0 → i < j → listed.getD i false = true ∨ (j = i + 1 ∧ zEQ ops i = true) := by
   intro i oi hc hoi hi hij
   rcases ok.loud i j oi o hoi hi ho' hc hij with q|q
   ·exact .inl (hafter i q)
   ·exact .inr q
  have behind : ∀ (i : Nat) (oi : Oper),zDp kc o.op ≠ 0 → ops[i]? = some oi → zDp kc oi.op ≠ 0 → j < i → listed.getD i false = false ∨ (i = j + 1 ∧ zEQ ops j = true) := by
   intro i oi hc hoi hi hji
   rcases ok.loud j i o oi ho' hc hoi hi hji with q|q
   ·exact .inl (nl i q)
   ·exact .inr q
  have hHL : zDp kc o.op ≠ 0 → (∀ (i : Nat) (oi : Oper),ops[i]? = some oi → zDp kc oi.op ≠ 0 → i < j → listed.getD i false = true) → (∀ (i : Nat) (oi : Oper),ops[i]? = some oi → zDp kc oi.op ≠ 0 → j < i → listed.getD i false = false) → Hc = hs j := by
   intro hc hlo hhi
   rcases hJ.hd with ⟨k,ok',hk',hw',hl,hmax,_,e⟩|⟨hnow,e⟩|⟨q,oq,o1,t,x,y,hq,hcq,hq1,hcq1,_,hlq,hlq1,_⟩
   ·have hlt : k < j := by
     rcases Nat.lt_trichotomy k j with q|q|q
     ·exact q
     ·exact absurd q (hne k hl)
     ·rw [hhi k ok' hk' hw' q] at hl;cases hl
    rw [e]
    refine (hsc' (k + 1) j (by omega) (by omega) fun i oi h1 h2 hoi=>z0 fun hi=>?_).symm
    have := hmax i oi hoi hi (hlo i oi hoi hi h2);omega
   ·rw [e,← hs0]
    refine (hsc' 0 j (Nat.zero_le _) (by omega) fun i oi _ h2 hoi=>z0 fun hi=>?_).symm
    have := hnow i oi hoi hi
    rw [hlo i oi hoi hi h2] at this;cases this
   ·exfalso
    have h1 : q ≠ j ∨ q = j := by omega
    rcases Nat.lt_trichotomy q j with e|e|e
    ·rw [hlo q oq hq hcq e] at hlq;cases hlq
    ·subst e
     rw [hhi (q + 1) o1 hq1 hcq1 (by omega)] at hlq1;cases hlq1
    ·rw [hhi (q + 1) o1 hq1 hcq1 (by omega)] at hlq1;cases hlq1
  have hHj : zDp kc o.op = 0 → ∃ X,Hc = zFQ kc ops [] hs j ++ X := by
   intro hc0
   unfold zFQ
   cases hfr : z9i kc ops (zEu ops []) j with
   |true=>exact ⟨Hc,rfl⟩
   |false =>
   show ∃ X,Hc = zFx [] hs (loI kc ops (zEu ops []) j) ++ X
   rw [show zFx [] hs (loI kc ops (zEu ops []) j) = hs (loI kc ops (zEu ops []) j) by simp [zFx]]
   have hlow := zbJ (kc := kc) ops j
   have mid : ∀ (k : Nat) (ok' : Oper),ops[k]? = some ok' → zDp kc ok'.op ≠ 0 → listed.getD k false = true → ∀ (i : Nat) (oi : Oper),loI kc ops (zEu ops []) j ≤ i → i < k + 1 → ops[i]? = some oi → zDp kc oi.op ≤ 1 := by
    intro k ok' hk' hw' hl i oi h1 h2 hoi
    rcases Nat.lt_or_ge 1 (zDp kc oi.op) with q|q
    ·exfalso
     have hli : listed.getD i false = true := by
      by_cases e : i = k
      ·rw [e];exact hl
      ·rcases below k i ok' oi hk' hw' hl hoi (by omega) (by omega) with q3|⟨_,q3⟩
       ·exact q3
       ·unfold zEQ at q3
        rw [Bool.and_eq_true,Bool.and_eq_true] at q3
        obtain ⟨t,et,_⟩ := zdX hoi q3.1.1
        rw [et] at q
        exact absurd q (by simp [zDp])
     have hij := hne i hli
     rcases Nat.lt_or_ge i j with q2|q2
     ·have ha : anc ops j i = true := by
       have := zmm hfr hoi q hij
       rwa [if_neg (by omega)] at this
      rcases hlow with ⟨e,h3⟩|⟨p,op',hp,e,hop,hcp,hap,h3⟩
      ·rw [h3 i oi q2 hoi (by omega)] at ha;cases ha
      ·rw [h3 i oi (by omega) q2 hoi (by omega)] at ha;cases ha
     ·have ha : anc ops i j = true := by
       have := zmm hfr hoi q hij
       rwa [if_pos (by omega)] at this
      rw [nl i ha] at hli;cases hli
    ·exact q
   rcases hJ.hd with ⟨k,ok',hk',hw',hl,hmax,_,e⟩|⟨hnow,e⟩|⟨q,oq,o1,t,x,y,hq,hcq,hq1,hcq1,hod,hlq,hlq1,hmax,_,e,_,_,_⟩
   ·have hle : loI kc ops (zEu ops []) j ≤ k + 1 := by
     rcases hlow with ⟨e2,_⟩|⟨p,op',hp,e2,hop,hcp,hap,_⟩
     ·omega
     ·have := hmax p op' hop hcp (hafter p hap);omega
    rw [e]
    exact hadd' _ (k + 1) hle (by have := (List.getElem?_eq_some_iff.1 hk').1;omega) (mid k ok' hk' hw' hl)
   ·have : loI kc ops (zEu ops []) j = 0 := by
     rcases hlow with ⟨e2,_⟩|⟨p,op',hp,e2,hop,hcp,hap,_⟩
     ·exact e2
     ·have := hnow p op' hop hcp
      rw [hafter p hap] at this;cases this
    exact ⟨[],by rw [this,e,hs0,List.append_nil]⟩
   ·have hle : loI kc ops (zEu ops []) j ≤ q := by
     rcases hlow with ⟨e2,_⟩|⟨p,op',hp,e2,hop,hcp,hap,_⟩
     ·omega
     ·have h1 := hmax p op' hop hcp (hafter p hap)
      have h2 : p ≠ q := fun e=>by subst e;rw [hafter p hap] at hlq;cases hlq
      have h3 : p ≠ q + 1 := fun e=>by
       subst e
       rw [hafter q (odd_no hod hjl hap)] at hlq;cases hlq
      omega
    obtain ⟨X,hX⟩ := hadd' _ q hle (by have := (List.getElem?_eq_some_iff.1 hq).1;omega) fun i oi h1 h2 hoi=>mid (q + 1) o1 hq1 hcq1 hlq1 i oi h1 (by omega) hoi
    exact ⟨X ++ [⟨0,t,0,[]⟩] ++ [y],by rw [e,hX];simp⟩
  have hfact := hfacts j o (vs.getD j .nil) ho' (hvs j o ho')
  unfold zDj at hfact
  split at hfact
  case isFalse hw =>
   rcases hfact with ⟨hg,hst,_⟩|⟨hg,hvd,hHk⟩
   rotate_left
   ·
    have hoff : ¬ Region.wanted o (yielded ops.toArray a.tmps) = true := by
     obtain ⟨k,want,t,hgd,ht,hb⟩ := hg
     have htL : t ∈ L := List.mem_append_right _ (by simp only [hgd,ht];simp)
     rcases hb with hb|⟨q,hb⟩
     ·have hy : yielded ops.toArray a.tmps k = some (!want) := z3Y hfrj ht (by
       show get (L.map fun t=>(t,get _ t)) t = _
       rw [(hTj L _ t).1 htL];exact hb)
      simp [Region.wanted,hgd,hy]
     ·have hy : yielded ops.toArray a.tmps k = none := z85 hfrj ht (q := q) (by
       show get (L.map fun t=>(t,get _ t)) t = _
       rw [(hTj L _ t).1 htL];exact hb)
      simp [Region.wanted,hgd,hy]
    obtain ⟨_,_,_,hgd,_⟩ := hg
    have hodd : zFD ops j = true → False := fun q=>by
     obtain ⟨_,_,e⟩ := zdX ho' q
     rw [hgd] at e;cases e
    have hlo : ∀ (i : Nat) (oi : Oper),ops[i]? = some oi → zDp kc oi.op ≠ 0 → i < j → listed.getD i false = true := by
     intro i oi hoi hi hij
     rcases ahead i oi hw hoi hi hij with q|⟨e,hod⟩
     ·exact q
     ·unfold zEQ at hod
      rw [Bool.and_eq_true,Bool.and_eq_true,← e] at hod
      exact (hodd hod.1.2).elim
    have hhi : ∀ (i : Nat) (oi : Oper),ops[i]? = some oi → zDp kc oi.op ≠ 0 → j < i → listed.getD i false = false := by
     intro i oi hoi hi hji
     rcases behind i oi hw hoi hi hji with q|⟨e,hod⟩
     ·exact q
     ·unfold zEQ at hod
      rw [Bool.and_eq_true,Bool.and_eq_true] at hod
      exact (hodd hod.1.1).elim
    unfold zeU wpList
    rw [if_neg hoff]
    refine ⟨rfl,S,μ,Hc,upd (.inl ⟨j,o,ho',hw,hself,fun k' ok' hk' hw' hl'=>?_,fun k' ok' hk' hw' hle=>?_,by rw [hHk];exact hHL hw hlo hhi⟩) hJ.rel (Step.refl _ _ _ _ _) fun _ _=>by rw [hvd];exact zgc _ _⟩
    ·rcases Nat.lt_or_ge j k' with q|q
     ·exfalso
      rw [hset k' (by omega),hhi k' ok' hk' hw' q] at hl';cases hl'
     ·exact q
    ·by_cases e : k' = j
     ·subst e;exact hself
     ·rw [hset k' e];exact hlo k' ok' hk' hw' (by omega)
   have hwant : Region.wanted o (yielded ops.toArray a.tmps) = true := by
    rcases hg with hg|⟨k,want,t,hgd,ht,hb⟩
    ·simp [Region.wanted,hg]
    ·have htL : t ∈ L := List.mem_append_right _ (by simp only [hgd,ht];simp)
     have hy : yielded ops.toArray a.tmps k = some want := z3Y hfrj ht (by
      show get (L.map fun t=>(t,get _ t)) t = _
      rw [(hTj L _ t).1 htL];exact hb)
     simp [Region.wanted,hgd,hy]
   unfold zeU wpList
   rw [if_pos hwant]
   refine .inl ?_
   by_cases hA : (∀ (i : Nat) (oi : Oper),ops[i]? = some oi → zDp kc oi.op ≠ 0 → i < j → listed.getD i false = true) ∧ (∀ (i : Nat) (oi : Oper),ops[i]? = some oi → zDp kc oi.op ≠ 0 → j < i → listed.getD i false = false)
   ·
    rw [← hHL hw hA.1 hA.2] at hst
    have hwp := z86 (zj0 hw hagree hst) hJ.rel hfrj hGj (fun e a' w'=>e = .normal ∧ ∃ S μ Hc,JY kc n N ops B hs T (zDt T ops vs) w0 S0 μ0 (listed.setIfInBounds j true) a' w' S μ Hc)
    refine _root_.Go.Proofs.YtaplemeamcgpkaaDoor.Oper.wp_next hwp ?_
    rintro a' w' ⟨d,u,H',S',μ',⟨rfl,rfl⟩,rfl,hrep,hr',hst',_⟩
    refine ⟨rfl,S',μ',_,upd (.inl ⟨j,o,ho',hw,hself,fun k' ok' hk' hw' hl'=>?_,fun k' ok' hk' hw' hle=>?_,rfl⟩) hr' hst' fun _ _=>hrep⟩
    ·rcases Nat.lt_or_ge j k' with q|q
     ·exfalso
      rw [hset k' (by omega),hA.2 k' ok' hk' hw' q] at hl';cases hl'
     ·exact q
    ·by_cases e : k' = j
     ·subst e;exact hself
     ·rw [hset k' e];exact hA.1 k' ok' hk' hw' (by omega)
   have hal : ∀ {p : Nat} {op : Oper},ops[p]? = some op → zFD ops p = true → ∃ t c,op.op = .alloc t ∧ z7r P t = some c ∧ vs.getD p .nil = OP (hs p).length 0 ∧ hs (p + 1) = hs p ++ [⟨1,t,0,c⟩] := by
    intro p op hp hal
    obtain ⟨t,et,eg⟩ := zdX hp hal
    have hf := hfacts p op _ hp (hvs p op hp)
    unfold zDj at hf
    rw [if_neg (by rw [et];simp [zDp])] at hf
    have hf : z08 P G op ⟨hs p,zDt T (ops.take p) (vs.take p)⟩ (fun d H'=>d = vs.getD p .nil ∧ H' = hs (p + 1)) := by
     rcases hf with ⟨_,hf,_⟩|⟨⟨_,_,_,hg,_⟩,_⟩
     ·exact hf
     ·rw [eg] at hg;cases hg
    unfold z08 at hf
    rw [et] at hf
    dsimp only at hf
    cases hz : z7r P t with
    |none=>rw [hz] at hf;exact hf.elim
    |some c =>
     rw [hz] at hf
     exact ⟨t,c,et,hz,hf.1.symm,hf.2.symm⟩
   by_cases hB : ∀ (i : Nat) (oi : Oper),ops[i]? = some oi → zDp kc oi.op ≠ 0 → i < j → listed.getD i false = true
   ·
    have : ∃ (i : Nat) (oi : Oper),ops[i]? = some oi ∧ zDp kc oi.op ≠ 0 ∧ j < i ∧ listed.getD i false = true := by
     refine Classical.byContradiction fun q=>hA ⟨hB,fun i oi h1 h2 h3=>nb fun h4=>q ⟨i,oi,h1,h2,h3,h4⟩⟩
    obtain ⟨i,oi,hoi,hci,hji,hli⟩ := this
    rcases behind i oi hw hoi hci hji with q|⟨rfl,hod⟩
    ·rw [hli] at q;cases q
    rcases hJ.hd with ⟨k,ok',hk',hw',hl,hmax,hall,e⟩|⟨hnow,e⟩|⟨q,oq,o1,t,x,y,hq,hcq,hq1,hcq1,hod',hlq,hlq1,hmax,hlow,e,ex,ey,hμ⟩
    ·have := hall j o ho' hw (by have := hmax _ oi hoi hci hli;omega)
     rw [hjf] at this;cases this
    ·rw [hnow _ oi hoi hci] at hli;cases hli
    ·have hqj : q = j := by
      have h1 := hmax _ oi hoi hci hli
      rcases Nat.lt_or_ge j q with h2|h2
      ·have := hlow j o ho' hw h2
       rw [hjf] at this;cases this
      ·rcases Nat.lt_or_ge q j with h3|h3
       ·rw [hB q oq hq hcq h3] at hlq;cases hlq
       ·omega
     subst hqj
     rw [ho'] at hq;injection hq with hq;subst hq
     unfold zEQ at hod
     rw [Bool.and_eq_true,Bool.and_eq_true] at hod
     obtain ⟨t0,c0,et,hz,hv,hx⟩ := hal ho' hod.1.1
     rw [ex] at hx
     have hxe : x = ⟨1,t0,0,c0⟩ := by simpa using hx
     have hHq : Hc[(hs q).length]? = some ⟨0,t,0,[]⟩ := by rw [e];simp
     refine _root_.Go.Proofs.YtaplemeamcgpkaaDoor.Oper.wp_next (zn8 (K := fun d H'=>d = OP (hs q).length 0 ∧ H' = Hc.set (hs q).length ⟨1,t0,0,c0⟩) hJ.rel et hz hμ hHq rfl ⟨rfl,rfl⟩) ?_
     rintro a' w' ⟨d,u,H',S',μ',⟨rfl,rfl⟩,rfl,hrep,hr',hst',_⟩
     refine ⟨rfl,S',μ',_,upd (.inl ⟨q + 1,oi,hoi,hci,by rw [hset _ (by omega)];exact hli,fun k' ok' hk' hw' hl'=>?_,fun k' ok' hk' hw' hle=>?_,?_⟩) hr' hst' fun _ _=>by rw [hv];exact hrep⟩
     ·by_cases e : k' = q
      ·omega
      ·rw [hset k' e] at hl'
       exact hmax k' ok' hk' hw' hl'
     ·by_cases e : k' = q
      ·subst e;exact hself
      ·rw [hset k' e]
       by_cases e2 : k' = q + 1
       ·subst e2;exact hli
       ·exact hB k' ok' hk' hw' (by omega)
     ·rw [ey,e,hxe]
      simp
   ·
    have : ∃ (i : Nat) (oi : Oper),ops[i]? = some oi ∧ zDp kc oi.op ≠ 0 ∧ i < j ∧ listed.getD i false = false := by
     refine Classical.byContradiction fun q=>hB fun i oi h1 h2 h3=>?_
     cases h4 : listed.getD i false with
     |true=>rfl
     |false=>exact absurd ⟨i,oi,h1,h2,h3,h4⟩ q
    obtain ⟨q,oq,hq,hcq,hqj,hlq⟩ := this
    rcases ahead q oq hw hq hcq hqj with h|⟨rfl,hod⟩
    ·rw [hlq] at h;cases h
    have hbel : ∀ (i : Nat) (oi : Oper),ops[i]? = some oi → zDp kc oi.op ≠ 0 → i < q → listed.getD i false = true := by
     intro i oi h1 h2 h3
     rcases ahead i oi hw h1 h2 (by omega) with h|⟨h,_⟩
     ·exact h
     ·omega
    have habo : ∀ (i : Nat) (oi : Oper),ops[i]? = some oi → zDp kc oi.op ≠ 0 → listed.getD i false = true → i ≤ q := by
     intro i oi h1 h2 h3
     rcases Nat.lt_or_ge q i with h4|h4
     ·exfalso
      rcases below i q oi oq h1 h2 h3 hq hcq h4 with h|⟨h,_⟩
      ·rw [h] at hlq;cases hlq
      ·subst h;rw [h3] at hjf;cases hjf
     ·exact h4
    have hHq : Hc = hs q := by
     rcases hJ.hd with ⟨k,ok',hk',hw',hl,hmax,hall,e⟩|⟨hnow,e⟩|⟨q',oq',o1,t,x,y,hq',hcq',hq1,hcq1,hod',hlq',hlq1,hmax,hlow,e,ex,ey,hμ⟩
     ·have hk1 : k < q := by
       have h1 := habo k ok' hk' hw' hl
       rcases Nat.lt_or_ge k q with h|h
       ·exact h
       ·have : k = q := by omega
        subst this;rw [hl] at hlq;cases hlq
      rw [e]
      refine (hsc' (k + 1) q (by omega) (by omega) fun i oi h1 h2 hoi=>z0 fun hi=>?_).symm
      have := hmax i oi hoi hi (hbel i oi hoi hi h2);omega
     ·rw [e,← hs0]
      refine (hsc' 0 q (Nat.zero_le _) (by omega) fun i oi _ h2 hoi=>z0 fun hi=>?_).symm
      have := hnow i oi hoi hi
      rw [hbel i oi hoi hi h2] at this;cases this
     ·exfalso
      have h1 := habo (q' + 1) o1 hq1 hcq1 hlq1
      rw [hbel q' oq' hq' hcq' (by omega)] at hlq';cases hlq'
    have hod2 := hod
    unfold zEQ at hod2
    rw [Bool.and_eq_true,Bool.and_eq_true] at hod2
    obtain ⟨t0,c0,et0,hz0,hv0,hx0⟩ := hal hq hod2.1.1
    obtain ⟨t1,c1,et1,hz1,hv1,hx1⟩ := hal ho' hod2.1.2
    obtain ⟨hrv,hsv⟩ := hJ.rel.void t0
    refine _root_.Go.Proofs.YtaplemeamcgpkaaDoor.Oper.wp_next (znW hrv et1 hz1 (Q := fun e a' w'=>e = .normal ∧ ∃ S μ Hc,JY kc n N ops B hs T (zDt T ops vs) w0 S0 μ0 (listed.setIfInBounds (q + 1) true) a' w' S μ Hc)) ?_
    rintro a' w' ⟨u,μ',rfl,hrep,hr',hst',z,rfl⟩
    have hμ' : (μ ++ [.bool false] ++ [z])[(hs q).length]? = some (.bool false) := by
     rw [← hHq,← hJ.rel.len]
     simp
    refine ⟨rfl,S,_,_,upd (.inr (.inr ⟨q,oq,o,t0,⟨1,t0,0,c0⟩,⟨1,t1,0,c1⟩,hq,hcq,ho',hw,hod,by rw [hset q (by omega)];exact hlq,hself,fun k' ok' hk' hw' hl'=>?_,fun k' ok' hk' hw' hlt=>?_,by rw [hHq],hx0,by rw [hx1,hx0],hμ'⟩)) hr' (hsv.trans (hst'.less (by simp))) fun _ _=>by
     rw [hv1,hx0,← hHq]
     simpa using hrep⟩
    ·by_cases e : k' = q + 1
     ·omega
     ·rw [hset k' e] at hl'
      have := habo k' ok' hk' hw' hl';omega
    ·rw [hset k' (by omega)]
     exact hbel k' ok' hk' hw' hlt
  case isTrue hna =>
    obtain ⟨hk,hfact⟩ := hfact
    have hHDq : HY kc ops B hs (listed.setIfInBounds j true) Hc μ := by
     have f : ∀ (k : Nat) (ok' : Oper),ops[k]? = some ok' → zDp kc ok'.op ≠ 0 → (listed.setIfInBounds j true).getD k false = listed.getD k false := by
      intro k ok' hk' hq
      refine hset k ?_
      rintro rfl
      rw [ho'] at hk';injection hk' with hk';subst hk'
      exact hq hna
     rcases hJ.hd with ⟨k,ok',hk',hw',hl,hmax,hall,e⟩|⟨hnos,e⟩|⟨q,oq,o1,t,x,y,hq,hcq,hq1,hcq1,hod,hlq,hlq1,hmax,hlow,r⟩
     ·exact .inl ⟨k,ok',hk',hw',by rw [f k ok' hk' hw'];exact hl,fun k2 o2 h1 h2 h3=>hmax k2 o2 h1 h2 (by rw [← f k2 o2 h1 h2];exact h3),fun k2 o2 h1 h2 h3=>by rw [f k2 o2 h1 h2];exact hall k2 o2 h1 h2 h3,e⟩
     ·exact .inr (.inl ⟨fun k2 o2 h1 h2=>by rw [f k2 o2 h1 h2];exact hnos k2 o2 h1 h2,e⟩)
     ·exact .inr (.inr ⟨q,oq,o1,t,x,y,hq,hcq,hq1,hcq1,hod,by rw [f q oq hq hcq];exact hlq,by rw [f _ o1 hq1 hcq1];exact hlq1,fun k2 o2 h1 h2 h3=>hmax k2 o2 h1 h2 (by rw [← f k2 o2 h1 h2];exact h3),fun k2 o2 h1 h2 h3=>by rw [f k2 o2 h1 h2];exact hlow k2 o2 h1 h2 h3,r⟩)
    have hdoH : ∀ (hw : Region.wanted o (yielded ops.toArray a.tmps) = true),z0T P G o ⟨Hc,zDt T (ops.take j) (vs.take j)⟩ (· = vs.getD j .nil) → zeU P ops.toArray o a w (fun a' w'=>∃ S μ Hc,JY kc n N ops B hs T (zDt T ops vs) w0 S0 μ0 (listed.setIfInBounds j true) a' w' S μ Hc) := by
     intro hw hst
     have hst' := z9f hagree hst
     unfold zeU wpList
     rw [if_pos hw]
     refine .inl ?_
     unfold z0T at hst'
     split at hst'
     ·rename_i f args ts hop
      obtain ⟨X,hX,hargs,hXv⟩ := hst'
      subst hXv
      unfold Oper.wp
      rw [z8h hX.1 hop rfl]
      have hc := zhn hX hargs hJ.rel hGj (vs := args.toList.map a.eval) (by rw [List.length_map,List.length_map,List.length_map]) (fun i d v hd hv=>by
       rw [List.getElem?_map,List.getElem?_map] at hd
       rw [List.getElem?_map] at hv
       cases hx : args.toList[i]? with
       |none=>rw [hx] at hd;cases hd
       |some x =>
        rw [hx] at hd hv
        simp only [Option.map_some,Option.some.injEq] at hd hv
        subst hd hv
        exact (hfrj.ev hGj x).toRo hJ.rel)
      have e : (args.toList.map a.eval).toArray = args.map a.eval := by rw [← Array.toList_map,Array.toArray_toList]
      rw [e] at hc
      refine hc.mono fun e w' ⟨v,S',he,hr',hrep,hst2,hbel⟩=>?_
      subst he
      exact ⟨rfl,S',μ,Hc,upd hHDq hr' hst2 fun _ _=>hrep⟩
     ·obtain ⟨hq,hst'⟩ := hst'
      have hpost := z86 hst' hJ.rel hfrj hGj (fun e a' w'=>e = .normal ∧ ∃ S μ Hc,JY kc n N ops B hs T (zDt T ops vs) w0 S0 μ0 (listed.setIfInBounds j true) a' w' S μ Hc)
      refine _root_.Go.Proofs.YtaplemeamcgpkaaDoor.Oper.wp_next hpost ?_
      rintro a' w' ⟨d,u,H',S',μ',⟨rfl,rfl⟩,rfl,hrep,hr',hst2,hqq⟩
      obtain ⟨_,rfl,_⟩ := hqq hq
      exact ⟨rfl,S',_,_,upd hHDq hr' hst2 fun _ _=>hrep⟩
    have hdo : ∀ (hw : Region.wanted o (yielded ops.toArray a.tmps) = true),z0T P G o ⟨zFQ kc ops [] hs j,zDt T (ops.take j) (vs.take j)⟩ (· = vs.getD j .nil) → zeU P ops.toArray o a w (fun a' w'=>∃ S μ Hc,JY kc n N ops B hs T (zDt T ops vs) w0 S0 μ0 (listed.setIfInBounds j true) a' w' S μ Hc) := by
     intro hw hst0
     obtain ⟨X,hX⟩ := hHj hna
     exact hdoH hw (by rw [hX];exact zdD hst0)
    rcases hfact with hfact|⟨lt,lx,hlo,hlg,hlf⟩
    rotate_left
    ·
     have notB : ∀ (i : Nat) (oi : Oper),ops[i]? = some oi → listed.getD i false = true → anc ops i j = false := fun i oi hoi hli=>nb fun ha=>by
      have := hafter2 i j hli ha
      rw [hjf] at this;cases this
     have lowL : ∀ q,(∀ (k : Nat) (oi : Oper),ops[k]? = some oi → zDp kc oi.op ≠ 0 → listed.getD k false = true → k < q) → loI kc ops (zEu ops []) j ≤ q := fun q hmx=>by
      rcases zbJ (kc := kc) ops j with ⟨e2,_⟩|⟨p,op',hp,e2,hop,hcp,hap,_⟩
      ·omega
      ·have := hmx p op' hop hcp (hafter p hap);omega
     obtain ⟨q,X,hq,hX,hnB,hlw⟩ : ∃ q X,q ≤ ops.length ∧ Hc = hs q ++ X ∧ zp4 kc ops 0 q j ∧ loI kc ops (zEu ops []) j ≤ q := by
      rcases hJ.hd with ⟨k,ok',hk',hw',hl,hmax,hall,e⟩|⟨hnow,e⟩|⟨q,oq,o1,t,x,y,hq,hcq,hq1,hcq1,hod,hlq,hlq1,hmax,hlow,e,_,_,_⟩
      ·refine ⟨k + 1,[],by have := (List.getElem?_eq_some_iff.1 hk').1;omega,by rw [e,List.append_nil],fun i oi hoi hci _ hik=>notB i oi hoi (hall i oi hoi hci (by omega)),lowL _ fun k2 o2 h1 h2 h3=>by have := hmax k2 o2 h1 h2 h3;omega⟩
      ·exact ⟨0,[],Nat.zero_le _,by rw [e,hs0,List.append_nil],fun i oi hoi hci _ hik=>by omega,lowL _ fun k2 o2 h1 h2 h3=>by rw [hnow k2 o2 h1 h2] at h3;cases h3⟩
      ·refine ⟨q,[⟨0,t,0,[]⟩] ++ [y],by have := (List.getElem?_eq_some_iff.1 hq).1;omega,by rw [e,List.append_assoc],fun i oi hoi hci _ hik=>notB i oi hoi (hlow i oi hoi hci hik),?_⟩
       rcases zbJ (kc := kc) ops j with ⟨e2,_⟩|⟨p,op',hp,e2,hop,hcp,hap,_⟩
       ·omega
       ·have h1 := hmax p op' hop hcp (hafter p hap)
        have h2 : p ≠ q := fun e=>by subst e;rw [hafter p hap] at hlq;cases hlq
        have h3 : p ≠ q + 1 := fun e=>by
         subst e
         rw [hafter q (odd_no hod hjl hap)] at hlq;cases hlq
        omega
     refine hdoH ?_ ?_
     ·rcases hlg with hg|⟨k,want,t,hgd,ht,hb⟩
      ·simp [Region.wanted,hg]
      ·have htL : t ∈ L := List.mem_append_right _ (by simp only [hgd,ht];simp)
       have hy : yielded ops.toArray a.tmps k = some want := z3Y hfrj ht (by
        show get (L.map fun t=>(t,get _ t)) t = _
        rw [(hTj L _ t).1 htL];exact hb)
       simp [Region.wanted,hgd,hy]
     rw [hX]
     refine zdD ?_
     have this : z67 (z0z P lt) (hs q) (ev G (zDt T (ops.take j) (vs.take j)) lx) (· = vs.getD j .nil) := hlf (hs q) ⟨q,hq,rfl,hnB,hlw⟩
     obtain ⟨dst,op,ty,pos,af,gd⟩ := o
     dsimp only at hlo
     subst hlo
     refine ⟨rfl,?_⟩
     rw [zty]
     exact z4j (fun d e=>⟨rfl,e⟩) this
    unfold z8c at hfact
    split at hfact
    ·rename_i hgd
     exact hdo (by simp [Region.wanted,hgd]) hfact
    ·rename_i k want hgd
     obtain ⟨t,ht,⟨b,hb,hyes,hno⟩|⟨⟨q,hb⟩,hno⟩⟩ := hfact
     ·have htL : t ∈ L := List.mem_append_right _ (by simp only [hgd,ht];simp)
      have hy : yielded ops.toArray a.tmps k = some b := z3Y hfrj ht (by
       show get (L.map fun t=>(t,get _ t)) t = _
       rw [(hTj L _ t).1 htL];exact hb)
      by_cases e : b = want
      ·exact hdo (by simp [Region.wanted,hgd,hy,e]) (hyes e)
      ·unfold zeU wpList
       rw [if_neg (by simp [Region.wanted,hgd,hy,e])]
       exact ⟨rfl,S,μ,Hc,upd hHDq hJ.rel (Step.refl _ _ _ _ _) fun _ _=>by rw [hno e];exact zgc _ _⟩
     ·have htL : t ∈ L := List.mem_append_right _ (by simp only [hgd,ht];simp)
      have hy : yielded ops.toArray a.tmps k = none := z85 hfrj ht (q := q) (by
       show get (L.map fun t=>(t,get _ t)) t = _
       rw [(hTj L _ t).1 htL];exact hb)
      unfold zeU wpList
      rw [if_neg (by simp [Region.wanted,hgd,hy])]
      exact ⟨rfl,S,μ,Hc,upd hHDq hJ.rel (Step.refl _ _ _ _ _) fun _ _=>by rw [hno];exact zgc _ _⟩
 ·
  rintro listed a w hall ⟨S,μ,Hc,hJ⟩
  have hall' : ∀ (k : Nat) (o : Oper),ops[k]? = some o → listed.getD k false = true := fun k o ho=>hall k (by simpa using (List.getElem?_eq_some_iff.1 ho).1)
  have hHc : Hc = hs ops.length := by
   rcases hJ.hd with ⟨k,ok',hk',hw',hl,hmax,_,e⟩|⟨hnos,e⟩|⟨q,oq,o1,t,x,y,hq,hcq,hq1,hcq1,hod,hlq,_⟩
   ·rw [e]
    refine (hsc' (k + 1) ops.length (by have := (List.getElem?_eq_some_iff.1 hk').1;omega) (Nat.le_refl _) fun i oi h1 h2 hoi=>z0 fun hi=>?_).symm
    have := hmax i oi hoi hi (hall' i oi hoi);omega
   ·rw [e,← hs0]
    refine (hsc' 0 ops.length (Nat.zero_le _) (Nat.le_refl _) fun i oi h1 h2 hoi=>z0 fun hi=>?_).symm
    have := hnos i oi hoi hi;rw [hall' i oi hoi] at this;cases this
   ·rw [hall' q oq hq] at hlq;cases hlq
  subst hHc
  refine ⟨⟨hs ops.length,zDt T ops vs⟩,S,μ,hend,hJ.rel,⟨hJ.size,hJ.nodef,fun i=>hJ.slot i ?_⟩,hJ.step⟩
  by_cases hi : ∃ (k : Nat) (o : Oper),ops[k]? = some o ∧ o.dst = some i
  ·obtain ⟨k,o,ho,hd⟩ := hi
   exact .inr ⟨k,o,ho,hd,hall' k o ho⟩
  ·refine .inl fun o ho e=>?_
   obtain ⟨k,hk⟩ := List.getElem?_of_mem ho
   exact hi ⟨k,o,hk,e⟩
 ·
  intro listed hl
  obtain ⟨r,st⟩ := hrel.grow (w' := w0.drew) ((Below.refl _ _).drew) (fun _ _ _ q=>q) (fun _ _ _ q=>.inl q) (fun b j d q hb=>by have := hrel.still_lt q;omega)
  refine ⟨S0,μ0,B, .inr (.inl ⟨fun k o _ _=>hl k,rfl⟩),r,st.less hn,hn,hfr.size,hfr.nodef,fun t ht=>?_,fun t _=>hfr.slot t⟩
  rcases ht with hu|⟨k,o,_,_,h⟩
  ·rw [z1s _ _ _ _ hu];exact hfr.slot t
  ·rw [hl k] at h;cases h
end
end Go.Proofs.YtaplemeamcgpkaaDoor

namespace Go.Proofs.YtaplemeamcgpkaaDoor
open Go.RowKit
section
variable {R : Type}
abbrev RO := Option (AV × List AObj)
def z0q (b : Bool) (x : Option R) : Option R := match b with|true=>x|false=>none
theorem z04 {b : Bool} {x : Option R} {r : R} (h : z0q b x = some r) : b = true ∧ x = some r := by
 cases b with
 |true=>exact ⟨rfl,h⟩
 |false=>cases h
theorem z5h {x : Option R} : z0q true x = x := rfl
theorem zpw {x : Option R} : z0q false x = none := rfl
def zCG (l : List AV) (i : Nat) (K : AV → Option R) : Option R := match l[i]? with|some d=>K d|none=>none
theorem zlK {l : List AV} {i : Nat} {K : AV → Option R} {r : R} (h : zCG l i K = some r) : nth l i fun d=>K d = some r := by
 unfold zCG at h
 split at h
 ·rename_i d hd;exact ⟨d,hd,h⟩
 ·cases h
def z68 (H : List AObj) (i : Nat) (K : AObj → Option R) : Option R := match H[i]? with|some d=>K d|none=>none
theorem zc6 {H : List AObj} {i : Nat} {K : AObj → Option R} {r : R} (h : z68 H i K = some r) : zEG H i fun d=>K d = some r := by
 unfold z68 at h
 split at h
 ·rename_i d hd;exact ⟨d,hd,h⟩
 ·cases h
def zFA (op : BinOp) (k : IntKind) (a : Int) (k' : IntKind) (b : Int) (K : AV → Option R) : Option R :=
 match op with
 |.add=>z0q (decide (k = k')) (K (V (.int k (k.wrap (a + b)))))
 |.sub=>z0q (decide (k = k')) (K (V (.int k (k.wrap (a - b)))))
 |.mul=>z0q (decide (k = k')) (K (V (.int k (k.wrap (a * b)))))
 |.quo=>z0q (decide (k = k')) (z0q (decide (¬ b = 0)) (K (V (.int k (k.wrap (a.tdiv b))))))
 |.rem=>z0q (decide (k = k')) (z0q (decide (¬ b = 0)) (K (V (.int k (a.tmod b)))))
 |.and=>z0q (decide (k = k')) (K (V (.int k (bits .and k a b))))
 |.or=>z0q (decide (k = k')) (K (V (.int k (bits .or k a b))))
 |.xor=>z0q (decide (k = k')) (K (V (.int k (bits .xor k a b))))
 |.andNot=>z0q (decide (k = k')) (K (V (.int k (bits .andNot k a b))))
 |.shl=>z0q (decide (0 ≤ b)) (K (V (.int k (k.wrap (a * 2 ^ (min b.toNat k.bits))))))
 |.shr=>z0q (decide (0 ≤ b)) (K (V (.int k (a.fdiv (2 ^ (min b.toNat k.bits))))))
 |.eql=>z0q (decide (k = k')) (K (V (.bool (decide (a = b)))))
 |.neq=>z0q (decide (k = k')) (K (V (.bool (!decide (a = b)))))
 |.lss=>z0q (decide (k = k')) (K (V (.bool (decide (a < b)))))
 |.leq=>z0q (decide (k = k')) (K (V (.bool (decide (a ≤ b)))))
 |.gtr=>z0q (decide (k = k')) (K (V (.bool (decide (b < a)))))
 |.geq=>z0q (decide (k = k')) (K (V (.bool (decide (b ≤ a)))))
theorem zwD {op : BinOp} {k k' : IntKind} {a b : Int} {K : AV → Option R} {r : R} (h : zFA op k a k' b K = some r) : zEw op k a k' b fun d=>K d = some r := by
 have e1 : (a == b) = decide (a = b) := rfl
 have e2 : (a != b) = !decide (a = b) := rfl
 cases op <;> simp only [zFA,zEw,e1,e2] at h ⊢ <;> obtain ⟨h1,h2⟩ := z04 h <;> first
  |exact ⟨of_decide_eq_true h1,h2⟩
  |(obtain ⟨h3,h4⟩ := z04 h2;exact ⟨of_decide_eq_true h1,of_decide_eq_true h3,h4⟩)
def zEy (op : BinOp) (a b : ByteArray) (K : AV → Option R) : Option R :=
 match op with
 |.add=>z0q (decide (((a.size + b.size : Nat) : Int) ≤ 9223372036854775807)) (K (V (.string ⟨(a.data.toList ++ b.data.toList).toArray⟩)))
 |.eql=>K (V (.bool (decide (a.data.toList = b.data.toList))))
 |.neq=>K (V (.bool (!decide (a.data.toList = b.data.toList))))
 |.lss=>K (V (.bool (Op.bytesLess a.data.toList b.data.toList)))
 |.leq=>K (V (.bool (Op.bytesLess a.data.toList b.data.toList || decide (a.data.toList = b.data.toList))))
 |.gtr=>K (V (.bool (!(Op.bytesLess a.data.toList b.data.toList || decide (a.data.toList = b.data.toList)))))
 |.geq=>K (V (.bool (!Op.bytesLess a.data.toList b.data.toList)))
 |_=>none
theorem zgE (a : ByteArray) : a.toList = a.data.toList := by
 obtain ⟨⟨l⟩⟩ := a
 exact zdx
theorem zwj (a b : ByteArray) : a ++ b = ⟨(a.data.toList ++ b.data.toList).toArray⟩ := by
 apply ByteArray.ext
 simp [ByteArray.data_append]
theorem zva {op : BinOp} {a b : ByteArray} {K : AV → Option R} {r : R} (h : zEy op a b K = some r) : zFF op a b fun d=>K d = some r := by
 have e1 : (a.data.toList == b.data.toList) = decide (a.data.toList = b.data.toList) := by rw [Bool.eq_iff_iff];simp
 cases op <;> simp only [zEy,zFF,zgE,zwj,e1] at h ⊢ <;> first|exact h|(obtain ⟨h1,h2⟩ := z04 h;exact ⟨of_decide_eq_true h1,h2⟩)|(cases h)
end
end Go.Proofs.YtaplemeamcgpkaaDoor

namespace Go.Proofs.YtaplemeamcgpkaaDoor
open Go.RowKit
section
variable {R : Type} {P : Program} {G : Gl}
def z2M (k : Nat) (l : List AV) (o : Nat) (K : AV → Option R) : Option R :=
 match k with
 |0=>none
 |1=>zCG l o K
 |k + 2=>z0q (decide (o + k ≤ l.length)) (K (.agg ((l.drop o).take k)))
theorem z50 {k : Nat} {l : List AV} {o : Nat} {K : AV → Option R} {r : R} (h : z2M k l o K = some r) : z0Y k l o fun d=>K d = some r := by
 unfold z0Y
 match k,h with
 |1,h=>rw [if_pos rfl];exact zlK h
 |k + 2,h =>
  rw [if_neg (by omega)]
  obtain ⟨h1,h2⟩ := z04 h
  exact ⟨by omega,by simpa using h1,h2⟩
def zcc (ob : AObj) (K : List AV → Option R) : Option R := match ob.k with
 |1=>K ob.c
 |4=>z0q (decide (0 < ob.c.length)) (K (zE2 ob.c))
 |_=>none
theorem znR {ob : AObj} {K : List AV → Option R} {r : R} (h : zcc ob K = some r) : z7M ob fun l=>K l = some r := by
 unfold zcc at h
 unfold z7M
 split at h
 ·rename_i e;rw [e];exact h
 ·rename_i e;rw [e];obtain ⟨h1,h2⟩ := z04 h;exact ⟨of_decide_eq_true h1,h2⟩
 ·cases h
def z0l (k : Nat) (H : List AObj) (a : AV) (K : AV → Option R) : Option R :=
 match a with
 |.ptr (.agg cs)=>z0q (decide (k = cs.length + 2)) (K (.agg cs))
 |.ptr d=>z0q (decide (k = 1)) (K d)
 |.held (.inr (.inl (i,o)))=>z68 H i fun ob=>zcc ob fun l=>z2M k l o K
 |_=>none
theorem z9m {k : Nat} {H : List AObj} {a : AV} {K : AV → Option R} {r : R} (h : z0l k H a K = some r) : z67 k H a fun d=>K d = some r := by
 unfold z0l at h
 unfold z67
 split at h
 ·obtain ⟨h1,h2⟩ := z04 h;exact ⟨of_decide_eq_true h1,h2⟩
 ·rename_i d hne
  obtain ⟨h1,h2⟩ := z04 h
  split
  ·rename_i e;injection e with e;subst e;exact absurd rfl (hne _)
  ·rename_i d' _ e;injection e with e;subst e;exact ⟨of_decide_eq_true h1,h2⟩
  ·rename_i e;cases e
  ·rename_i e1 e2;exact absurd rfl (e1 _)
 ·obtain ⟨ob,h1,h2⟩ := zc6 h
  exact ⟨ob,h1,z9x (znR h2) fun l q=>z50 q⟩
 ·cases h
def zFq (ob : AObj) (k o : Nat) (x : AV) (K : AObj → Option R) : Option R := z0q (decide (¬ k = 0) && decide ((cellsOf x).length = zE7 k) && (cellsOf x).all zCU) (match ob.k with
 |1=>z0q (decide (o + zE7 k ≤ ob.c.length)) (K { ob with c := z0e ob.c o (cellsOf x) })
 |4=>z0q (decide (0 < ob.z) && decide (zE7 k = ob.z) && decide (o % ob.z = 0) && decide (o / ob.z < ob.c.length)) (K { ob with c := ob.c.set (o / ob.z) x })
 |_=>none)
theorem zuc {ob : AObj} {k o : Nat} {x : AV} {K : AObj → Option R} {r : R} (h : zFq ob k o x K = some r) : zFN ob k o x fun d=>K d = some r := by
 obtain ⟨kk,te,z,c⟩ := ob
 obtain ⟨h1,h2⟩ := z04 h
 simp only [Bool.and_eq_true,decide_eq_true_eq] at h1
 refine ⟨h1.1.1,h1.1.2,h1.2,?_⟩
 dsimp only at h2 ⊢
 split at h2
 ·obtain ⟨h3,h4⟩ := z04 h2;exact ⟨of_decide_eq_true h3,h4⟩
 ·obtain ⟨h3,h4⟩ := z04 h2
  simp only [Bool.and_eq_true,decide_eq_true_eq] at h3
  exact ⟨h3.1.1.1,h3.1.1.2,h3.1.2,h3.2,h4⟩
 ·cases h2
def z0s (k : Nat) (H : List AObj) (a x : AV) (K : List AObj → Option R) : Option R :=
 match a with
 |.held (.inr (.inl (i,o)))=>z68 H i fun ob=>zFq ob k o x fun ob'=>K (H.set i ob')
 |_=>none
theorem zid {k : Nat} {H : List AObj} {a x : AV} {K : List AObj → Option R} {r : R} (h : z0s k H a x K = some r) : z5M k H a x fun d=>K d = some r := by
 unfold z0s at h
 unfold z5M
 split at h
 ·obtain ⟨ob,h1,h2⟩ := zc6 h
  exact ⟨ob,h1,zdy (zuc h2) fun _ q=>q⟩
 ·cases h
def z0b (fk : Option (Nat × Nat)) (a : AV) (K : AV → Option R) : Option R :=
 match fk with
 |some (off,k)=>match a with
  |.ptr (.agg cs)=>z2M k cs off fun d=>K (.ptr d)
  |.held (.inr (.inl (i,o)))=>K (OP i (o + off))
  |_=>none
 |none=>none
theorem zmS {fk : Option (Nat × Nat)} {a : AV} {K : AV → Option R} {r : R} (h : z0b fk a K = some r) : z6u fk a fun d=>K d = some r := by
 unfold z0b at h
 unfold z6u
 split at h
 ·split at h
  ·exact z50 h
  ·exact h
  ·cases h
 ·cases h
def zfw (fk : Option (Nat × Nat)) (a : AV) (K : AV → Option R) : Option R :=
 match fk with
 |some (off,k)=>match a with
  |.agg cs=>z2M k cs off K
  |_=>none
 |none=>none
theorem zlC {fk : Option (Nat × Nat)} {a : AV} {K : AV → Option R} {r : R} (h : zfw fk a K = some r) : z3D fk a fun d=>K d = some r := by
 unfold zfw at h
 unfold z3D
 split at h
 ·split at h
  ·exact z50 h
  ·cases h
 ·cases h
def z5b (H : List AObj) (x : AV) (K : List AV → Option R) : Option R :=
 match x with
 |.slice es []=>K es
 |.held (.inr (.inr (i,n)))=>z68 H i fun o=>z0q (decide (o.k = 2) && decide (n = o.c.length)) (K o.c)
 |.held (.inl (.slice none 0 0))=>K []
 |.slice _ [.held (.inl (.bool _))]=>K []
 |_=>none
theorem zaT {H : List AObj} {x : AV} {K : List AV → Option R} {r : R} (h : z5b H x K = some r) : z1d H x fun d=>K d = some r := by
 unfold z5b at h
 unfold z1d
 split at h
 ·exact h
 ·obtain ⟨ob,h1,h2⟩ := zc6 h
  obtain ⟨h3,h4⟩ := z04 h2
  simp only [Bool.and_eq_true,decide_eq_true_eq] at h3
  exact ⟨ob,h1,h3.1,h3.2,h4⟩
 ·exact h
 ·exact h
 ·cases h
def zcV (ek : Nat) (H : List AObj) (x ix : AV) (K : AV → Option R) : Option R :=
 match ix with
 |.held (.inl (.int k i))=>z0q (decide (0 ≤ i)) (match x with
  |.slice _ [.held (.inr (.inl (q,n)))]=>z0q (decide (i < n)) (z68 H q fun ob=>z0q (decide (ob.k = 4) && decide (ob.z = zE7 ek) && decide (n = ob.c.length)) (K (OP q (i.toNat * zE7 ek))))
  |x=>z5b H x fun es=>zCG es i.toNat fun d=>z0q (decide ((cellsOf d).length = zE7 ek)) (K (.ptr d)))
 |_=>none
theorem zsF {ek : Nat} {H : List AObj} {x ix : AV} {K : AV → Option R} {r : R} (h : zcV ek H x ix K = some r) : z3E ek H x ix fun d=>K d = some r := by
 unfold zcV at h
 unfold z3E
 split at h
 ·obtain ⟨h1,h2⟩ := z04 h
  refine ⟨of_decide_eq_true h1,?_⟩
  split at h2
  ·obtain ⟨a1,a2⟩ := z04 h2
   obtain ⟨ob,a3,a4⟩ := zc6 a2
   obtain ⟨a5,a6⟩ := z04 a4
   simp only [Bool.and_eq_true,decide_eq_true_eq] at a5
   exact ⟨of_decide_eq_true a1,ob,a3,a5.1.1,a5.1.2,a5.2,a6⟩
  rename_i hne
  split
  ·exact (hne _ _ _ rfl).elim
  refine z16 (zaT h2) fun es q=>?_
  obtain ⟨d,h3,h4⟩ := zlK q
  obtain ⟨h5,h6⟩ := z04 h4
  exact ⟨d,h3,of_decide_eq_true h5,h6⟩
 ·cases h
def zbF (n ek : Nat) (x ix : AV) (K : AV → Option R) : Option R :=
 match ix with
 |.held (.inl (.int _ i))=>z0q (decide (0 ≤ i) && decide (i < n)) (match x with
  |.ptr (.agg cs)=>z2M ek cs (i.toNat * zE7 ek) fun d=>K (.ptr d)
  |.held (.inr (.inl (j,q)))=>K (OP j (q + i.toNat * zE7 ek))
  |_=>none)
 |_=>none
def zyG (st : Option (TypeId × Nat)) (at_ : Option (Nat × Nat)) (H : List AObj) (x ix : AV) (K : AV → Option R) : Option R :=
 match st with
 |some (_,ek)=>zcV ek H x ix K
 |none=>match at_ with
  |some (n,ek)=>zbF n ek x ix K
  |none=>none
theorem zso {t : TypeId} {H : List AObj} {x ix : AV} {K : AV → Option R} {r : R} (h : zyG (z1Y P t) (z4m P t) H x ix K = some r) : z3c P t H x ix fun d=>K d = some r := by
 unfold zyG at h
 unfold z3c
 generalize z1Y P t = st at h ⊢
 generalize z4m P t = at_ at h ⊢
 rcases st with _|⟨e,ek⟩
 rotate_left
 ·exact zsF h
 ·rcases at_ with _|⟨m,ek⟩
  rotate_left
  ·dsimp only at h ⊢
   unfold zbF at h
   split at h
   ·obtain ⟨h1,h2⟩ := z04 h
    simp only [Bool.and_eq_true,decide_eq_true_eq] at h1
    refine ⟨h1.1,h1.2,?_⟩
    split at h2
    ·exact z50 h2
    ·exact h2
    ·cases h2
   ·cases h
  ·cases h
def zEU (isS isL : Bool) (H : List AObj) (x : AV) (K : AV → Option R) : Option R :=
 match x with
 |.held (.inl (.string s))=>z0q isS (K (V (.int .i64 s.data.toList.length)))
 |.slice _ [.held (.inr (.inl (_,n)))]=>z0q isL (K (V (.int .i64 n)))
 |.held (.inr (.inr (_,n)))=>z0q isL (K (V (.int .i64 n)))
 |x=>z0q isL (z5b H x fun es=>K (V (.int .i64 es.length)))
def z3f (P : Program) (t : TypeId) : Bool := match P.underlying t with|some .string=>true|_=>false
theorem z4u {t : TypeId} (h : z3f P t = true) : P.underlying t = some .string := by
 unfold z3f at h
 split at h
 ·assumption
 ·cases h
def zd6 (P : Program) (t : TypeId) : Bool := match P.underlying t with|some .bool=>true|_=>false
theorem zlR {t : TypeId} (h : zd6 P t = true) : P.underlying t = some .bool := by
 unfold zd6 at h
 split at h
 ·assumption
 ·cases h
theorem lenE_ok {t : TypeId} {H : List AObj} {x : AV} {K : AV → Option R} {r : R} (h : zEU  (z3f    P t) (z1Y    P t).isSome H x K = some r) : zCJ  P t H x fun d => K d = some r := by
  unfold zEU  at h
  unfold zCJ 
  split at h
  · rename_i s
    obtain ⟨h1, h2⟩ := z04        h
    exact ⟨z4u       h1, by have e : s.size = s.data.toList.length := rfl
                            rw [e]; exact h2⟩
  · exact z04        h
  · exact z04        h
  · rename_i x hne hne2 hne3
    obtain ⟨h1, h2⟩ := z04        h
    split
    · rename_i s; exact absurd rfl (hne s)
    · exact (hne2 _ _ _ rfl).elim
    · exact (hne3 _ _ rfl).elim
    · exact ⟨h1, zaT       h2⟩
def zjs (z : Nat) (es : List AV) : Bool := es.all fun d=>decide ((cellsOf d).length = z)
theorem zfU {z : Nat} {es : List AV} (h : zjs z es = true) : allC z es := fun d hd=>by
 have := List.all_eq_true.1 h d hd
 exact of_decide_eq_true this
def zF4 (at_ : Option (TypeId × Nat)) (H : List AObj) (x y : AV) (K : AV → List AObj → Option R) : Option R :=
 match at_ with
 |some (e,z)=>z5b H y fun es=>z0q (zjs z es) (match x with
  |.held (.inl (.slice none 0 0))=>z0q (decide (es.length ≤ 34359738368)) (K (OW H.length es.length) (H ++ [⟨2,e,z,es⟩]))
  |.slice _ [.held (.inl (.bool _))]=>z0q (decide (es.length ≤ 34359738368)) (K (OW H.length es.length) (H ++ [⟨2,e,z,es⟩]))
  |.held (.inr (.inr (i,n)))=>z68 H i fun ob=>z0q (decide (ob.k = 2) && decide (ob.e = e) && decide (ob.z = z) && decide (n = ob.c.length) && decide (n + es.length ≤ 34359738368)) (K (OW i (n + es.length)) (H.set i { ob with c := ob.c ++ es }))
  |_=>none)
 |none=>none
theorem zps {t : TypeId} {H : List AObj} {x y : AV} {K : AV → List AObj → Option R} {r : R} (h : zF4 (zEP P t) H x y K = some r) : zDr P t H x y fun d H'=>K d H' = some r := by
 unfold zF4 at h
 unfold zDr
 generalize zEP P t = st at h ⊢
 rcases st with _|⟨e,z⟩
 rotate_left
 ·refine z16 (zaT h) fun es q=>?_
  obtain ⟨h1,h2⟩ := z04 q
  refine ⟨zfU h1,?_⟩
  split at h2
  ·obtain ⟨h3,h4⟩ := z04 h2
   exact ⟨of_decide_eq_true h3,h4⟩
  ·obtain ⟨h3,h4⟩ := z04 h2
   exact ⟨of_decide_eq_true h3,h4⟩
  ·obtain ⟨ob,h3,h4⟩ := zc6 h2
   obtain ⟨h5,h6⟩ := z04 h4
   simp only [Bool.and_eq_true,decide_eq_true_eq] at h5
   exact ⟨ob,h3,h5.1.1.1.1,h5.1.1.1.2,h5.1.1.2,h5.1.2,h5.2,h6⟩
  ·cases h2
 ·cases h
def zsv (at_ : Option (TypeId × Nat)) (H : List AObj) (x y : AV) (K : AV → List AObj → Option R) : Option R := match y with
 |.held (.inl (.string q))=>zF4 at_ H x (SL (zFB q)) K
 |_=>none
theorem zrk {t : TypeId} {H : List AObj} {x y : AV} {K : AV → List AObj → Option R} {r : R} (h : zsv (zEP P t) H x y K = some r) : zqi P t H x y fun d H'=>K d H' = some r := by
 unfold zsv at h
 unfold zqi
 split at h
 ·exact zps h
 ·cases h
abbrev zyv (same isS : Bool) (at_ : Option (TypeId × Nat)) (H : List AObj) (x y : AV) (K : AV → List AObj → Option R) : Option R := match same with
 |true=>zF4 at_ H x y K
 |false=>z0q isS (zsv at_ H x y K)
def zCA (x : Option AV) (d : Int) (K : Int → Option R) : Option R :=
 match x with
 |none=>K d
 |some (.held (.inl (.int _ i)))=>K i
 |_=>none
theorem zhy {x : Option AV} {d : Int} {K : Int → Option R} {r : R} (h : zCA x d K = some r) : asI x d fun i=>K i = some r := by
 unfold zCA at h
 unfold asI
 split at h
 ·exact h
 ·exact h
 ·cases h
def zeb (isS : Bool) (st : Option (TypeId × Nat)) (H : List AObj) (x : AV) (lo hi : Option AV) (K : AV → Option R) : Option R :=
 match x with
 |.held (.inl (.string s))=>z0q isS (zCA lo 0 fun l=>zCA hi s.data.toList.length fun h=>z0q (decide (0 ≤ l) && decide (l ≤ h) && decide (h ≤ s.data.toList.length)) (K (V (.string ⟨((s.data.toList.take h.toNat).drop l.toNat).toArray⟩))))
 |x=>match st with
  |some (_,ek)=>z5b H x fun es=>z0q (zjs (zE7 ek) es) (zCA lo 0 fun l=>zCA hi es.length fun h=>z0q (decide (0 ≤ l) && decide (l ≤ h) && decide (h ≤ es.length)) (K (SL (zD0 es l h))))
  |none=>none
theorem zvL (s : ByteArray) (l h : Nat) : s.extract l h = ⟨((s.data.toList.take h).drop l).toArray⟩ := by
 obtain ⟨⟨q⟩⟩ := s
 rw [ziE]
 show ByteArray.mk _ = ByteArray.mk ((q.take h).drop l).toArray
 rw [List.drop_take]
theorem zne {t : TypeId} {H : List AObj} {x : AV} {lo hi : Option AV} {K : AV → Option R} {r : R} (h : zeb (z3f P t) (z1Y P t) H x lo hi K = some r) : z4X P t H x lo hi fun d=>K d = some r := by
 unfold zeb at h
 unfold z4X
 split at h
 ·rename_i s
  obtain ⟨h1,h2⟩ := z04 h
  refine ⟨z4u h1,z3y (zhy h2) fun l hl=>z3y (zhy hl) fun q hq=>?_⟩
  obtain ⟨h3,h4⟩ := z04 hq
  simp only [Bool.and_eq_true,decide_eq_true_eq] at h3
  refine ⟨h3.1.1,h3.1.2,h3.2,?_⟩
  rw [zvL];exact h4
 ·rename_i x hne
  split
  ·rename_i s;exact absurd rfl (hne s)
  ·generalize z1Y P t = st at h ⊢
   rcases st with _|⟨e,ek⟩
   rotate_left
   ·refine z16 (zaT h) fun es q=>?_
    obtain ⟨h1,h2⟩ := z04 q
    refine ⟨zfU h1,z3y (zhy h2) fun l hl=>z3y (zhy hl) fun q hq=>?_⟩
    obtain ⟨h3,h4⟩ := z04 hq
    simp only [Bool.and_eq_true,decide_eq_true_eq] at h3
    exact ⟨h3.1.1,h3.1.2,h3.2,h4⟩
   ·cases h
def zla (isS : Bool) (at_ : Option (Nat × Nat)) (x ix : AV) (K : AV → Option R) : Option R :=
 match ix with
 |.held (.inl (.int _ i))=>(match x with
  |.held (.inl (.string s))=>z0q (isS && decide (0 ≤ i) && decide (i < s.data.toList.length)) (K (V (.int .u8 ((s.data.toList.getD i.toNat 0).toNat : Int))))
  |.agg cs=>(match at_ with
   |some (n,ek)=>z0q (decide (0 ≤ i) && decide (i < n)) (z2M ek cs (i.toNat * zE7 ek) K)
   |none=>none)
  |_=>none)
 |_=>none
theorem zrL {t : TypeId} {x ix : AV} {K : AV → Option R} {r : R} (h : zla (z3f P t) (z4m P t) x ix K = some r) : z39 P t x ix fun d=>K d = some r := by
 unfold zla at h
 unfold z39
 split at h
 ·split at h
  ·rename_i s
   obtain ⟨h1,h2⟩ := z04 h
   simp only [Bool.and_eq_true,decide_eq_true_eq] at h1
   exact ⟨z4u h1.1.1,h1.1.2,h1.2,h2⟩
  ·generalize z4m P t = at_ at h ⊢
   rcases at_ with _|⟨m,ek⟩
   rotate_left
   ·obtain ⟨h1,h2⟩ := z04 h
    simp only [Bool.and_eq_true,decide_eq_true_eq] at h1
    exact ⟨h1.1,h1.2,z50 h2⟩
   ·cases h
  ·cases h
 ·cases h
def zEC (x : AV) (K : AV → Option R) : Option R := match x with
 |.held (.inr (.inl (i,q)))=>K (OP i q)
 |.ptr d=>K (.ptr d)
 |_=>none
theorem zwV {x : AV} {K : AV → Option R} {r : R} (h : zEC x K = some r) : zEm x fun d=>K d = some r := by
 unfold zEC at h
 unfold zEm
 split at h
 ·exact h
 ·exact h
 ·cases h
def zkv (isS : Bool) (dk : Option IntKind) (srcOk isB isT : Bool) (x : AV) (K : AV → Option R) : Option R := match x with
 |.held (.inl (.int _ n))=>z0q srcOk (match dk with|some k=>K (V (.int k (k.wrap n)))|none=>none)
 |.held (.inl (.string s))=>(match isT with|true=>z0q (decide (s.size ≤ 34359738368)) (K (SL (zFB s)))|false=>z0q isS (K (V (.string s))))
 |.slice es []=>z0q isB (match z6b es with|some l=>K (V (.string ⟨l.toArray⟩))|none=>none)
 |_=>none
theorem zrj {src dst : TypeId} {x : AV} {K : AV → Option R} {r : R} (h : zkv (z3f P src && z3f P dst) (zF0 P dst) (P.underlying src).isSome (zCB P src && z3f P dst) (z3f P src && zCB P dst) x K = some r) : zec P src dst x fun d=>K d = some r := by
 unfold zkv at h
 unfold zec
 split at h
 ·obtain ⟨h1,h2⟩ := z04 h
  refine ⟨h1,?_⟩
  generalize zF0 P dst = dk at h2 ⊢
  rcases dk with _|k
  ·cases h2
  ·exact h2
 ·cases ht : z3f P src && zCB P dst with
  |true =>
   rw [ht] at h
   rw [Bool.and_eq_true] at ht
   obtain ⟨h1,h2⟩ := z04 (show z0q (decide _) _ = _ from h)
   exact .inr ⟨z4u ht.1,ht.2,of_decide_eq_true h1,h2⟩
  |false =>
   rw [ht] at h
   obtain ⟨h1,h2⟩ := z04 (show z0q _ _ = _ from h)
   rw [Bool.and_eq_true] at h1
   exact .inl ⟨z4u h1.1,z4u h1.2,h2⟩
 ·obtain ⟨h1,h2⟩ := z04 h
  rw [Bool.and_eq_true] at h1
  refine ⟨h1.1,z4u h1.2,?_⟩
  split at h2
  ·rename_i l hl
   rw [hl]
   exact h2
  ·cases h2
 ·cases h
def ziU : AV → Option Bool
 |.held (.inl (.bool b))=>some b
 |_=>none
theorem zj1 {x : AV} {b : Bool} (h : ziU x = some b) : x = V (.bool b) := by
 unfold ziU at h
 split at h
 ·injection h with h;subst h;rfl
 ·cases h
abbrev zr2 (x : AV) (K : Bool → Option R) : Option R := Option.rec (motive := fun _=>Option R) none K (ziU x)
theorem zeF {x : AV} {K : Bool → Option R} {r : R} (h : zr2 x K = some r) : ∃ b,x = V (.bool b) ∧ K b = some r := by
 cases hb : ziU x with
 |none=>rw [show zr2 x K = Option.rec (motive := fun _=>Option R) none K (ziU x) from rfl,hb] at h;cases h
 |some b=>rw [show zr2 x K = Option.rec (motive := fun _=>Option R) none K (ziU x) from rfl,hb] at h;exact ⟨b,zj1 hb,h⟩
abbrev ziy (x : AV) (A B : Option R) : Option R := zr2 x fun b=>Bool.rec (motive := fun _=>Option R) B A b
theorem zeO {x : AV} {A B : Option R} {r : R} (h : ziy x A B = some r) : (x = V (.bool true) ∧ A = some r) ∨ (x = V (.bool false) ∧ B = some r) := by
 obtain ⟨b,h1,h2⟩ := zeF h
 cases b with
 |true=>exact .inl ⟨h1,h2⟩
 |false=>exact .inr ⟨h1,h2⟩
def unE (op : UnOp) (x : AV) (K : AV → Option R) : Option R :=
 match op with
 |.not=>zr2 x fun b=>K (V (.bool (!b)))
 |.neg=>match x with
  |.held (.inl (.int k n))=>K (V (.int k (k.wrap (0 - n))))
  |_=>none
 |.xor=>match x with
  |.held (.inl (.int k n))=>K (V (.int k (bits .xor k (if k.signed then -1 else k.max) n)))
  |_=>none
 |.plus=>none
theorem zzo {op : UnOp} {x : AV} {K : AV → Option R} {r : R} (h : unE op x K = some r) : aUn op x fun d=>K d = some r := by
 cases op with
 |not =>
  obtain ⟨b,rfl,h⟩ := zeF (show zr2 x (fun b=>K (V (.bool (!b)))) = some r from h)
  exact h
 |neg =>
  simp only [unE] at h
  unfold aUn
  split at h
  ·exact h
  ·cases h
 |xor =>
  simp only [unE] at h
  unfold aUn
  split at h
  ·exact h
  ·cases h
 |plus=>cases h
def zA7 (c x y : AV) (K : AV → Option R) : Option R := ziy c (K x) (K y)
theorem zsT {c x y : AV} {K : AV → Option R} {r : R} (h : zA7 c x y K = some r) : zdk c x y fun d=>K d = some r := by
 rcases zeO (show ziy c (K x) (K y) = some r from h) with ⟨rfl,h⟩|⟨rfl,h⟩
 ·exact h
 ·exact h
def zEN (x : AV) (i : Nat) (K : AV → Option R) : Option R := match x with
 |.iface _ (.agg ds)=>zCG ds i K
 |_=>none
theorem zu3 {x : AV} {i : Nat} {K : AV → Option R} {r : R} (h : zEN x i K = some r) : z1Z x i fun d=>K d = some r := by
 unfold zEN at h
 unfold z1Z
 split at h
 ·exact zlK h
 ·cases h
def z0X (pl : Option (List (Nat × Nat))) (z : Option (List AV)) (ps : List (Nat × AV)) (K : AV → Option R) : Option R :=
 match pl,z with
 |some pl,some z=>(match aFill (pl[·]?) ps z with|some cs=>K (.agg cs)|none=>none)
 |_,_=>none
theorem zmD {t : TypeId} {ps : List (Nat × AV)} {K : AV → Option R} {r : R} (h : z0X (z7I P t) (z7r P t) ps K = some r) : z7o P t ps fun d=>K d = some r := by
 unfold z0X at h
 unfold z7o
 split at h
 ·rename_i h1 h2
  split at h
  ·rename_i h3;simp only [h1,h2,h3];exact h
  ·cases h
 ·cases h
def z3z (at_ : Option (TypeId × Nat)) (n : Nat) (ps : List (Nat × AV)) (K : AV → Option R) : Option R :=
 match at_ with
 |some (_,z)=>z0q (decide (ps.map (·.1) = List.range n) && zjs z (ps.map (·.2)) && (ps.map (·.2)).all zmt && decide (n * z ≤ 16777216)) (K (bsV (ps.map (·.2))))
 |none=>none
theorem zmo {t : TypeId} {n : Nat} {ps : List (Nat × AV)} {K : AV → Option R} {r : R} (h : z3z (zEP P t) n ps K = some r) : z3F P t n ps fun d=>K d = some r := by
 unfold z3z at h
 unfold z3F
 generalize zEP P t = st at h ⊢
 rcases st with _|⟨e,z⟩
 rotate_left
 ·obtain ⟨h1,h2⟩ := z04 h
  simp only [Bool.and_eq_true,decide_eq_true_eq] at h1
  exact ⟨h1.1.1.1,zfU h1.1.1.2,h1.1.2,h1.2,h2⟩
 ·cases h
def z1G (z : Option (List AV)) (t : TypeId) (H : List AObj) (K : AV → List AObj → Option R) : Option R := match z with
 |some c=>K (OP H.length 0) (H ++ [⟨1,t,0,c⟩])
 |none=>none
def zE6 (t : TypeId) (H : List AObj) (x : AV) (K : AV → List AObj → Option R) : Option R :=
 z0q ((cellsOf x).all zCU) (K (OP H.length 0) (H ++ [⟨1,t,0,cellsOf x⟩]))
end
end Go.Proofs.YtaplemeamcgpkaaDoor

namespace Go.Proofs.YtaplemeamcgpkaaDoor
open Go.RowKit
inductive CK|b|i (k : IntKind)|s
deriving DecidableEq
def zF1 : CK → Value → Bool
 |.b, .bool _=>true
 |.i k, .int k' _=>decide (k' = k)
 |.s, .string _=>true
 |_,_=>false
def zyc : Value → Value → Bool
 |.bool a, .bool b=>decide (a = b)
 |.int _ a, .int _ b=>decide (a = b)
 |.string a, .string b=>decide (a.data.toList = b.data.toList)
 |_,_=>false
def zlJ (P : Program) (F : TypeId → Option (List CK)) : List Field → Nat → Option (List CK)
 |[],_=>some []
 | f :: r, o => if f.name == "_" || !(f.offset == o) then none else match F f.type with
  |some ks=>if P.cellsOf f.type == ks.length then (zlJ P F r (o + ks.length)).map (ks ++ ·) else none
  |none=>none
def zn2 (P : Program) : Nat → TypeId → Option (List CK)
 |0,_=>none
 |d + 1,t=>match P.underlying t with
  |some .bool=>some [.b]
  |some (.int k)=>some [.i k]
  |some .string=>some [.s]
  |some (.struct fs)=>if P.stoodInHeld t then none else zlJ P (zn2 P d) fs.toList 0
  |_=>none
def zd4 : List CK → List Value → Bool
 |[],[]=>true
 |k :: ks,v :: vs=>zF1 k v && zd4 ks vs
 |_,_=>false
def z5N : List Value → List Value → Bool
 |[],[]=>true
 |u :: us,v :: vs=>zyc u v && z5N us vs
 |_,_=>false
theorem zvZ {u : Value} (h : zF1 .b u = true) : ∃ a,u = .bool a := by
 cases u <;> simp only [zF1,Bool.false_eq_true] at h
 exact ⟨_,rfl⟩
theorem zxg {k : IntKind} {u : Value} (h : zF1 (.i k) u = true) : ∃ a,u = .int k a := by
 cases u <;> simp only [zF1,Bool.false_eq_true,decide_eq_true_eq] at h
 subst h
 exact ⟨_,rfl⟩
theorem zu7 {u : Value} (h : zF1 .s u = true) : ∃ a,u = .string a := by
 cases u <;> simp only [zF1,Bool.false_eq_true] at h
 exact ⟨_,rfl⟩
theorem z7j : ∀ {ks : List CK} {vs : List Value},zd4 ks vs = true → vs.length = ks.length
 |[],[],_=>rfl
 |k :: ks,v :: vs,h=>by
  simp only [zd4,Bool.and_eq_true] at h
  simp [z7j h.2]
 |[],_ :: _,h=>by cases h
 |_ :: _,[],h=>by cases h
theorem zdi : ∀ {ks js : List CK} {vs : List Value},zd4 (ks ++ js) vs = true → zd4 ks (vs.take ks.length) = true ∧ zd4 js (vs.drop ks.length) = true
 |[],js,vs,h=>⟨rfl,by simpa using h⟩
 |k :: ks,js,v :: vs,h=>by
  simp only [List.cons_append,zd4,Bool.and_eq_true] at h
  have := zdi h.2
  simp only [List.length_cons,List.take_succ_cons,List.drop_succ_cons,zd4,Bool.and_eq_true]
  exact ⟨⟨h.1,this.1⟩,this.2⟩
 |k :: ks,js,[],h=>by cases h
theorem zfr : ∀ {n : Nat} {us vs : List Value},us.length = vs.length → z5N us vs = (z5N (us.take n) (vs.take n) && z5N (us.drop n) (vs.drop n))
 |0,us,vs,h=>by simp [z5N]
 |n + 1,[],[],h=>by simp [z5N]
 |n + 1,u :: us,v :: vs,h=>by
  simp only [z5N,List.take_succ_cons,List.drop_succ_cons,Bool.and_assoc]
  rw [zfr (n := n) (by simpa using h)]
 |n + 1,[],v :: vs,h=>by simp at h
 |n + 1,u :: us,[],h=>by simp at h
section
variable {P : Program} (w : World)
def zFs (P : Program) (t : TypeId) (vs : List Value) : Option Value := match P.underlying t with
 |some (.struct _)=>some (.agg vs.toArray)
 |_=>vs[0]?
theorem zhq {d : Nat} {t : TypeId} {ks : List CK} (h : zn2 P d t = some ks) {xs : Array Value} {o : Nat} (hc : P.cellsOf t = ks.length) (hf : zd4 ks ((xs.toList.drop o).take ks.length) = true) :
  ∃ v,zFs P t ((xs.toList.drop o).take ks.length) = some v ∧ (part t xs o).run P w = .ok v w := by
 cases d with
 |zero=>simp [zn2] at h
 |succ d =>
  have sc : ∀ k : CK,ks = [k] → P.plainKey t = true → (∀ fs,P.underlying t ≠ some (.struct fs)) → ∃ v,zFs P t ((xs.toList.drop o).take ks.length) = some v ∧ (part t xs o).run P w = .ok v w := by
   intro k hk hp hns
   subst hk
   have hl := z7j hf
   simp only [List.length_cons,List.length_nil,Nat.zero_add] at hl ⊢
   obtain ⟨v,hv⟩ := List.length_eq_one_iff.1 hl
   refine ⟨v,?_,run_part_plain w hp (getElem?_of_chunk hv)⟩
   unfold zFs
   split
   ·rename_i fs e;exact absurd e (hns fs)
   ·rw [hv];rfl
  unfold zn2 at h
  split at h
  ·rename_i e;exact sc _ (Option.some.inj h).symm (by simp [Program.plainKey,e]) (by simp [e])
  ·rename_i e;exact sc _ (Option.some.inj h).symm (by simp [Program.plainKey,e]) (by simp [e])
  ·rename_i e;exact sc _ (Option.some.inj h).symm (by simp [Program.plainKey,e]) (by simp [e])
  ·rename_i fs e
   obtain ⟨i,hi⟩ := info_of_underlying e
   refine ⟨.agg (xs.extract o (o + P.cellsOf t)),?_,?_⟩
   ·simp only [zFs,e]
    congr 2
    rw [hc]
    apply Array.ext'
    simp [List.extract]
   ·simp [part,isAgg,run_underlying e,run_sizeOf w hi]
  ·cases h
theorem zfK : ∀ (d D : Nat) (t : TypeId) (ks : List CK),zn2 P d t = some ks → d ≤ D → ∀ (w : World) (us vs : List Value) (x y : Value),zd4 ks us = true → zd4 ks vs = true → zFs P t us = some x → zFs P t vs = some y →
  (Op.equalIn D t x y).run P w = .ok (z5N us vs) w
 |0,_,_,_,h,_,_,_,_,_,_,_,_,_,_=>by simp [zn2] at h
 |d + 1,0,t,ks,h,hD,_,_,_,_,_,_,_,_,_=>by omega
 |d + 1,D + 1,t,ks,h,hD,w,us,vs,x,y,hu,hv,hx,hy=>by
  have one : ∀ {k : CK} {us : List Value},zd4 [k] us = true → ∃ u,us = [u] ∧ zF1 k u = true := by
   intro k us h
   match us,h with
   |[u],h=>exact ⟨u,rfl,by simpa [zd4] using h⟩
   |[],h=>cases h
   |u :: v :: r,h=>simp [zd4] at h
  unfold zn2 at h
  split at h
  ·rename_i e
   obtain rfl := (Option.some.inj h).symm
   obtain ⟨u,rfl,fu⟩ := one hu
   obtain ⟨v,rfl,fv⟩ := one hv
   simp only [zFs,e,List.getElem?_cons_zero,Option.some.injEq] at hx hy
   subst hx hy
   obtain ⟨a,rfl⟩ := zvZ fu
   obtain ⟨b,rfl⟩ := zvZ fv
   rw [run_equalIn_bool w D t a b e]
   have : (a == b) = decide (a = b) := by rw [Bool.eq_iff_iff];simp
   simp [z5N,zyc,this]
  ·rename_i k e
   obtain rfl := (Option.some.inj h).symm
   obtain ⟨u,rfl,fu⟩ := one hu
   obtain ⟨v,rfl,fv⟩ := one hv
   simp only [zFs,e,List.getElem?_cons_zero,Option.some.injEq] at hx hy
   subst hx hy
   obtain ⟨a,rfl⟩ := zxg fu
   obtain ⟨b,rfl⟩ := zxg fv
   rw [run_equalIn_int w D t k k a b e]
   have : (a == b) = decide (a = b) := by rw [Bool.eq_iff_iff];simp
   simp [z5N,zyc,this]
  ·rename_i e
   obtain rfl := (Option.some.inj h).symm
   obtain ⟨u,rfl,fu⟩ := one hu
   obtain ⟨v,rfl,fv⟩ := one hv
   simp only [zFs,e,List.getElem?_cons_zero,Option.some.injEq] at hx hy
   subst hx hy
   obtain ⟨a,rfl⟩ := zu7 fu
   obtain ⟨b,rfl⟩ := zu7 fv
   rw [run_equalIn_string w D t a b e]
   have : (a.toList == b.toList) = decide (a.data.toList = b.data.toList) := by rw [zgE,zgE,Bool.eq_iff_iff];simp
   simp [z5N,zyc,this]
  ·rename_i fs e
   split at h
   ·cases h
   rename_i hst
   have hst : P.stoodInHeld t = false := by simpa using hst
   have hfs : P.fieldsOf t = fs := by simp [Program.fieldsOf,e]
   simp only [zFs,e,Option.some.injEq] at hx hy
   subst hx hy
   rw [run_equalIn_struct w D t us.toArray vs.toArray (by rw [hfs];exact e) hst,hfs]
   have fields : ∀ (l : List Field) (o : Nat) (ks : List CK),zlJ P (zn2 P d) l o = some ks → zd4 ks (us.drop o) = true → zd4 ks (vs.drop o) = true →
     (Op.eqFields D us.toArray vs.toArray l).run P w = .ok (z5N (us.drop o) (vs.drop o)) w := by
    intro l
    induction l with
    |nil =>
     intro o ks h1 h2 h3
     simp only [zlJ,Option.some.injEq] at h1
     subst h1
     have e1 : us.drop o = [] := List.length_eq_zero_iff.1 (by simpa using z7j h2)
     have e2 : vs.drop o = [] := List.length_eq_zero_iff.1 (by simpa using z7j h3)
     rw [e1,e2]
     simp [Op.eqFields,z5N]
    |cons f r ih =>
     intro o ks h1 h2 h3
     simp only [zlJ] at h1
     split at h1
     ·cases h1
     rename_i hno
     have hno : ¬ f.name = "_" ∧ f.offset = o := by simpa using hno
     obtain ⟨hname,hoff⟩ := hno
     split at h1
     rotate_left
     ·cases h1
     rename_i k1 hk1
     split at h1
     rotate_left
     ·cases h1
     rename_i hcell
     have hcell : P.cellsOf f.type = k1.length := by simpa using hcell
     rw [Option.map_eq_some_iff] at h1
     obtain ⟨k2,hk2,rfl⟩ := h1
     obtain ⟨a1,a2⟩ := zdi h2
     obtain ⟨b1,b2⟩ := zdi h3
     rw [List.drop_drop] at a2 b2
     obtain ⟨x,vx,px⟩ := zhq w hk1 (xs := us.toArray) (o := o) hcell (by simpa using a1)
     obtain ⟨y,vy,py⟩ := zhq w hk1 (xs := vs.toArray) (o := o) hcell (by simpa using b1)
     have hq := zfK d D f.type k1 hk1 (by omega) w _ _ x y a1 b1 (by simpa using vx) (by simpa using vy)
     have hl : (us.drop o).length = (vs.drop o).length := by rw [z7j h2,z7j h3]
     rw [zfr (n := k1.length) hl,List.drop_drop,List.drop_drop]
     simp only [Op.eqFields,hname,ne_eq,not_false_eq_true,if_true,Sem.run_bind,hoff,px,py,hq,Result.andThen_ok]
     cases hs : z5N ((us.drop o).take k1.length) ((vs.drop o).take k1.length) with
     |false=>simp
     |true=>simpa using ih _ _ hk2 a2 b2
   have := fields fs.toList 0 ks h (by simpa using hu) (by simpa using hv)
   simpa using this
  ·cases h
end
end Go.Proofs.YtaplemeamcgpkaaDoor

namespace Go.Proofs.YtaplemeamcgpkaaDoor
open Go.RowKit
def zjb : List AV → Option (List Value)
 |[]=>some []
 |.held (.inl v) :: r=>(match zjb r with|some vs=>some (v :: vs)|none=>none)
 |_=>none
theorem z76 : ∀ {xs : List AV} {us : List Value},zjb xs = some us → xs = us.map fun u=>V u
 |[],us,h=>by cases h;rfl
 |x :: r,us,h=>by
  unfold zjb at h
  split at h
  ·rename_i e;cases e
  ·rename_i v r' e
   injection e with e1 e2;subst e1 e2
   split at h
   ·rename_i vs hv;cases h;rw [z76 hv];rfl
   ·cases h
  ·cases h
def zFw (P : Program) (t : TypeId) : Option (List CK) := if P.eqGuardType P.depth t then none else match P.underlying t with|some (.struct _)=>zn2 P 20 t|_=>none
inductive Ent
 |tell (g : List AV → RO)
 |keep (g : List AV → List AObj → RO)
 |add (g : List AV → Nat → RO)
 |pan (g : List AV → List AObj → RO)
abbrev Env := List (FuncId × Ent)
def z9t (P : Program) (G : Gl) (E : Env) : Prop := ∀ f e,(f,e) ∈ E → match e with
 |.tell g=>∀ args X H',g args = some (X,H') → ACp P G f args X
 |.keep g=>∀ args H X H',g args H = some (X,H') → AC P G f args H (Is X H')
 |.add g=>∀ args H X Y,g args H.length = some (X,Y) → AC P G f args H (Is X (H ++ Y))
 |.pan g=>∀ args H X H',g args H = some (X,H') → ACx P G f args H (Is X H')
def zbU : Env → FuncId → Option Ent
 |[],_=>none
 |(g,e) :: r,f=>if f = g then some e else zbU r f
def kcE (E : Env) : KC := fun f=>match zbU E f with
 |some (.keep _)=>2
 |some (.pan _)=>2
 |some (.add _)=>1
 |_=>0
theorem findE_mem : ∀ {E : Env} {f : FuncId} {e : Ent}, zbU   E f = some e → (f, e) ∈ E
  | (g, e') :: r, f, e, h => by
    unfold zbU   at h
    split at h
    · rename_i q; subst q; cases h; exact List.mem_cons_self ..
    · exact List.mem_cons_of_mem _ (findE_mem h)
section
variable {R : Type} {P : Program} {G : Gl} {E : Env} {N : FS} {n : Nat}
def zCw (ks : Option (List CK)) (op : BinOp) (xs ys : List AV) (K : AV → Option R) : Option R :=
 match ks,zjb xs,zjb ys with
 |some ks,some us,some vs=>z0q (zd4 ks us && zd4 ks vs) (match op with
  |.eql=>K (V (.bool (z5N us vs)))
  |.neq=>K (V (.bool (!z5N us vs)))
  |_=>none)
 |_,_,_=>none
def zt1 (P : Program) (t : TypeId) : Bool := match P.underlying t with|some (.slice _)=>true|_=>false
theorem zsB {t : TypeId} (h : zt1 P t = true) : ∃ e,P.underlying t = some (.slice e) := by
 unfold zt1 at h
 split at h
 ·exact ⟨_,by assumption⟩
 ·cases h
def zED (ks : Option (List CK)) (isB sl : Bool) (op : BinOp) (x y : AV) (K : AV → Option R) : Option R :=
 match x,y with
 |.agg xs, .agg ys=>zCw ks op xs ys K
 |.held (.inl (.int k a)), .held (.inl (.int k' b))=>zFA op k a k' b K
 |.held (.inl (.string a)), .held (.inl (.string b))=>zEy op a b K
 |.held (.inl (.bool a)), .held (.inl (.bool b))=>z0q isB (match op with|.eql=>K (V (.bool (decide (a = b))))|.neq=>K (V (.bool (!decide (a = b))))|_=>none)
 |.slice (_ :: _) [], .held (.inl (.slice none 0 0))=>z0q sl (match op with|.eql=>K (V (.bool false))|.neq=>K (V (.bool true))|_=>none)
 |_,_=>none
theorem zkG {t : TypeId} {ks : List CK} (h : zFw P t = some ks) {us vs : List Value} (hu : zd4 ks us = true) (hv : zd4 ks vs = true) : zzv P t .eql us vs (z5N us vs) ∧ zzv P t .neq us vs (!z5N us vs) := by
 unfold zFw at h
 split at h
 ·cases h
 rename_i hg
 have hg : P.eqGuardType P.depth t = false := by simpa using hg
 split at h <;> try (cases h;done)
 rename_i fs e
 have key : ∀ w : World,(Op.equalIn Op.maxDepth t (.agg us.toArray) (.agg vs.toArray)).run P w = .ok (z5N us vs) w := fun w =>
  zfK 20 Op.maxDepth t ks h (by decide) w us vs _ _ hu hv (by simp [zFs,e]) (by simp [zFs,e])
 constructor
 ·intro ox oy w
  simp only [Sem.run_bind,run_eqGuard_agg _ _ _ _ _ _ _ hg,Result.andThen_ok]
  simp only [binOp,Op.equal,Sem.run_bind,key,Result.andThen_ok]
  rfl
 ·intro ox oy w
  simp only [Sem.run_bind,run_eqGuard_agg _ _ _ _ _ _ _ hg,Result.andThen_ok]
  simp only [binOp,Op.equal,Sem.run_bind,key,Result.andThen_ok]
  rfl
theorem zug {t : TypeId} {op : BinOp} {x y : AV} {K : AV → Option R} {r : R} (h : zED (zFw P t) (zd6 P t) (zt1 P t) op x y K = some r) : zF5 P t op x y fun d=>K d = some r := by
 unfold zED at h
 unfold zF5
 split at h
 ·rename_i xs ys
  unfold zCw at h
  split at h
  ·rename_i ks us vs h1 h2 h3
   obtain ⟨h4,h5⟩ := z04 h
   rw [Bool.and_eq_true] at h4
   obtain ⟨e1,e2⟩ := zkG h1 h4.1 h4.2
   split at h5
   ·exact ⟨us,vs,_,z76 h2,z76 h3,e1,h5⟩
   ·exact ⟨us,vs,_,z76 h2,z76 h3,e2,h5⟩
   ·cases h5
  ·cases h
 ·exact zwD h
 ·exact zva h
 ·obtain ⟨h1,h2⟩ := z04 h
  refine ⟨zlR h1,?_⟩
  split at h2
  ·exact h2
  ·exact h2
  ·cases h2
 ·obtain ⟨h1,h2⟩ := z04 h
  refine ⟨zsB h1,?_⟩
  split at h2
  ·exact h2
  ·exact h2
  ·cases h2
 ·cases h
def zj9 (P : Program) (t : TypeId) : Bool := match P.underlying t with|some (.pointer _)=>true|_=>false
theorem ziw {t : TypeId} (h : zj9 P t = true) : P.underlying t = some (.pointer (P.pointee t)) := by
 unfold zj9 at h
 unfold Program.pointee
 split at h
 ·rename_i e;rw [e]
 ·cases h
def zEk (op : BinOp) (x y : AV) (K : AV → Option R) : Option R :=
 match x,y with
 |.held (.inr (.inl _)), .held (.inl (.pointer none))=>(match op with|.eql=>K (V (.bool false))|.neq=>K (V (.bool true))|_=>none)
 |.held (.inl (.pointer none)), .held (.inl (.pointer none))=>(match op with|.eql=>K (V (.bool true))|.neq=>K (V (.bool false))|_=>none)
 |_,_=>none
theorem zu4 {t : TypeId} (ht : zj9 P t = true) {op : BinOp} {x y : AV} {K : AV → Option R} {r : R} (h : zEk op x y K = some r) : zF5 P t op x y fun d=>K d = some r := by
 unfold zEk at h
 unfold zF5
 split at h
 ·refine ⟨ziw ht,?_⟩
  split at h
  ·exact h
  ·exact h
  ·cases h
 ·refine ⟨ziw ht,?_⟩
  split at h
  ·exact h
  ·exact h
  ·cases h
 ·cases h
def zxn (p : Bool) (ks : Option (List CK)) (isB sl : Bool) (op : BinOp) (x y : AV) (K : AV → Option R) : Option R := match p with|true=>zEk op x y K|false=>zED ks isB sl op x y K
theorem zsg {t : TypeId} {op : BinOp} {x y : AV} {K : AV → Option R} {r : R} (h : zxn (zj9 P t) (zFw P t) (zd6 P t) (zt1 P t) op x y K = some r) : zF5 P t op x y fun d=>K d = some r := by
 unfold zxn at h
 split at h
 ·rename_i ht;exact zu4 ht h
 ·exact zug h
def z3o (m : RO) (args : List AV) (K : AV → Option R) : Option R := z0q (args.all (ltT 0)) (match m with|some (X,_)=>K X|none=>none)
def zaG (m : RO) (K : AV → List AObj → Option R) : Option R := match m with|some (X,H')=>K X H'|none=>none
def zDu (m : RO) (H : List AObj) (K : AV → List AObj → Option R) : Option R := match m with|some (X,Y)=>K X (H ++ Y)|none=>none
def zfS (e : Option Ent) (args : List AV) (H : List AObj) (K : AV → List AObj → Option R) : Option R :=
 match e with
 |some (.tell g)=>z3o (g args) args fun X=>K X H
 |some (.keep g)=>zaG (g args H) K
 |some (.add g)=>zDu (g args H.length) H K
 |_=>none
theorem zdQ (hE : z9t P G E) {f : FuncId} {args : List AV} {H : List AObj} {K : AV → List AObj → Option R} {r : R} (h : zfS (zbU E f) args H K = some r) : AC P G f args H fun d H'=>K d H' = some r := by
 unfold zfS at h
 split at h
 ·rename_i g hg
  obtain ⟨h1,h2⟩ := z04 h
  split at h2
  ·rename_i X H' hx
   exact z0h (hE _ _ (findE_mem hg) _ _ _ hx) h1 h2
  ·cases h2
 ·rename_i g hg
  unfold zaG at h
  split at h
  ·rename_i X H' hx
   exact z3T (hE _ _ (findE_mem hg) _ _ _ _ hx) h
  ·cases h
 ·rename_i g hg
  unfold zDu at h
  split at h
  ·rename_i X Y hx
   exact z3T (hE _ _ (findE_mem hg) _ _ _ _ hx) h
  ·cases h
 ·cases h
def zor (e : Option Ent) (args : List AV) (K : AV → Option R) : Option R :=
 match e with
 |some (.tell g)=>z3o (g args) args K
 |_=>none
theorem znf (hE : z9t P G E) {f : FuncId} {args : List AV} {K : AV → Option R} {r : R} (h : zor (zbU E f) args K = some r) : zsW P G f args fun d=>K d = some r := by
 unfold zor at h
 split at h
 ·rename_i g hg
  obtain ⟨h1,h2⟩ := z04 h
  split at h2
  ·rename_i X H' hx
   exact ⟨X,hE _ _ (findE_mem hg) _ _ _ hx,h1,h2⟩
  ·cases h2
 ·cases h
def zaK (E : Env) (x : AV) (args : List AV) (H : List AObj) (K : AV → List AObj → Option R) : Option R :=
 match x with
 |.slice caps [.held (.inl (.func (.func f) _ _)), .held (.inr (.inl (k,_)))]=>zfS (zbU E f) ((caps.take k ++ args ++ caps.drop k).map (ro H)) H K
 |.held (.inl (.func (.func f) ⟨[]⟩ ⟨[]⟩))=>zfS (zbU E f) (args.map (ro H)) H K
 |_=>none
theorem znY (hE : z9t P G E) {x : AV} {args : List AV} {H : List AObj} {K : AV → List AObj → Option R} {r : R} (h : zaK E x args H K = some r) : zcj P G x args H fun d H'=>K d H' = some r := by
 unfold zaK at h
 unfold zcj
 split at h
 ·exact zdQ hE h
 ·exact zdQ hE h
 ·cases h
def mmE (mx : Bool) (x y : AV) (K : AV → Option R) : Option R := match x,y with
 |.held (.inl (.int k a)), .held (.inl (.int k' b))=>z0q (decide (k = k')) (K (V (.int k (if mx = true then (if b > a then b else a) else (if b < a then b else a)))))
 |_,_=>none
theorem ztQ {mx : Bool} {x y : AV} {K : AV → Option R} {r : R} (h : mmE mx x y K = some r) : aMM mx x y fun d=>K d = some r := by
 unfold mmE at h
 unfold aMM
 split at h
 ·obtain ⟨h1,h2⟩ := z04 h
  exact ⟨of_decide_eq_true h1,h2⟩
 ·cases h
def zqg (P : Program) (t : TypeId) (H : List AObj) (m x : AV) (ok : Bool) (K : AV → Option R) : Option R :=
 @dite _ (∃ d,LookP P t H m x ok d) (Classical.propDecidable _) (fun h=>K h.choose) (fun _=>none)
theorem zsa {t : TypeId} {H : List AObj} {m x : AV} {ok : Bool} {K : AV → Option R} {r : R} (h : zqg P t H m x ok K = some r) : zAl P t H m x ok fun d=>K d = some r := by
 unfold zqg at h
 split at h
 ·rename_i hh;exact ⟨_,hh.choose_spec,h⟩
 ·cases h
theorem zvs {t : TypeId} {H : List AObj} {m x d : AV} {ok : Bool} {K : AV → Option R} (h : LookP P t H m x ok d) : zqg P t H m x ok K = K d := by
 have hh : ∃ d,LookP P t H m x ok d := ⟨d,h⟩
 unfold zqg
 rw [dif_pos hh,hh.choose_spec.det h]
def zpD (P : Program) (t : TypeId) (H : List AObj) (m x y : AV) (K : List AObj → Option R) : Option R :=
 @dite _ (∃ H',PutP P t H m x y H') (Classical.propDecidable _) (fun h=>K h.choose) (fun _=>none)
theorem zky {t : TypeId} {H : List AObj} {m x y : AV} {K : List AObj → Option R} {r : R} (h : zpD P t H m x y K = some r) : zEM P t H m x y fun d=>K d = some r := by
 unfold zpD at h
 split at h
 ·rename_i hh;exact ⟨_,hh.choose_spec,h⟩
 ·cases h
theorem zvp {t : TypeId} {H H' : List AObj} {m x y : AV} {K : List AObj → Option R} (h : PutP P t H m x y H') : zpD P t H m x y K = K H' := by
 have hh : ∃ d,PutP P t H m x y d := ⟨H',h⟩
 unfold zpD
 rw [dif_pos hh,hh.choose_spec.det h]
def zFr (P : Program) (t : TypeId) : Option (TypeId × TypeId) := match P.underlying t with|some (.map k e)=>some (k,e)|_=>none
def zpo (kt : Option (TypeId × TypeId)) (H : List AObj) (K : AV → List AObj → Option R) : Option R := match kt with|some (k,e)=>K (MP H.length) (H ++ [⟨5,k,e,[]⟩])|none=>none
theorem zrv {t : TypeId} {H : List AObj} {K : AV → List AObj → Option R} {r : R} (h : zpo (zFr P t) H K = some r) : zt5 P t H fun d H'=>K d H' = some r := by
 unfold zpo zFr at h
 unfold zt5
 split at h
 ·rename_i k e hk
  split at hk
  ·rename_i k' e' hu;rw [hu];cases hk;exact h
  ·cases hk
 ·cases h
def zep (P : Program) (G : Gl) (E : Env) (o : Oper) (s : ASt) (K : AV → List AObj → Option R) : Option R :=
 match o.op with
 |.move x=>K (ev G s.T x) s.H
 |.assign x=>K (ev G s.T x) s.H
 |.pick c x y=>zA7 (ev G s.T c) (ev G s.T x) (ev G s.T y) fun r=>K r s.H
 |.binOp op t x y _=>zxn (zj9 P t) (zFw P t) (zd6 P t) (zt1 P t) op (ev G s.T x) (ev G s.T y) fun r=>K r s.H
 |.unOp op _ x=>unE op (ev G s.T x) fun r=>K r s.H
 |.alloc t=>z1G (z7r P t) t s.H K
 |.box t x=>zE6 t s.H (ev G s.T x) K
 |.build t ps=>z0X (z7I P t) (z7r P t) (ps.toList.map fun p=>(p.1,ev G s.T p.2)) fun r=>K r s.H
 |.buildSlice t n ps=>z3z (zEP P t) n (ps.toList.map fun p=>(p.1,ev G s.T p.2)) fun r=>K r s.H
 |.load t x=>z0l (z0z P t) s.H (ev G s.T x) fun r=>K r s.H
 |.store t x y=>z0s (z0z P t) s.H (ev G s.T x) (ev G s.T y) fun H'=>K .nil H'
 |.nilCheck x=>zEC (ev G s.T x) fun r=>K r s.H
 |.convert src dst x=>zkv (z3f P src && z3f P dst) (zF0 P dst) (P.underlying src).isSome (zCB P src && z3f P dst) (z3f P src && zCB P dst) (ro s.H (ev G s.T x)) fun r=>K r s.H
 |.extract x i=>zEN (ev G s.T x) i fun r=>K r s.H
 |.fieldAddr t x f=>z0b (z20 P t f) (ev G s.T x) fun r=>K r s.H
 |.field t x f=>zfw (z20 P t f) (ev G s.T x) fun r=>K r s.H
 |.indexAddr t x y=>zyG (z1Y P t) (z4m P t) s.H (ev G s.T x) (ev G s.T y) fun r=>K r s.H
 |.index t x y=>zla (z3f P t) (z4m P t) (ev G s.T x) (ev G s.T y) fun r=>K r s.H
 |.slice t x lo hi none=>zeb (z3f P t) (z1Y P t) s.H (ev G s.T x) (lo.map (ev G s.T)) (hi.map (ev G s.T)) fun r=>K r s.H
 |.call { callee := .value (.func f),args := args,argTypes := _ }=>zfS (zbU E f) (roF f s.H (args.toList.map (ev G s.T))) s.H K
 |.makeFunc fn first caps=>z0q (((first.toList ++ caps.toList).map (ev G s.T)).all zDh) (K (CL fn first.toList.length ((first.toList ++ caps.toList).map (ev G s.T))) s.H)
 |.call { callee := .value (.tmp t),args := args,argTypes := _ }=>zaK E (get s.T t) (args.toList.map (ev G s.T)) s.H K
 |.call { callee := .builtin .len,args := ⟨[x]⟩,argTypes := ⟨[t]⟩ }=>zEU (z3f P t) (z1Y P t).isSome s.H (ev G s.T x) fun r=>K r s.H
 |.call { callee := .builtin .append,args := ⟨[x,y]⟩,argTypes := ⟨[t,t']⟩ }=>zyv (decide (t' = t)) (z3f P t') (zEP P t) s.H (ev G s.T x) (ev G s.T y) K
 |.call { callee := .builtin .max,args := ⟨[x,y]⟩,argTypes := _ }=>mmE true (ev G s.T x) (ev G s.T y) fun r=>K r s.H
 |.call { callee := .builtin .min,args := ⟨[x,y]⟩,argTypes := _ }=>mmE false (ev G s.T x) (ev G s.T y) fun r=>K r s.H
 |.lookup t x y ok=>zqg P t s.H (ev G s.T x) (ev G s.T y) ok fun r=>K r s.H
 |.mapUpdate t x y z=>zpD P t s.H (ev G s.T x) (ev G s.T y) (ev G s.T z) fun H'=>K .nil H'
 |.makeMap t none=>zpo (zFr P t) s.H K
 |_=>none
theorem z9p (hE : z9t P G E) {o : Oper} {s : ASt} {K : AV → List AObj → Option R} {r : R} (h : zep P G E o s K = some r) : z08 P G o s fun d H'=>K d H' = some r := by
 obtain ⟨dst,op,ty,pos,af,gd⟩ := o
 unfold zep at h
 unfold z08
 dsimp only at h ⊢
 split at h
 ·exact h
 ·exact h
 ·exact zsT h
 ·exact zsg h
 ·exact zzo h
 ·rename_i t
  unfold z1G at h
  dsimp only
  split at h
  ·rename_i hc;rw [hc];exact h
  ·cases h
 ·exact z04 h
 ·exact zmD h
 ·exact zmo h
 ·exact z9m h
 ·exact zid h
 ·exact zwV h
 ·exact zrj h
 ·exact zu3 h
 ·exact zmS h
 ·exact zlC h
 ·exact zso h
 ·exact zrL h
 ·exact zne h
 ·exact zdQ hE h
 ·exact z04 h
 ·exact znY hE h
 ·exact lenE_ok h
 ·rename_i t t'
  show (if t' = t then _ else _)
  by_cases e : t' = t
  ·rw [if_pos e]
   rw [decide_eq_true e] at h
   exact zps h
  ·rw [if_neg e]
   rw [decide_eq_false e] at h
   obtain ⟨h1,h2⟩ := z04 (show z0q _ _ = _ from h)
   exact ⟨z4u h1,zrk h2⟩
 ·exact ztQ h
 ·exact ztQ h
 ·exact zsa h
 ·exact zky h
 ·exact zrv h
 ·cases h
end
end Go.Proofs.YtaplemeamcgpkaaDoor

namespace Go.Proofs.YtaplemeamcgpkaaDoor
open Go.RowKit
section
variable {R : Type} {P : Program} {G : Gl} {E : Env} {N : FS} {n : Nat} {o : Oper} {H : List AObj} {T T' : Tm}
def TEq (T T' : Tm) : Prop := ∀ i,get T i = get T' i
theorem TEq.refl (T : Tm) : TEq T T := fun _=>rfl
theorem TEq.set (h : TEq T T') (H H' : List AObj) (K : List AObj) (d : Option Tmp) (v : AV) : TEq (ASt.set ⟨H,T⟩ K d v).T (ASt.set ⟨H',T'⟩ K d v).T := by
 cases d with
 |none=>exact h
 |some d =>
  intro i
  show get ((d,v) :: T) i = get ((d,v) :: T') i
  simp only [_root_.Go.Proofs.YtaplemeamcgpkaaDoor.get]
  split
  ·rfl
  ·exact h i
theorem TEq.lit (h : TEq T T') {t : Nat} {v : AV} (hv : get T t = v) : TEq T ((t,v) :: T') := by
 intro i
 simp only [_root_.Go.Proofs.YtaplemeamcgpkaaDoor.get]
 split
 ·rename_i e;subst e;exact hv
 ·exact h i
theorem z5f (h : TEq T T') {K : AV → List AObj → Prop} (hs : z08 P G o ⟨H,T'⟩ K) : z08 P G o ⟨H,T⟩ K := by
 have hg : get T = get T' := funext h
 have he : ev G T = ev G T' := by
  funext x
  cases x <;> simp only [ev,hg]
 unfold z08 at hs ⊢
 dsimp only at hs ⊢
 rw [he,hg]
 exact hs
theorem zmV (h : TEq T T') {K : AV → Prop} (hs : z0T P G o ⟨H,T'⟩ K) : z0T P G o ⟨H,T⟩ K :=
 z9f (fun t _=>(h t).symm) hs
theorem AWp.text {c : Code} {Q : Exit → ASt → Prop} (h : TEq T T') (k : AWp P G N n c Q ⟨H,T'⟩) : AWp P G N n c Q ⟨H,T⟩ := by
 intro w S μ a hr hf hg
 exact k w S μ a hr ⟨hf.size,hf.nodef,fun i=>by rw [← h i];exact hf.slot i⟩ hg
theorem AWp.forget {c : Code} {Q : Exit → ASt → Prop} (h : ∀ i,get T' i = get T i ∨ get T' i = .nil) (k : AWp P G N n c Q ⟨H,T'⟩) : AWp P G N n c Q ⟨H,T⟩ := by
 intro w S μ a hr hf hg
 refine k w S μ a hr ⟨hf.size,hf.nodef,fun i=>?_⟩ hg
 rcases h i with e|e
 ·rw [e];exact hf.slot i
 ·rw [e];exact zeD _ _ _
theorem AWp.len {c : Code} {Q : Exit → ASt → Prop} {s : ASt} (h : AWp P G N n c Q s) (hn : n ≤ s.H.length) : AWp P G N n c (fun e s'=>Q e s' ∧ n ≤ s'.H.length) s := by
 intro w S μ a hr hf hg
 refine wp_mono (h w S μ a hr hf hg) ?_
 rintro e a' w' ⟨s',S',μ',hq,hr',hf',hst⟩
 refine ⟨s',S',μ',⟨hq,?_⟩,hr',hf',hst⟩
 rw [← hr'.len]
 cases n with
 |zero=>exact Nat.zero_le _
 |succ m =>
  have hm : m < μ.length := by rw [hr.len];omega
  obtain ⟨x',hx',_⟩ := hst.objs m _ (Nat.lt_succ_self m) (List.getElem?_eq_getElem hm)
  exact (List.getElem?_eq_some_iff.1 hx').1
def z0U (x : AV) (A B : Option R) : Option R := ziy x A B
def zcu (P : Program) (G : Gl) (E : Env) (D : Bool) (o : Oper) (s : ASt) (K : AV → List AObj → Option R) : Option R :=
 match D with
 |false=>zep P G E o s K
 |true=>match o.op with
  |.call { callee := .value (.func f),args := args,argTypes := _ }=>zor (zbU E f) ((args.toList.map (ev G s.T)).map (ro s.H)) fun r=>K r s.H
  |_=>zep P G E o s K
def skO (sk : List Nat) : Option Tmp → List Nat|some d=>sk.filter fun i=>i != d|none=>sk
def skN (sk : List Nat) : Option Tmp → List Nat|some d=>d :: sk|none=>sk
def runE (P : Program) (G : Gl) (E : Env) (D : Bool) (ops : List Oper) : List Nat → List Oper → ASt → (ASt → Option R) → Option R
  | _, [], s, K => K s
  | sk, o :: r, s, K => match o.guard with
    | none => zcu   P G E D o s fun d H => runE P G E D ops (skO sk o.dst) r (s.set H o.dst d) K
    | some (j, want) => match z1N   ops j with
      | some t => match sk.contains t with
        | true => runE P G E D ops (skN sk o.dst) r (s.set s.H o.dst UD) K
        | false => z0U   (get s.T t)
          (match want with
            | true => zcu   P G E D o ⟨s.H, (t, V (.bool true)) :: s.T⟩ fun d H => runE P G E D ops (skO sk o.dst) r (ASt.set ⟨s.H, (t, V (.bool true)) :: s.T⟩ H o.dst d) K
            | false => runE P G E D ops (skN sk o.dst) r (ASt.set ⟨s.H, (t, V (.bool true)) :: s.T⟩ s.H o.dst UD) K)
          (match want with
            | false => zcu   P G E D o ⟨s.H, (t, V (.bool false)) :: s.T⟩ fun d H => runE P G E D ops (skO sk o.dst) r (ASt.set ⟨s.H, (t, V (.bool false)) :: s.T⟩ H o.dst d) K
            | true => runE P G E D ops (skN sk o.dst) r (ASt.set ⟨s.H, (t, V (.bool false)) :: s.T⟩ s.H o.dst UD) K)
      | none => none
def zw0 (P : Program) (G : Gl) (E : Env) (o : Oper) (s : ASt) (K : AV → List AObj → Option R) : Option R :=
 match o.op with
 |.alloc t=>(match z7r P t with|some c=>K (OP s.H.length 0) [⟨1,t,0,c⟩]|none=>none)
 |.call { callee := .value (.func f),args := args,argTypes := _ }=>(match zbU E f with
  |some (.add g)=>(match g (roF f s.H (args.toList.map (ev G s.T))) s.H.length with|some (X,Y)=>K X Y|none=>none)
  |_=>none)
 |_=>none
def eqE (d d' : AV) (K : Option R) : Option R := by
 classical exact if d' = d then K else none
theorem zrr {d : AV} {K : Option R} : eqE d d K = K := by
 unfold eqE
 exact if_pos rfl
theorem zl5 {d d' : AV} {K : Option R} {r : R} (h : eqE d d' K = some r) : d' = d ∧ K = some r := by
 unfold eqE at h
 split at h
 ·rename_i e;exact ⟨e,h⟩
 ·cases h
def zEJ (n k : Nat) (a d : AV) : List (Nat × List AObj) → Option R → Option R
 |[],K=>K
 |p :: r,K=>match Nat.ble n p.1 with|true=>z0l k p.2 a fun d'=>eqE d d' (zEJ n k a d r K)|false=>zEJ n k a d r K
def zDT (H : List AObj) : List OpI → Option R → Option R
 |[],K=>K
 |x :: r,K=>z0l x.2.1 H x.2.2.1 fun d'=>eqE x.2.2.2 d' (zDT H r K)
theorem oldE_some {n k : Nat} {a d : AV} {K : Option R} {r : R} : ∀ {l : List (Nat × List AObj)}, zEJ  n k a d l K = some r → (∀ p ∈ l, n ≤ p.1 → zem   p.2 (k, a, d)) ∧ K = some r
  | [], h => ⟨fun H q => (by cases q), h⟩
  | (q, H) :: l, h => by
    unfold zEJ  at h
    cases hb : Nat.ble n q with
    | true =>
      rw [show Nat.ble n (q, H).1 = true from hb] at h
      have h1 := z9m      h
      obtain ⟨d', h2, h3⟩ := z5z       h1
      obtain ⟨rfl, h4⟩ := zl5      h3
      obtain ⟨h5, h6⟩ := oldE_some h4
      refine ⟨fun p hp _ => ?_, h6⟩
      rcases List.mem_cons.1 hp with rfl | hp
      · exact h2
      · exact h5 p hp (by assumption)
    | false =>
      rw [show Nat.ble n (q, H).1 = false from hb] at h
      obtain ⟨h5, h6⟩ := oldE_some h
      refine ⟨fun p hp hle => ?_, h6⟩
      rcases List.mem_cons.1 hp with rfl | hp
      · rw [Nat.ble_eq_true_of_le hle] at hb; cases hb
      · exact h5 p hp hle
theorem zdw {H : List AObj} {K : Option R} {r : R} : ∀ {l : List OpI},zDT H l K = some r → (∀ x ∈ l,zem H x.2) ∧ K = some r
 |[],h=>⟨fun H q=>(by cases q),h⟩
 |x :: l,h=>by
  unfold zDT at h
  have h1 := z9m h
  obtain ⟨d',h2,h3⟩ := z5z h1
  obtain ⟨e,h4⟩ := zl5 h3
  obtain ⟨h5,h6⟩ := zdw h4
  refine ⟨fun y q=>?_,h6⟩
  rcases List.mem_cons.1 q with rfl|q
  ·rw [e] at h2;exact h2
  ·exact h5 y q
def runD (P : Program) (G : Gl) (E : Env) (ops : List Oper) : List Nat → List (List AObj) → List (Nat × List AObj) → List OpI → List Oper → ASt → (ASt → Option R) → Option R
  | _, _, _, _, [], s, K => K s
  | sk, acc, old, opn, o :: r, s, K => match zDp  (kcE E) o.op with
    | 0 => (match o.guard with
      | none => (match zd7   (z9i   (kcE E) ops (zEu  ops []) acc.length) o with
        | some (t2, x) => z0l   (z0z   P t2) s.H (ev G s.T x) fun d => zEJ  (loI (kcE E) ops (zEu  ops []) acc.length) (z0z   P t2) (ev G s.T x) d old (runD P G E ops (skO sk o.dst) (acc ++ [s.H]) old ((acc.length, z0z   P t2, ev G s.T x, d) :: opn) r (s.set s.H o.dst d) K)
        | none => zcu   P G E true o ⟨zEe  (kcE E) ops (zEu  ops []) (acc ++ [s.H]) acc.length, s.T⟩ fun d _ => runD P G E ops (skO sk o.dst) (acc ++ [s.H]) old opn r (s.set s.H o.dst d) K)
      | some (j, want) => match z1N   ops j with
        | some t => match sk.contains t with
          | true => runD P G E ops (skN sk o.dst) (acc ++ [s.H]) old opn r (s.set s.H o.dst UD) K
          | false => z0U   (get s.T t)
              (match want with
                | true => (match zd7   (z9i   (kcE E) ops (zEu  ops []) acc.length) o with
        | some (t2, x) => z0l   (z0z   P t2) s.H (ev G ((t, V (.bool true)) :: s.T) x) fun d => zEJ  (loI (kcE E) ops (zEu  ops []) acc.length) (z0z   P t2) (ev G ((t, V (.bool true)) :: s.T) x) d old (runD P G E ops (skO sk o.dst) (acc ++ [s.H]) old ((acc.length, z0z   P t2, ev G ((t, V (.bool true)) :: s.T) x, d) :: opn) r (ASt.set ⟨s.H, (t, V (.bool true)) :: s.T⟩ s.H o.dst d) K)
        | none => zcu   P G E true o ⟨zEe  (kcE E) ops (zEu  ops []) (acc ++ [s.H]) acc.length, ((t, V (.bool true)) :: s.T)⟩ fun d _ => runD P G E ops (skO sk o.dst) (acc ++ [s.H]) old opn r (ASt.set ⟨s.H, (t, V (.bool true)) :: s.T⟩ s.H o.dst d) K)
                | false => runD P G E ops (skN sk o.dst) (acc ++ [s.H]) old opn r (ASt.set ⟨s.H, (t, V (.bool true)) :: s.T⟩ s.H o.dst UD) K)
              (match want with
                | false => (match zd7   (z9i   (kcE E) ops (zEu  ops []) acc.length) o with
        | some (t2, x) => z0l   (z0z   P t2) s.H (ev G ((t, V (.bool false)) :: s.T) x) fun d => zEJ  (loI (kcE E) ops (zEu  ops []) acc.length) (z0z   P t2) (ev G ((t, V (.bool false)) :: s.T) x) d old (runD P G E ops (skO sk o.dst) (acc ++ [s.H]) old ((acc.length, z0z   P t2, ev G ((t, V (.bool false)) :: s.T) x, d) :: opn) r (ASt.set ⟨s.H, (t, V (.bool false)) :: s.T⟩ s.H o.dst d) K)
        | none => zcu   P G E true o ⟨zEe  (kcE E) ops (zEu  ops []) (acc ++ [s.H]) acc.length, ((t, V (.bool false)) :: s.T)⟩ fun d _ => runD P G E ops (skO sk o.dst) (acc ++ [s.H]) old opn r (ASt.set ⟨s.H, (t, V (.bool false)) :: s.T⟩ s.H o.dst d) K)
                | true => runD P G E ops (skN sk o.dst) (acc ++ [s.H]) old opn r (ASt.set ⟨s.H, (t, V (.bool false)) :: s.T⟩ s.H o.dst UD) K)
        | none => none)
    | 1 => (match o.guard with | none => zw0   P G E o s fun d Y => zDT  (s.H ++ Y) (z8C   (zEu  ops []) acc.length opn) (runD P G E ops (skO sk o.dst) (acc ++ [s.H]) ((acc.length, s.H) :: old) (z8C   (zEu  ops []) acc.length opn) r (s.set (s.H ++ Y) o.dst d) K) | some _ => none)
    | _ => (match o.guard with
      | none => zep   P G E o s fun d H' => zDT  H' (z8C   (zEu  ops []) acc.length opn) (runD P G E ops (skO sk o.dst) (acc ++ [s.H]) ((acc.length, s.H) :: old) (z8C   (zEu  ops []) acc.length opn) r (s.set H' o.dst d) K)
      | some (j, want) => match z1N   ops j with
        | some t => match sk.contains t with
          | true => runD P G E ops (skN sk o.dst) (acc ++ [s.H]) old opn r (s.set s.H o.dst UD) K
          | false => z0U   (get s.T t)
              (match want with
                | true => zep   P G E o ⟨s.H, (t, V (.bool true)) :: s.T⟩ fun d H' => zDT  H' (z8C   (zEu  ops []) acc.length opn) (runD P G E ops (skO sk o.dst) (acc ++ [s.H]) ((acc.length, s.H) :: old) (z8C   (zEu  ops []) acc.length opn) r (ASt.set ⟨s.H, (t, V (.bool true)) :: s.T⟩ H' o.dst d) K)
                | false => runD P G E ops (skN sk o.dst) (acc ++ [s.H]) old opn r (ASt.set ⟨s.H, (t, V (.bool true)) :: s.T⟩ s.H o.dst UD) K)
              (match want with
                | false => zep   P G E o ⟨s.H, (t, V (.bool false)) :: s.T⟩ fun d H' => zDT  H' (z8C   (zEu  ops []) acc.length opn) (runD P G E ops (skO sk o.dst) (acc ++ [s.H]) ((acc.length, s.H) :: old) (z8C   (zEu  ops []) acc.length opn) r (ASt.set ⟨s.H, (t, V (.bool false)) :: s.T⟩ H' o.dst d) K)
                | true => runD P G E ops (skN sk o.dst) (acc ++ [s.H]) old opn r (ASt.set ⟨s.H, (t, V (.bool false)) :: s.T⟩ s.H o.dst UD) K)
        | none => none)
theorem z8K {x : AV} {A B : Option R} {r : R} (h : z0U x A B = some r) : (x = V (.bool true) ∧ A = some r) ∨ (x = V (.bool false) ∧ B = some r) := zeO h
def Aft (K : ASt → Option R) (r : R) (s1 : ASt) : Prop := ∃ T2,TEq s1.T T2 ∧ K ⟨s1.H,T2⟩ = some r
def SkOk (sk : List Nat) (T : Tm) : Prop := ∀ t ∈ sk,get T t = UD
theorem SkOk.nil {T : Tm} : SkOk [] T := fun t h=>by cases h
theorem SkOk.out {sk : List Nat} {T : Tm} (h : SkOk sk T) (H H' : List AObj) (dst : Option Tmp) (v : AV) : SkOk (skO sk dst) (ASt.set ⟨H,T⟩ H' dst v).T := by
 intro t ht
 cases dst with
 |none=>exact h t ht
 |some d =>
  simp only [skO,List.mem_filter,bne_iff_ne] at ht
  exact (z3Q T d t v ht.2).trans (h t ht.1)
theorem SkOk.skip {sk : List Nat} {T : Tm} (h : SkOk sk T) (H H' : List AObj) (dst : Option Tmp) : SkOk (skN sk dst) (ASt.set ⟨H,T⟩ H' dst UD).T := by
 intro t ht
 cases dst with
 |none=>exact h t ht
 |some d =>
  by_cases e : t = d
  ·subst e;exact z6K T t UD
  ·simp only [skN,List.mem_cons,e,false_or] at ht
   exact (z3Q T d t UD e).trans (h t ht)
theorem zaf (hE : z9t P G E) {ops : List Oper} {K : ASt → Option R} {r : R} : ∀ {l : List Oper} {sk : List Nat} {H : List AObj} {T T' : Tm},TEq T T' → SkOk sk T → runE P G E false ops sk l ⟨H,T'⟩ K = some r → z21 P G ops l ⟨H,T⟩ (Aft K r)
 |[],sk,H,T,T',ht,hk,h=>⟨T',ht,h⟩
 |o :: l,sk,H,T,T',ht,hk,h=>by
  unfold runE at h
  unfold z21
  split at h
  ·rename_i hg
   simp only [hg]
   refine z5f ht ?_
   refine z1V (fun d H' q=>?_) (z9p (o := o) (s := ⟨H,T'⟩) (K := fun d H'=>runE P G E false ops (skO sk o.dst) l (ASt.set ⟨H,T'⟩ H' o.dst d) K) hE h)
   exact zaf hE (ht.set H H H' o.dst d) (hk.out H H' o.dst d) q
  ·rename_i j want hg
   simp only [hg]
   split at h
   rotate_left
   ·cases h
   rename_i t hd
   simp only [hd]
   split at h
   ·rename_i hc
    rw [show get (⟨H,T⟩ : ASt).T t = UD from hk t (by simpa using hc)]
    exact zaf hE (ht.set H H H o.dst UD) (hk.skip H H o.dst) h
   rcases z8K h with ⟨h1,h2⟩|⟨h1,h2⟩
   ·rw [show get (⟨H,T⟩ : ASt).T t = V (.bool true) from (ht t).trans h1]
    cases want with
    |true =>
     refine ⟨fun _=>?_,fun q=>by cases q⟩
     have hl := ht.lit ((ht t).trans h1)
     refine z5f hl ?_
     refine z1V (fun d H' q=>?_) (z9p (o := o) (s := ⟨H,(t,V (.bool true)) :: T'⟩) (K := fun d H'=>runE P G E false ops (skO sk o.dst) l (ASt.set ⟨H,(t,V (.bool true)) :: T'⟩ H' o.dst d) K) hE h2)
     exact zaf hE (hl.set H H H' o.dst d) (hk.out H H' o.dst d) q
    |false =>
     refine ⟨fun q=>(by cases q),fun _=>?_⟩
     exact zaf hE ((ht.lit ((ht t).trans h1)).set H H H o.dst UD) (hk.skip H H o.dst) h2
   ·rw [show get (⟨H,T⟩ : ASt).T t = V (.bool false) from (ht t).trans h1]
    cases want with
    |false =>
     refine ⟨fun _=>?_,fun q=>by cases q⟩
     have hl := ht.lit ((ht t).trans h1)
     refine z5f hl ?_
     refine z1V (fun d H' q=>?_) (z9p (o := o) (s := ⟨H,(t,V (.bool false)) :: T'⟩) (K := fun d H'=>runE P G E false ops (skO sk o.dst) l (ASt.set ⟨H,(t,V (.bool false)) :: T'⟩ H' o.dst d) K) hE h2)
     exact zaf hE (hl.set H H H' o.dst d) (hk.out H H' o.dst d) q
    |true =>
     refine ⟨fun q=>(by cases q),fun _=>?_⟩
     exact zaf hE ((ht.lit ((ht t).trans h1)).set H H H o.dst UD) (hk.skip H H o.dst) h2
end
end Go.Proofs.YtaplemeamcgpkaaDoor

namespace Go.Proofs.YtaplemeamcgpkaaDoor
open Go.RowKit
def pnK (K : AV → List AObj → Prop) (KP : Value → List AObj → Prop) : AV → List AObj → Prop
 |.iface _ (.held (.inl u)),H=>KP u H
 |d,H=>K d H
theorem zqq {K : AV → List AObj → Prop} {KP : Value → List AObj → Prop} {d : AV} {H : List AObj} {S : SS} {μ : List Value} {v : Value} (h : pnK K KP d H) (hr : rep S μ d v) : K d H := by
 unfold pnK at h
 split at h
 ·exact hr.elim
 ·exact h
def ifv : AV → Option Value
 |.held (.inl u)=>some u
 |.agg cs=>(match zjb cs with|some us=>some (.agg us.toArray)|none=>none)
 |_=>none
theorem zvW {d : AV} {u v : Value} {S : SS} {μ : List Value} (h : ifv d = some u) (hr : rep S μ d v) : v = u := by
 unfold ifv at h
 split at h
 ·cases h;exact hr.1
 ·rename_i cs
  split at h
  ·rename_i us hus
   cases h
   obtain ⟨us',rfl,h2⟩ := hr
   have := z76 hus
   subst this
   rw [z6L h2]
  ·cases h
 ·cases h
section
variable {P : Program} {G : Gl} {w : World} {S : SS} {μ : List Value} {H : List AObj} {a : Act} {o : Oper} {K : AV → List AObj → Prop} {KP : Value → List AObj → Prop} {Q : Exit → Act → World → Prop} {T : Tm} {N : FS}
def zkC (w : World) (S : SS) (μ : List Value) (H : List AObj) (a : Act) (KP : Value → List AObj → Prop) (e : Exit) (a' : Act) (w' : World) : Prop :=
 ∃ u H' S' μ',e = .panic [{ v := u,recovered := false }] ∧ a' = a ∧ KP u H' ∧ Rel w' S' μ' H' ∧ Step H.length w S μ H w' S' μ' H'
theorem zr5 {f : FuncId} {args : Array Operand} {ts : Array TypeId} (hrel : Rel w S μ H) (hf : Fr S μ N T a) (hg : GOk G S) (ho : o.op = .call { callee := .value (.func f),args := args,argTypes := ts })
  (h : ACx P G f ((args.toList.map (ev G T)).map (ro H)) H (pnK K KP)) : o.wp P a w (z1u w S μ H a o K) (zkC w S μ H a KP) := by
 unfold Oper.wp
 rw [z8h h.1 ho rfl]
 have hc := h.2 w S μ (args.toList.map a.eval) hrel hg (by rw [List.length_map,List.length_map,List.length_map]) (fun j d v hd hv=>by
  rw [List.getElem?_map,List.getElem?_map] at hd
  rw [List.getElem?_map] at hv
  cases hx : args.toList[j]? with
  |none=>rw [hx] at hd;cases hd
  |some x =>
   rw [hx] at hd hv
   simp only [Option.map_some,Option.some.injEq] at hd hv
   subst hd hv
   exact (hf.ev hg x).toRo hrel)
 have e : (args.toList.map a.eval).toArray = args.map a.eval := by rw [← Array.toList_map,Array.toArray_toList]
 rw [e] at hc
 refine hc.mono fun e w' q=>?_
 rcases q with ⟨v,r,H',S',μ',he,hR,hrel',hrep,hst⟩|⟨u,H',S',μ',he,hR,hrel',hst⟩
 ·subst he
  exact ⟨r,v,H',S',μ',zqq hR hrep,rfl,hrep,hrel',hst,fun q=>by rw [ho] at q;cases q⟩
 ·subst he
  exact ⟨u,H',S',μ',rfl,rfl,hR,hrel',hst⟩
def zeX (P : Program) (G : Gl) (x : AV) (args : List AV) (H : List AObj) (K : AV → List AObj → Prop) : Prop :=
 match x with
 |.slice caps [.held (.inl (.func (.func f) _ _)), .held (.inr (.inl (k,_)))]=>ACx P G f ((caps.take k ++ args ++ caps.drop k).map (ro H)) H K
 |_=>False
theorem zo1 {t : Tmp} {args : Array Operand} {ts : Array TypeId} (hrel : Rel w S μ H) (hf : Fr S μ N T a) (hg : GOk G S) (ho : o.op = .call { callee := .value (.tmp t),args := args,argTypes := ts })
  (h : zeX P G (get T t) (args.toList.map (ev G T)) H (pnK K KP)) : o.wp P a w (z1u w S μ H a o K) (zkC w S μ H a KP) := by
 have hl : loud o.op = true := by rw [ho];rfl
 unfold zeX at h
 split at h
 ·rename_i caps f f1 f2 k k2 hT
  have hs := hf.slot t
  rw [hT] at hs
  obtain ⟨us,hu,hul,hur⟩ := hs
  have ht : a.eval (.tmp t) = .func (.func f) (us.take k).toArray (us.drop k).toArray := hu
  unfold Oper.wp
  rw [z9B h.1 ho ht]
  have hrc : ∀ (j : Nat) (d : AV) (v : Value),caps[j]? = some d → us[j]? = some v → rep S μ d v := fun j d v hd hv=>zcE (hur j d v hd hv)
  have hc := h.2 w S μ (us.take k ++ args.toList.map a.eval ++ us.drop k) hrel hg (by simp [hul]) (fun j d v hd hv=>by
   rw [List.getElem?_map] at hd
   cases hx : (caps.take k ++ args.toList.map (ev G T) ++ caps.drop k)[j]? with
   |none=>rw [hx] at hd;cases hd
   |some x =>
    rw [hx] at hd
    simp only [Option.map_some,Option.some.injEq] at hd
    subst hd
    refine rep.toRo hrel ?_
    have hlt : (us.take k).length = (caps.take k).length := by simp [hul]
    rcases Nat.lt_or_ge j (caps.take k ++ args.toList.map (ev G T)).length with hj|hj
    ·rw [List.getElem?_append_left hj] at hx
     rw [List.getElem?_append_left (by simp only [List.length_append,List.length_map,hlt] at hj ⊢;exact hj)] at hv
     rcases Nat.lt_or_ge j (caps.take k).length with hj2|hj2
     ·rw [List.getElem?_append_left hj2] at hx
      rw [List.getElem?_append_left (by rw [hlt];exact hj2)] at hv
      rw [List.getElem?_take] at hx hv
      split at hx
      ·rw [if_pos (by assumption)] at hv;exact hrc j x v hx hv
      ·cases hx
     ·rw [List.getElem?_append_right hj2] at hx
      rw [List.getElem?_append_right (by rw [hlt];exact hj2),hlt] at hv
      rw [List.getElem?_map] at hx hv
      cases hy : args.toList[j - (caps.take k).length]? with
      |none=>rw [hy] at hx;cases hx
      |some y =>
       rw [hy] at hx hv
       simp only [Option.map_some,Option.some.injEq] at hx hv
       subst hx hv
       exact hf.ev hg y
    ·rw [List.getElem?_append_right hj] at hx
     have hle : (us.take k ++ args.toList.map a.eval).length = (caps.take k ++ args.toList.map (ev G T)).length := by simp [hul]
     rw [List.getElem?_append_right (by rw [hle];exact hj),hle] at hv
     rw [List.getElem?_drop] at hx hv
     exact hrc _ x v hx hv)
  have e : (us.take k ++ args.toList.map a.eval ++ us.drop k).toArray = (us.take k).toArray ++ args.map a.eval ++ (us.drop k).toArray := by
   apply Array.ext'
   simp
  rw [e] at hc
  refine hc.mono fun e w' q=>?_
  rcases q with ⟨v,r,H',S',μ',he,hR,hrel',hrep,hst⟩|⟨u,H',S',μ',he,hR,hrel',hst⟩
  ·subst he
   exact ⟨r,v,H',S',μ',zqq hR hrep,rfl,hrep,hrel',hst,fun q=>by rw [hl] at q;cases q⟩
  ·subst he
   exact ⟨u,H',S',μ',rfl,rfl,hR,hrel',hst⟩
 ·exact h.elim
def z6D (P : Program) (G : Gl) (o : Oper) (s : ASt) (K : AV → List AObj → Prop) (KP : Value → List AObj → Prop) : Prop :=
 match o.op with
 |.panic x=>∃ t v,ev G s.T x = V (.iface t v) ∧ KP (.iface t v) s.H
 |.makeInterface t x=>P.concrete t = true ∧ ∃ u,ifv (ev G s.T x) = some u ∧ K (V (.iface t u)) s.H
 |.call { callee := .value (.func f),args := args,argTypes := _ }=>ACx P G f ((args.toList.map (ev G s.T)).map (ro s.H)) s.H (pnK K KP)
 |.call { callee := .value (.tmp t),args := args,argTypes := _ }=>zeX P G (get s.T t) (args.toList.map (ev G s.T)) s.H (pnK K KP)
 |_=>z08 P G o s K
theorem zkP {s : ASt} (h : z6D P G o s K KP) (hr : Rel w S μ s.H) (hf : Fr S μ N s.T a) (hg : GOk G S) : o.wp P a w (z1u w S μ s.H a o K) (zkC w S μ s.H a KP) := by
 unfold z6D at h
 split at h
 ·rename_i x hx
  obtain ⟨t,v,h1,h2⟩ := h
  have he := hf.ev hg x
  rw [h1] at he
  have he := he.1
  unfold Oper.wp
  have hrun : (execOp a.eval o).run P w = .halt (.panic (.iface t v)) w := by
   unfold execOp
   rw [hx]
   have hp : (Instr.panic (.iface t v)).run P w = .halt (.panic (.iface t v)) w := rfl
   simp [he,hp,Sem.run_bind]
  rw [hrun]
  exact ⟨_,_,_,_,rfl,rfl,h2,hr,Step.refl _ _ _ _ _⟩
 ·rename_i t x hx
  obtain ⟨h1,u,h2,h3⟩ := h
  have he := zvW h2 (hf.ev hg x)
  refine z1w (d := V (.iface t u)) (u := .iface t u) hr ?_ h3 ⟨rfl,rfl⟩
  unfold execOp
  rw [hx]
  have := run_makeInterface (P := P) (w := w) t u h1
  simp [he,Sem.run_bind,this]
 ·rename_i hx;exact zr5 hr hf hg hx h
 ·rename_i hx;exact zo1 hr hf hg hx h
 ·exact z86 h hr hf hg _
theorem zjw {T T' : Tm} (h : TEq T T') (hs : z6D P G o ⟨H,T'⟩ K KP) : z6D P G o ⟨H,T⟩ K KP := by
 have e : ∀ x,ev G T x = ev G T' x := fun x=>by cases x <;> first|exact h _|rfl
 have e1 : ev G T = ev G T' := funext e
 unfold z6D at hs ⊢
 dsimp only at hs ⊢
 split at hs
 ·rw [e1];exact hs
 ·rw [e1];exact hs
 ·rw [e1];exact hs
 ·rw [e1,h];exact hs
 ·exact z5f h hs
def zcH (P : Program) (G : Gl) : List Oper → ASt → (ASt → Prop) → (Value → ASt → Prop) → Prop
 |[],s,K,KP=>K s
 |o :: r,s,K,KP=>o.guard = none ∧ z6D P G o s (fun d H=>zcH P G r (s.set H o.dst d) K KP) (fun u H=>KP u ⟨H,s.T⟩)
theorem Oper.wp_both {P : Program} {o : Oper} {a : Act} {w : World} {K K' : Act → World → Prop} {Q Q' : Exit → Act → World → Prop} (hh : o.wp P a w K Q) (h : ∀ a w,K a w → K' a w) (hq : ∀ e a w,Q e a w → Q' e a w) : o.wp P a w K' Q' := by
 unfold Oper.wp at *
 generalize (execOp a.eval o).run P w = r at *
 cases r with
 |ok n w' =>
  cases n <;> simp only [Oper.upon] at hh ⊢ <;>
   first
    |exact h _ _ hh
    |exact Calls.mono hh (fun e w'' he=>by cases e <;> first|exact h _ _ he|exact hq _ _ _ he|(obtain ⟨a1,w1,h1⟩ := he;exact ⟨a1,w1,hq _ _ _ h1⟩))
    |exact Rows.mono hh (fun _ _ he=>h _ _ he)
 |halt x w'=>cases x <;> simp only [Oper.upon] at hh ⊢ <;> first|exact hq _ _ _ hh|(obtain ⟨a1,w1,h1⟩ := hh;exact ⟨a1,w1,hq _ _ _ h1⟩)|exact hh
theorem zeL {n : Nat} {ops : List Oper} {K : ASt → Prop} {KP : Value → ASt → Prop} {Q : Exit → ASt → Prop} (hK : ∀ s,K s → Q .normal s) (hP : ∀ u s,KP u s → Q (.panic [{ v := u,recovered := false }]) s) {w0 : World} {S0 : SS} {μ0 : List Value} {H0 : List AObj} (hn : n ≤ H0.length) (hl0 : μ0.length = H0.length) : ∀ (l : List Oper) (s : ASt),zcH P G l s K KP → zEE N l = true →
  ∀ w S μ a,Rel w S μ s.H → Fr S μ N s.T a → GOk G S → Step n w0 S0 μ0 H0 w S μ s.H → wpList P ops.toArray (Lift N n w0 S0 μ0 H0 Q) l a w
 |[],s,h,_,w,S,μ,a,hr,hf,hg,hs=>⟨s,S,μ,hK s h,hr,hf,hs⟩
 |o :: r,s,h,hfit,w,S,μ,a,hr,hf,hg,hs=>by
  have hfit' := hfit
  simp only [zEE,List.all_cons,Bool.and_eq_true] at hfit'
  have hd : ∀ i,o.dst = some i → i < N.n := fun i e=>by have := hfit'.1;rw [e] at this;simpa using this
  obtain ⟨hgd,hstep⟩ := h
  have hn' : n ≤ s.H.length := by
   rcases Nat.lt_or_ge s.H.length n with hlt|hge
   ·have hlm : s.H.length < μ0.length := by omega
    obtain ⟨x',hx',_⟩ := hs.objs s.H.length μ0[s.H.length] hlt (List.getElem?_eq_getElem hlm)
    have := (List.getElem?_eq_some_iff.1 hx').1
    rw [hr.len] at this;omega
   ·exact hge
  unfold wpList
  rw [if_pos (by simp [Region.wanted,hgd])]
  refine .inl ?_
  refine _root_.Go.Proofs.YtaplemeamcgpkaaDoor.Oper.wp_both (zkP hstep hr hf hg) (fun a' w'=>?_) (fun e a' w'=>?_)
  ·rintro ⟨d,u,H',S',μ',hrest,rfl,hrep,hr',hs',_⟩
   have hst := (hf.ext (hs'.toExt hr)).put o.dst hd hrep
   exact zeL hK hP hn hl0 r _ hrest hfit'.2 w' S' μ' _ hr' hst (hg.ext hs'.still) (hs.trans (hs'.less hn'))
  ·rintro ⟨u,H',S',μ',rfl,rfl,hk,hr',hs'⟩
   exact ⟨⟨H',s.T⟩,S',μ',hP _ _ hk,hr',hf.ext (hs'.toExt hr),hs.trans (hs'.less hn')⟩
theorem zj8 {n : Nat} {Q : Exit → ASt → Prop} {s : ASt} {id : Nat} {ops : List Oper} (hfit : zEE N ops = true) (hn : n ≤ s.H.length) (h : zcH P G ops s (fun s=>Q .normal s) (fun u s=>Q (.panic [{ v := u,recovered := false }]) s)) : AWp P G N n (.region id ops.toArray false) Q s :=
 fun w S μ a hr hf hg=>wp_region_lit (zeL (K := fun s=>Q .normal s) (KP := fun u s=>Q (.panic [{ v := u,recovered := false }]) s) (fun s h=>h) (fun u s h=>h) hn hr.len ops s h hfit w S μ a hr hf hg (Step.refl _ _ _ _ _))
end
section
variable {R : Type} {P : Program} {G : Gl} {E : Env} {N : FS} {n : Nat} {o : Oper} {H : List AObj} {T T' : Tm}
def zFG (m : RO) (K : AV → List AObj → Option R) (KP : Value → List AObj → Option R) : Option R := match m with
 |some (X,H')=>(match X with|.iface _ (.held (.inl u))=>KP u H'|X=>K X H')
 |none=>none
def zjh (e : Option Ent) (args : List AV) (H : List AObj) (K : AV → List AObj → Option R) (KP : Value → List AObj → Option R) : Option R :=
 match e with
 |some (.pan g)=>zFG (g args H) K KP
 |e=>zfS e args H K
theorem zmz {f : FuncId} {args : List AV} {X : AV} {H H0 : List AObj} {Rr : AV → List AObj → Prop} (h : ACx P G f args H (Is X H0)) (k : Rr X H0) : ACx P G f args H Rr :=
 h.mono fun r H' ⟨e1,e2⟩=>by subst e1 e2;exact k
theorem zzI {K : AV → List AObj → Prop} {KP : Value → List AObj → Prop} {d : AV} {H : List AObj} (h : K d H) (hn : ∀ t u,d ≠ .iface t (.held (.inl u))) : pnK K KP d H := by
 unfold pnK
 split
 ·exact (hn _ _ rfl).elim
 ·exact h
theorem AC.pn {f : FuncId} {args : List AV} {H : List AObj} {K : AV → List AObj → Prop} {KP : Value → List AObj → Prop} (h : AC P G f args H K) : ACx P G f args H (pnK K KP) :=
 ⟨h.1,fun w S μ vs hr hg hl hv=>(h.2 w S μ vs hr hg hl hv).mono fun e w' ⟨v,r,H',S',μ',he,hR,hr',hrep,hst⟩ =>
  .inl ⟨v,r,H',S',μ',he,zzI hR (fun t u e=>by subst e;exact hrep.elim),hr',hrep,hst⟩⟩
theorem zhS (hE : z9t P G E) {f : FuncId} {args : List AV} {H : List AObj} {K : AV → List AObj → Option R} {KP : Value → List AObj → Option R} {r : R} (h : zjh (zbU E f) args H K KP = some r) : ACx P G f args H (pnK (fun d H'=>K d H' = some r) (fun u H'=>KP u H' = some r)) := by
 unfold zjh at h
 split at h
 ·rename_i g hg
  unfold zFG at h
  split at h
  ·rename_i X H' hx
   refine zmz (hE _ _ (findE_mem hg) _ _ _ _ hx) ?_
   unfold pnK
   split at h
   ·exact h
   ·rename_i hne
    split
    ·exact (hne _ _ rfl).elim
    ·exact h
  ·cases h
 ·exact (zdQ hE h).pn
def zes (E : Env) (x : AV) (args : List AV) (H : List AObj) (K : AV → List AObj → Option R) (KP : Value → List AObj → Option R) : Option R :=
 match x with
 |.slice caps [.held (.inl (.func (.func f) _ _)), .held (.inr (.inl (k,_)))]=>zjh (zbU E f) ((caps.take k ++ args ++ caps.drop k).map (ro H)) H K KP
 |_=>none
def zfv (x : AV) (H : List AObj) (KP : Value → List AObj → Option R) : Option R := match x with|.held (.inl (.iface t v))=>KP (.iface t v) H|_=>none
def ifE (t : TypeId) (x : AV) (K : AV → Option R) : Option R := match ifv x with|some u=>K (V (.iface t u))|none=>none
def zwN (P : Program) (G : Gl) (E : Env) (o : Oper) (s : ASt) (K : AV → List AObj → Option R) (KP : Value → List AObj → Option R) : Option R :=
 match o.op with
 |.panic x=>zfv (ev G s.T x) s.H KP
 |.makeInterface t x=>z0q (P.concrete t) (ifE t (ev G s.T x) fun d=>K d s.H)
 |.call { callee := .value (.func f),args := args,argTypes := _ }=>zjh (zbU E f) ((args.toList.map (ev G s.T)).map (ro s.H)) s.H K KP
 |.call { callee := .value (.tmp t),args := args,argTypes := _ }=>zes E (get s.T t) (args.toList.map (ev G s.T)) s.H K KP
 |_=>zep P G E o s K
theorem zs7 (hE : z9t P G E) {s : ASt} {K : AV → List AObj → Option R} {KP : Value → List AObj → Option R} {r : R} (h : zwN P G E o s K KP = some r) : z6D P G o s (fun d H'=>K d H' = some r) (fun u H'=>KP u H' = some r) := by
 obtain ⟨dst,op,ty,pos,af,gd⟩ := o
 unfold zwN at h
 unfold z6D
 dsimp only at h ⊢
 split at h
 ·unfold zfv at h
  split at h
  ·rename_i t v hv;exact ⟨t,v,hv,h⟩
  ·cases h
 ·obtain ⟨h1,h2⟩ := z04 h
  unfold ifE at h2
  split at h2
  ·rename_i u hu;exact ⟨h1,u,hu,h2⟩
  ·cases h2
 ·exact zhS hE h
 ·unfold zeX
  unfold zes at h
  split at h
  ·rename_i caps f f1 f2 k k2 hT
   exact zhS hE h
  ·cases h
 ·exact z9p hE h
def zD3 (P : Program) (G : Gl) (E : Env) : List Oper → ASt → (ASt → Option R) → (Value → ASt → Option R) → Option R
 |[],s,K,KP=>K s
 |o :: r,s,K,KP=>match o.guard with
  |none=>zwN P G E o s (fun d H=>zD3 P G E r (s.set H o.dst d) K KP) (fun u H=>KP u ⟨H,s.T⟩)
  |some _=>none
def zFC (KP : Value → ASt → Option R) (r : R) (u : Value) (s1 : ASt) : Prop := ∃ T2,TEq s1.T T2 ∧ KP u ⟨s1.H,T2⟩ = some r
theorem zbx {s : ASt} {K K' : AV → List AObj → Prop} {KP KP' : Value → List AObj → Prop} (q1 : ∀ d H,K d H → K' d H) (q2 : ∀ u H,KP u H → KP' u H) (h : z6D P G o s K KP) : z6D P G o s K' KP' := by
 have pk : ∀ d H,pnK K KP d H → pnK K' KP' d H := by
  intro d H h
  unfold pnK at h ⊢
  split at h
  ·exact q2 _ _ h
  ·exact q1 _ _ h
 unfold z6D at h ⊢
 split at h
 ·obtain ⟨t,v,h1,h2⟩ := h;exact ⟨t,v,h1,q2 _ _ h2⟩
 ·obtain ⟨h1,u,h2,h3⟩ := h;exact ⟨h1,u,h2,q1 _ _ h3⟩
 ·exact h.mono pk
 ·unfold zeX at h ⊢
  split at h
  ·exact h.mono pk
  ·exact h.elim
 ·exact z1V q1 h
theorem zbW {K K' : ASt → Prop} {KP KP' : Value → ASt → Prop} (q1 : ∀ s,K s → K' s) (q2 : ∀ u s,KP u s → KP' u s) : ∀ {l : List Oper} {s : ASt},zcH P G l s K KP → zcH P G l s K' KP'
 |[],s,h=>q1 s h
 |o :: l,s,h=>⟨h.1,zbx (fun d H q=>zbW q1 q2 q) (fun u H q=>q2 u _ q) h.2⟩
theorem zpQ (hE : z9t P G E) {K : ASt → Option R} {KP : Value → ASt → Option R} {r : R} : ∀ {l : List Oper} {H : List AObj} {T T' : Tm},TEq T T' → zD3 P G E l ⟨H,T'⟩ K KP = some r → zcH P G l ⟨H,T⟩ (Aft K r) (zFC KP r)
 |[],H,T,T',ht,h=>⟨T',ht,h⟩
 |o :: l,H,T,T',ht,h=>by
  unfold zD3 at h
  split at h
  ·rename_i hg
   refine ⟨hg,zjw ht (zbx (fun d H' q=>?_) (fun u H' q=>?_) (zs7 hE h))⟩
   ·exact zpQ hE (ht.set H H H' o.dst d) q
   ·exact ⟨T',ht,q⟩
  ·cases h
def zAA : Nat × Ent → Bool|(_, .pan _)=>true|_=>false
def zEh (o : Oper) : Bool := match o.guard with|none=>true|some _=>false
def zFl (E : Env) (ops : List Oper) : Bool := E.any zAA && ops.all zEh
abbrev pch (u : Value) : List PanicEntry := [{ v := u,recovered := false }]
end
end Go.Proofs.YtaplemeamcgpkaaDoor

namespace Go.Proofs.YtaplemeamcgpkaaDoor
open Go.RowKit
section
variable {R : Type} {P : Program} {G : Gl} {E : Env} {N : FS} {n : Nat} {o : Oper} {H : List AObj} {T T' : Tm}
theorem zqS (hE : z9t P G E) {s : ASt} {K : AV → List AObj → Option R} {r : R} (hq : loud o.op = false ∨ ∃ f ags ts,o.op = .call { callee := .value (.func f),args := ags,argTypes := ts }) (h : zcu P G E true o s K = some r) :
  z0T P G o s fun d=>K d s.H = some r := by
 obtain ⟨dst,op,ty,pos,af,gd⟩ := o
 unfold zcu at h
 unfold z0T
 dsimp only at h ⊢ hq
 split at h
 ·exact znf hE h
 ·rename_i hne
  have hl : loud op = false := by
   rcases hq with hq|⟨f,ags,ts,e⟩
   ·exact hq
   ·exact absurd e (hne f ags ts)
  have fin : loud op = false ∧ z08 P G ⟨dst,op,ty,pos,af,gd⟩ s (fun d H'=>H' = s.H ∧ K d s.H = some r) := by
   refine ⟨hl,z1V (fun d H q=>?_) (zg9 hl (z9p hE h))⟩
   obtain ⟨e,q⟩ := q
   subst e
   exact ⟨rfl,q⟩
  first
  |exact fin
  |split
   ·exact (hne _ _ _ rfl).elim
   ·exact fin
theorem zsG {S : Type} {ob : AObj} {k o : Nat} {x : AV} {K : AObj → Option R} {r : R} (h : zFq ob k o x K = some r) : ∃ ob',(∀ (K' : AObj → Option S),zFq ob k o x K' = K' ob') ∧ K ob' = some r := by
 obtain ⟨kk,te,z,c⟩ := ob
 unfold zFq at h
 obtain ⟨h1,h2⟩ := z04 h
 dsimp only at h2
 split at h2
 ·obtain ⟨h3,h4⟩ := z04 h2
  exact ⟨_,fun K'=>by unfold zFq;rw [h1,z5h];dsimp only;rw [h3,z5h];rfl,h4⟩
 ·obtain ⟨h3,h4⟩ := z04 h2
  exact ⟨_,fun K'=>by unfold zFq;rw [h1,z5h];dsimp only;rw [h3,z5h];rfl,h4⟩
 ·cases h2
theorem zm8 {k : Nat} {H : List AObj} {a x : AV} {K : List AObj → Option R} {r : R} (h : z0s k H a x K = some r) : ∃ H',z0s k H a x some = some H' ∧ K H' = some r := by
 unfold z0s at h ⊢
 split at h
 ·unfold z68 at h ⊢
  split at h
  ·rename_i ob hob
   obtain ⟨ob',h1,h2⟩ := zsG (S := List AObj) h
   exact ⟨_,h1 _,h2⟩
  ·cases h
 ·cases h
theorem zm1 {S : Type} {H : List AObj} {x : AV} {K : List AV → Option R} {r : R} (h : z5b H x K = some r) : ∃ es,(∀ (K' : List AV → Option S),z5b H x K' = K' es) ∧ K es = some r := by
 unfold z5b at h
 split at h
 ·exact ⟨_,fun K'=>rfl,h⟩
 ·unfold z68 at h
  split at h
  ·rename_i ob hob
   obtain ⟨h1,h2⟩ := z04 h
   refine ⟨_,fun K'=>?_,h2⟩
   simp only [z5b,z68,hob,h1,z0q]
  ·cases h
 ·exact ⟨_,fun K'=>rfl,h⟩
 ·exact ⟨_,fun K'=>rfl,h⟩
 ·cases h
theorem zlF {at_ : Option (TypeId × Nat)} {H : List AObj} {x y : AV} {K : AV → List AObj → Option R} {r : R} (h : zF4 at_ H x y K = some r) : ∃ d H',zF4 at_ H x y (fun d H=>some (d,H)) = some (d,H') ∧ K d H' = some r := by
 unfold zF4 at h ⊢
 split at h
 ·rename_i e z
  obtain ⟨es,e1,h⟩ := zm1 (S := AV × List AObj) h
  obtain ⟨h1,h⟩ := z04 h
  split at h
  ·obtain ⟨h2,h⟩ := z04 h
   refine ⟨_,_,?_,h⟩
   show z5b _ _ _ = _
   rw [e1]
   show z0q _ _ = _
   rw [h1,z5h]
   show z0q _ _ = _
   rw [h2];rfl
  ·obtain ⟨h2,h⟩ := z04 h
   refine ⟨_,_,?_,h⟩
   show z5b _ _ _ = _
   rw [e1]
   show z0q _ _ = _
   rw [h1,z5h]
   show z0q _ _ = _
   rw [h2];rfl
  ·unfold z68 at h
   split at h
   ·rename_i ob hob
    obtain ⟨h2,h⟩ := z04 h
    refine ⟨_,_,?_,h⟩
    show z5b _ _ _ = _
    rw [e1]
    show z0q _ _ = _
    rw [h1,z5h]
    show z68 _ _ _ = _
    unfold z68
    rw [hob]
    show z0q _ _ = _
    rw [h2];rfl
   ·cases h
  ·cases h
 ·cases h
theorem zoz {same isS : Bool} {at_ : Option (TypeId × Nat)} {H : List AObj} {x y : AV} {K : AV → List AObj → Option R} {r : R} (h : zyv same isS at_ H x y K = some r) : ∃ d H',zyv same isS at_ H x y (fun d H=>some (d,H)) = some (d,H') ∧ K d H' = some r := by
 cases same with
 |true=>exact zlF h
 |false =>
  obtain ⟨h1,h2⟩ := z04 (show z0q isS (zsv at_ H x y K) = some r from h)
  unfold zsv at h2
  split at h2
  ·obtain ⟨d,H',h3,h4⟩ := zlF h2
   exact ⟨d,H',by show z0q _ _ = _;rw [h1];exact h3,h4⟩
  ·cases h2
theorem zqk {mx : Bool} {x y : AV} {H : List AObj} {K : AV → List AObj → Option R} {r : R} (h : mmE mx x y (fun d=>K d H) = some r) : ∃ d,mmE mx x y (fun d=>some (d,H)) = some (d,H) ∧ K d H = some r := by
 unfold mmE at h ⊢
 split at h
 ·obtain ⟨h1,h2⟩ := z04 h
  exact ⟨_,by rw [h1,z5h],h2⟩
 ·cases h
theorem zdL {e : Option Ent} {args : List AV} {H : List AObj} {K : AV → List AObj → Option R} {r : R} (h : zfS e args H K = some r) : ∃ d H',zfS e args H (fun d H=>some (d,H)) = some (d,H') ∧ K d H' = some r := by
 unfold zfS at h ⊢
 split at h
 ·unfold z3o at h ⊢
  obtain ⟨h1,h⟩ := z04 h
  split at h
  ·rename_i X H' hx
   refine ⟨X,H,?_,h⟩
   rw [h1,z5h]
  ·cases h
 ·unfold zaG at h ⊢
  split at h
  ·rename_i X H' hx
   exact ⟨X,H',rfl,h⟩
  ·cases h
 ·unfold zDu at h ⊢
  split at h
  ·rename_i X Y hx
   exact ⟨X,H ++ Y,rfl,h⟩
  ·cases h
 ·cases h
theorem znJ (hE : z9t P G E) {o : Oper} {s : ASt} (hw : 1 < zDp (kcE E) o.op) {K : AV → List AObj → Option R} {r : R} (h : zep P G E o s K = some r) : ∃ d H',z08 P G o s (fun d' Hk=>d' = d ∧ Hk = H') ∧ K d H' = some r := by
 have fin : ∀ d H',zep P G E o s (fun d H=>some (d,H)) = some (d,H') → z08 P G o s (fun d' Hk=>d' = d ∧ Hk = H') := fun d H' q =>
  z1V (fun d' Hk e=>by injection e with e;injection e with e1 e2;exact ⟨e1,e2⟩) (z9p hE q)
 obtain ⟨dst,op,ty,pos,af,gd⟩ := o
 unfold zep at h fin
 dsimp only at h fin hw
 split at h <;> try (simp [zDp,loud] at hw;done)
 ·rename_i t x
  obtain ⟨h1,h2⟩ := z04 h
  refine ⟨_,_,fin _ _ ?_,h2⟩
  show z0q _ _ = _
  rw [h1];rfl
 ·rename_i t x y
  obtain ⟨H',h1,h2⟩ := zm8 h
  refine ⟨.nil,H',?_,h2⟩
  have : z08 P G ⟨dst, .store t x y,ty,pos,af,gd⟩ s (fun d' Hk=>d' = .nil ∧ Hk = H') := by
   unfold z08
   exact zcZ (fun Hk e=>⟨rfl,by injection e⟩) (zid h1)
  exact this
 ·obtain ⟨d,H',h1,h2⟩ := zdL h
  exact ⟨d,H',fin d H' h1,h2⟩
 ·obtain ⟨h1,h2⟩ := z04 h
  refine ⟨_,_,fin _ _ ?_,h2⟩
  show z0q _ _ = _
  rw [h1];rfl
 ·rename_i t args ts
  unfold zaK at h
  split at h
  ·rename_i caps f k hv
   obtain ⟨d,H',h1,h2⟩ := zdL h
   refine ⟨d,H',fin d H' ?_,h2⟩
   show zaK _ _ _ _ _ = _
   unfold zaK
   rw [hv]
   exact h1
  ·rename_i f hv
   obtain ⟨d,H',h1,h2⟩ := zdL h
   refine ⟨d,H',fin d H' ?_,h2⟩
   show zaK _ _ _ _ _ = _
   unfold zaK
   rw [hv]
   exact h1
  ·cases h
 ·obtain ⟨d,H',h3,h4⟩ := zoz h
  exact ⟨d,H',fin d H' h3,h4⟩
 ·obtain ⟨r',e1,e2⟩ := zqk h
  exact ⟨_,_,fin _ _ e1,e2⟩
 ·obtain ⟨r',e1,e2⟩ := zqk h
  exact ⟨_,_,fin _ _ e1,e2⟩
 ·obtain ⟨H',h1,h2⟩ := zky h
  refine ⟨.nil,H',?_,h2⟩
  unfold z08
  exact ⟨H',h1,rfl,rfl⟩
 ·rename_i t
  unfold zpo at h
  split at h
  ·rename_i k e hk
   refine ⟨_,_,fin _ _ ?_,h⟩
   show zpo _ _ _ = _
   rw [hk];rfl
  ·cases h
 ·cases h
theorem zn3 {kc : KC} {op : Op} (h : zDp kc op = 0) : loud op = false ∨ ∃ f ags ts,op = .call { callee := .value (.func f),args := ags,argTypes := ts } := by
 unfold zDp at h
 split at h
 ·cases h
 ·exact .inr ⟨_,_,_,rfl⟩
 ·split at h
  ·cases h
  ·rename_i hl;exact .inl (by simpa using hl)
theorem zoa (hE : z9t P G E) {o : Oper} {s : ASt} {K : AV → List AObj → Option R} {r : R} (h : zw0 P G E o s K = some r) : ∃ d Y,z08 P G o s (fun d' Hk=>d' = d ∧ Hk = s.H ++ Y) ∧ K d Y = some r := by
 obtain ⟨dst,op,ty,pos,af,gd⟩ := o
 unfold zw0 at h
 unfold z08
 dsimp only at h ⊢
 split at h
 ·rename_i t
  split at h
  ·rename_i c hc
   refine ⟨_,_,?_,h⟩
   dsimp only
   rw [hc]
   exact ⟨rfl,rfl⟩
  ·cases h
 ·rename_i f args ts
  split at h
  ·rename_i g hg
   split at h
   ·rename_i X Y hx
    exact ⟨X,Y,z3T (hE _ _ (findE_mem hg) _ _ _ _ hx) ⟨rfl,rfl⟩,h⟩
   ·cases h
  ·cases h
 ·cases h
theorem z6q (hE : z9t P G E) {ops : List Oper} {K : ASt → Option R} {r : R} : ∀ {l : List Oper} {sk : List Nat} {acc : List (List AObj)} {old : List (Nat × List AObj)} {opn : List OpI} {H : List AObj} {T T' : Tm},TEq T T' → SkOk sk T → runD P G E ops sk acc old opn l ⟨H,T'⟩ K = some r → z8i P G (kcE E) ops acc old opn l ⟨H,T⟩ (Aft K r)
 |[],sk,acc,old,opn,H,T,T',ht,hk,h=>⟨T',ht,h⟩
 |o :: l,sk,acc,old,opn,H,T,T',ht,hk,h=>by
  unfold runD at h
  unfold z8i
  have step : ∀ {H0 : List AObj} {T T' : Tm},zDp (kcE E) o.op = 0 → TEq T T' → SkOk sk T → zcu P G E true o ⟨H0,T'⟩ (fun d _=>runD P G E ops (skO sk o.dst) (acc ++ [H]) old opn l (ASt.set ⟨H,T'⟩ H o.dst d) K) = some r → z0T P G o ⟨H0,T⟩ fun d=>z8i P G (kcE E) ops (acc ++ [H]) old opn l (ASt.set ⟨H,T⟩ H o.dst d) (Aft K r) := fun hc ht hk h =>
   zmV ht (zfB (fun d q=>z6q hE (ht.set H H H o.dst d) (hk.out H H o.dst d) q) (zqS hE (zn3 hc) h))
  split at h
  ·rename_i hc
   rw [if_pos hc]
   have go : ∀ {T T' : Tm},TEq T T' → SkOk sk T → (match zd7 (z9i (kcE E) ops (zEu ops []) acc.length) o with
    |some (t2,x)=>z0l (z0z P t2) H (ev G T' x) fun d=>zEJ (loI (kcE E) ops (zEu ops []) acc.length) (z0z P t2) (ev G T' x) d old (runD P G E ops (skO sk o.dst) (acc ++ [H]) old ((acc.length,z0z P t2,ev G T' x,d) :: opn) l (ASt.set ⟨H,T'⟩ H o.dst d) K)
    |none=>zcu P G E true o ⟨zEe (kcE E) ops (zEu ops []) (acc ++ [H]) acc.length,T'⟩ fun d _=>runD P G E ops (skO sk o.dst) (acc ++ [H]) old opn l (ASt.set ⟨H,T'⟩ H o.dst d) K) = some r → (match zd7 (z9i (kcE E) ops (zEu ops []) acc.length) o with
    |some (t2,x)=>z67 (z0z P t2) H (ev G T x) fun d=>(∀ p ∈ old,loI (kcE E) ops (zEu ops []) acc.length ≤ p.1 → zem p.2 (z0z P t2,ev G T x,d)) ∧ z8i P G (kcE E) ops (acc ++ [H]) old ((acc.length,z0z P t2,ev G T x,d) :: opn) l (ASt.set ⟨H,T⟩ H o.dst d) (Aft K r)
    |none=>z0T P G o ⟨zEe (kcE E) ops (zEu ops []) (acc ++ [H]) acc.length,T⟩ fun d=>z8i P G (kcE E) ops (acc ++ [H]) old opn l (ASt.set ⟨H,T⟩ H o.dst d) (Aft K r)) := fun {T T'} ht hk h=>by
    cases hop : zd7 (z9i (kcE E) ops (zEu ops []) acc.length) o with
    |some p =>
     obtain ⟨t,x⟩ := p
     rw [hop] at h
     have hev : ev G T x = ev G T' x := by cases x <;> first|exact ht _|rfl
     show z67 (z0z P t) H (ev G T x) _
     rw [hev]
     refine z4j (fun d q=>?_) (z9m h)
     obtain ⟨q1,q2⟩ := oldE_some q
     refine ⟨q1,?_⟩
     exact z6q hE (ht.set H H H o.dst d) (hk.out H H o.dst d) q2
    |none =>
     rw [hop] at h
     exact step hc ht hk h
   split at h
   ·rename_i hg
    try rw [hg]
    exact go ht hk h
   ·rename_i j want hg
    try rw [hg]
    try dsimp only
    split at h
    rotate_left
    ·cases h
    rename_i t hd
    try rw [hd]
    try dsimp only
    split at h
    ·rename_i hc2
     rw [show get T t = UD from hk t (by simpa using hc2)]
     exact z6q hE (ht.set H H H o.dst UD) (hk.skip H H o.dst) h
    rcases z8K h with ⟨h1,h2⟩|⟨h1,h2⟩
    ·rw [show get T t = V (.bool true) from (ht t).trans h1]
     cases want with
     |true=>exact ⟨fun _=>go (ht.lit ((ht t).trans h1)) hk h2,fun q=>by cases q⟩
     |false=>exact ⟨fun q=>(by cases q),fun _=>z6q hE ((ht.lit ((ht t).trans h1)).set H H H o.dst UD) (hk.skip H H o.dst) h2⟩
    ·rw [show get T t = V (.bool false) from (ht t).trans h1]
     cases want with
     |false=>exact ⟨fun _=>go (ht.lit ((ht t).trans h1)) hk h2,fun q=>by cases q⟩
     |true=>exact ⟨fun q=>(by cases q),fun _=>z6q hE ((ht.lit ((ht t).trans h1)).set H H H o.dst UD) (hk.skip H H o.dst) h2⟩
  ·rename_i hc
   rw [if_neg (by omega)]
   split at h
   ·rename_i hg
    try rw [hg]
    obtain ⟨d,Y,h1,h2⟩ := zoa hE h
    obtain ⟨h3,h4⟩ := zdw h2
    exact ⟨d,H ++ Y,z5f ht h1,fun _=>⟨Y,rfl⟩,h3,z6q hE (ht.set H H (H ++ Y) o.dst d) (hk.out H (H ++ Y) o.dst d) h4⟩
   ·cases h
  ·rename_i hn0 hn1
   rw [if_neg hn0]
   have step2 : ∀ {T T' : Tm},TEq T T' → SkOk sk T → zep P G E o ⟨H,T'⟩ (fun d H'=>zDT H' (z8C (zEu ops []) acc.length opn) (runD P G E ops (skO sk o.dst) (acc ++ [H]) ((acc.length,H) :: old) (z8C (zEu ops []) acc.length opn) l (ASt.set ⟨H,T'⟩ H' o.dst d) K)) = some r → ∃ v H',z08 P G o ⟨H,T⟩ (fun d Hk=>d = v ∧ Hk = H') ∧ (zDp (kcE E) o.op = 1 → ∃ X,H' = H ++ X) ∧ (∀ x ∈ (z8C (zEu ops []) acc.length opn),zem H' x.2) ∧ z8i P G (kcE E) ops (acc ++ [H]) ((acc.length,H) :: old) (z8C (zEu ops []) acc.length opn) l (ASt.set ⟨H,T⟩ H' o.dst v) (Aft K r) := fun ht hk h=>by
    obtain ⟨d,H',h1,h2⟩ := znJ hE (Nat.lt_of_le_of_ne (Nat.pos_of_ne_zero hn0) (Ne.symm hn1)) h
    obtain ⟨h3,h4⟩ := zdw h2
    exact ⟨d,H',z5f ht h1,fun q=>absurd q hn1,h3,z6q hE (ht.set H H H' o.dst d) (hk.out H H' o.dst d) h4⟩
   split at h
   ·rename_i hg
    try rw [hg]
    exact step2 ht hk h
   ·rename_i j want hg
    try rw [hg]
    try dsimp only
    split at h
    rotate_left
    ·cases h
    rename_i t hd
    try rw [hd]
    try dsimp only
    split at h
    ·rename_i hc2
     rw [show get T t = UD from hk t (by simpa using hc2)]
     exact z6q hE (ht.set H H H o.dst UD) (hk.skip H H o.dst) h
    rcases z8K h with ⟨h1,h2⟩|⟨h1,h2⟩
    ·rw [show get T t = V (.bool true) from (ht t).trans h1]
     cases want with
     |true=>exact ⟨fun _=>step2 (ht.lit ((ht t).trans h1)) hk h2,fun q=>by cases q⟩
     |false=>exact ⟨fun q=>(by cases q),fun _=>z6q hE ((ht.lit ((ht t).trans h1)).set H H H o.dst UD) (hk.skip H H o.dst) h2⟩
    ·rw [show get T t = V (.bool false) from (ht t).trans h1]
     cases want with
     |false=>exact ⟨fun _=>step2 (ht.lit ((ht t).trans h1)) hk h2,fun q=>by cases q⟩
     |true=>exact ⟨fun q=>(by cases q),fun _=>z6q hE ((ht.lit ((ht t).trans h1)).set H H H o.dst UD) (hk.skip H H o.dst) h2⟩
inductive Hint
 |n
 |two (a b : Hint)
 |one (a : Hint)
 |join (L : List Nat) (a b : Hint)
 |lp (rows : List (Nat × TypeId × Nat)) (L Lo : List Nat) (a : Hint)
 |gh (g : Nat × Nat × TypeId × Nat) (L : List Nat) (a b : Hint)
def Hint.l : Hint → Hint|.two a _=>a|.join _ a _=>a|.gh _ _ a _=>a|h=>h
def Hint.r : Hint → Hint|.two _ b=>b|.join _ _ b=>b|.gh _ _ _ b=>b|h=>h
def Hint.J : Hint → Option (List Nat)|.join L _ _=>some L|.gh _ L _ _=>some L|_=>none
def Hint.gho : Hint → Option (Nat × Nat × TypeId × Nat)|.gh g _ _ _=>some g|_=>none
theorem Hint.gho_none {h : Hint} (hj : h.J = none) : h.gho = none := by
 cases h <;> first|rfl|cases hj
def Hint.c : Hint → Hint|.one a=>a|.lp _ _ _ a=>a|h=>h
def Hint.rows : Hint → List (Nat × TypeId × Nat)|.lp r _ _ _=>r|_=>[]
def Hint.L : Hint → List Nat|.lp _ l _ _=>l|_=>[]
def Hint.Lo : Hint → List Nat|.lp _ _ l _=>l|_=>[]
def z4S (L : List Nat) (T : Tm) : Tm := match L with
 |[]=>[]
 |i :: r=>(i,get T i) :: z4S r T
def zFv (c : Operand) (b : Bool) (T : Tm) : Tm := match c with|.tmp t=>(t,V (.bool b)) :: T|_=>T
abbrev KO (R : Type) := Exit → ASt → Option R
def zFn (x : AV) (e : TypeId) (z : Nat) (H : List AObj) (K : AV → List AObj → Option R) : Option R := match x with
 |.held (.inl (.slice none 0 0))=>K (OW H.length 0) (H ++ [⟨2,e,z,[]⟩])
 |x=>K x H
def zsQ : List (Nat × TypeId × Nat) → ASt → (ASt → Option R) → Option R
 |[],s,K=>K s
 |(i,e,z) :: r,s,K=>zFn (get s.T i) e z s.H fun d H=>zsQ r ⟨H,(i,d) :: s.T⟩ K
def zc7 : Nat → (ASt → (ASt → Option R) → KO R → Option R) → ASt → KO R → Option R
 |0,_,_,_=>none
 |m + 1,B,s,kx=>B s (fun s'=>zc7 m B s' kx) kx
def zrf (n0 : Nat) (L : List Nat) (s : ASt) (kc : ASt → Option R) : Option R :=
 z0q (decide (n0 ≤ s.H.length) && (s.H.take n0).all (ltO n0) && L.all fun i=>ltT n0 (get s.T i)) (kc ⟨s.H.take n0,z4S L s.T⟩)
def zoc (n0 : Nat) (L Lo : List Nat) (kc : ASt → Option R) (kx : KO R) : KO R := fun e s=>match e with|.normal=>zrf n0 L s kc|e=>kx e ⟨s.H,z4S Lo s.T⟩
def zd5 (n0 : Nat) (H : List AObj) (L : Tm) (kc : ASt → Option R) : Option R :=
 z0q (decide (n0 ≤ H.length) && (H.take n0).all (ltO n0) && L.all fun p=>ltT n0 p.2) (kc ⟨H.take n0,L⟩)
def zxL (J : Option (List Nat)) (s : ASt) : ASt := match J with|none=>s|some L=>⟨s.H,z4S L s.T⟩
def ghR (i off : Nat) (e : TypeId) (z : Nat) (s : ASt) : ASt := match get s.T i with
 |.held (.inr (.inl (j,0)))=>match s.H[j]? with
  |some ob=>match ob.k,ob.c[off]? with
   |1,some (.held (.inl (.slice none 0 0)))=>⟨s.H.set j { ob with c := ob.c.set off (OW s.H.length 0) } ++ [⟨2,e,z,[]⟩],s.T⟩
   |_,_=>s
  |none=>s
 |_=>s
def zCD (i : Nat) (s : ASt) : ASt := match get s.T i with
 |.held (.inr (.inl (j,0)))=>match s.H[j]? with
  |some ob=>match ob.k with
   |1=>⟨s.H.set j { ob with c := ob.c.map (ro1 s.H) },s.T⟩
   |_=>s
  |none=>s
 |_=>s
def ghS (i off : Nat) (e : TypeId) (z : Nat) (s : ASt) : ASt := match z with
 |0=>zCD i s
 |z + 1=>ghR i off e (z + 1) s
def ghJ (g : Option (Nat × Nat × TypeId × Nat)) (s : ASt) : ASt := match g with|none=>s|some q=>ghS q.1 q.2.1 q.2.2.1 q.2.2.2 s
def cdL : Code → Code|.seq a _=>a|.cond _ a _=>a|.block _ a=>a|.loop a=>a|c=>c
def cdR : Code → Code|.seq _ b=>b|.cond _ _ b=>b|c=>c
def zjd (kc : KC) (N : Nat) (ops : List Oper) : Bool := z1O ops.toArray && tailY kc ops N && zqH ops
def zF9 (P : Program) (G : Gl) (E : Env) (M : Nat) (N : FS) : Code → Hint → ASt → KO R → Option R
 |.skip,h,s,k=>k .normal s
 |.region id ops draw,h,s,k=>match draw with
  |true=>z0q (zjd (kcE E) N ops.toList) (runD P G E ops.toList [] [] [] [] ops.toList s fun s=>k .normal s)
  |false=>z0q (zEE N ops.toList) (match zFl E ops.toList with
   |true=>zD3 P G E ops.toList s (fun s=>k .normal s) (fun u s=>k (.panic (pch u)) s)
   |false=>runE P G E false ops.toList [] ops.toList s fun s=>k .normal s)
 |.seq a b,h,s,k=>zF9 P G E M N a h.l s (fun e s'=>match e with|.normal=>zF9 P G E M N b h.r (ghJ h.gho (zxL h.J s')) k|e=>k e s')
 |.cond c x y,h,s,k=>z0U (ev G s.T c) (zF9 P G E M N x h.l ⟨s.H,zFv c true s.T⟩ k) (zF9 P G E M N y h.r ⟨s.H,zFv c false s.T⟩ k)
 |.block id c,h,s,k=>zF9 P G E M N c h.c s (fun e s'=>match e with|.exit i=>(match Nat.beq i id with|true=>k .normal s'|false=>k (.exit i) s')|e=>k e s')
 |.loop c,h,s,k=>zsQ h.rows s fun s=>zc7 M (fun s kc kx=>zF9 P G E M N c h.c s (zoc s.H.length h.L h.Lo kc kx)) ⟨s.H,z4S h.L s.T⟩ k
 |.exit id,h,s,k=>k (.exit id) s
 |.ret,h,s,k=>k .ret s
 |_,_,_,_=>none
end
end Go.Proofs.YtaplemeamcgpkaaDoor

namespace Go.Proofs.YtaplemeamcgpkaaDoor
open Go.RowKit
def fzO (H : List AObj) (i n : Nat) : Option (List AV) := match H[i]? with
 |some o=>if o.k = 4 ∧ n = o.c.length ∧ o.c.all (ltA 0) = true then some o.c else none
 |none=>none
def fz1 (H : List AObj) (d : AV) : AV := match d with
 |.slice _ [.held (.inr (.inl (i,n)))]=>(match fzO H i n with|some c=>SL c|none=>d)
 |d=>d
def fzA (H : List AObj) : AV → AV
 |.agg cs=>.agg (cs.map (fz1 H))
 |d=>fz1 H d
def fzV (H : List AObj) : AV → AV
 |.iface s (.agg ds)=>.iface s (.agg (ds.map (fzA H)))
 |d=>fzA H d
theorem ztC {H : List AObj} {d : AV} (h : lt1 0 d = true) : fz1 H d = d := by
 unfold fz1
 split
 ·simp [lt1] at h
 ·rfl
theorem zvn {H : List AObj} {d : AV} (h : ltA 0 d = true) : fzA H d = d := by
 unfold fzA
 split
 ·rename_i cs
  have : cs.map (fz1 H) = cs.map id := List.map_congr_left fun x hx=>ztC (List.all_eq_true.1 h x hx)
  rw [this,List.map_id]
 ·rename_i hne
  refine ztC ?_
  unfold ltA at h
  split at h
  ·rename_i cs;exact absurd rfl (hne cs)
  ·exact h
theorem zzT {H : List AObj} {d : AV} (h : ltT 0 d = true) : fzV H d = d := by
 unfold fzV
 split
 ·rename_i s ds
  have : ds.map (fzA H) = ds.map id := List.map_congr_left fun x hx=>zvn (List.all_eq_true.1 h x hx)
  rw [this,List.map_id]
 ·rename_i hne
  refine zvn ?_
  unfold ltT at h
  split at h
  ·rename_i s ds;exact absurd rfl (hne s ds)
  ·exact h
def fzH (o : AObj) : AObj := if o.k = 4 ∧ o.c.all (ltA 0) = true then ⟨0,o.e,o.z,o.c⟩ else o
theorem zqJ {n : Nat} {e y : AV} (h : ltA n e = true) (hy : y ∈ cellsOf e) : lt1 n y = true := by
 unfold ltA at h
 split at h
 ·exact List.all_eq_true.1 h y hy
 ·rename_i hne
  have : cellsOf e = [e] := z6g hne
  rw [this] at hy
  rw [List.mem_singleton.1 hy];exact h
section
variable {w : World} {S : SS} {μ : List Value} {H : List AObj}
def frS (S : SS) (μ : List Value) (H : List AObj) : SS := fun b j d=>S b j d ∨ ∃ (i : Nat) (o : AObj) (x : Value),H[i]? = some o ∧ o.k = 4 ∧ o.c.all (ltA 0) = true ∧ μ[i]? = some x ∧ z2I x = some b ∧ (zE2 o.c)[j]? = some d
theorem zlN : Ext S μ (frS S μ H) μ := ⟨fun _ _ _ h=>.inl h,fun i x h=>⟨x,h, .inl rfl⟩⟩
theorem zeH {i : Nat} {o' : AObj} (h : (H.map fzH)[i]? = some o') (hk : o'.k ≠ 0) : H[i]? = some o' ∧ ¬ (o'.k = 4 ∧ o'.c.all (ltA 0) = true) := by
 rw [List.getElem?_map] at h
 obtain ⟨o,ho,rfl⟩ := Option.map_eq_some_iff.1 h
 unfold fzH at hk ⊢
 split
 ·rename_i hc
  rw [if_pos hc] at hk
  exact absurd rfl hk
 ·rename_i hc
  exact ⟨ho,hc⟩
theorem row4 (hr : Rel w S μ H) {i : Nat} {x : Value} {o : AObj} {b : Nat} (hx : μ[i]? = some x) (ho : H[i]? = some o) (hk : o.k = 4) (hb : z2I x = some b) : ∃ c cs,x = MR (some ⟨b,0,none⟩) o.c.length c ∧ o.c.length ≤ c ∧ c ≤ maxLen ∧ c ≠ 0 ∧ allC o.z o.c ∧ w.heap[b]? = some (.cells cs o.e (0,0)) ∧ cs.size = c * o.z ∧ reps S μ (zE2 o.c) (cs.toList.take (o.c.length * o.z)) := by
 obtain ⟨A,c,rfl,h1,h2,h3,h4⟩ := (hr.objs i x o hx ho).2.2.1 hk
 have hc0 : c ≠ 0 := by
  intro e;subst e
  cases A <;> simp [z2I] at hb
 obtain ⟨b',cs,rfl,h5,h6,h7⟩ := h4 hc0
 simp only [z2I,if_neg hc0,Option.some.injEq] at hb
 subst hb
 exact ⟨c,cs,rfl,h1,h2,hc0,h3,h5,h6,h7⟩
theorem Rel.freeze (hr : Rel w S μ H) : Rel w (frS S μ H) μ (H.map fzH) := by
 refine ⟨by simp [hr.len],fun b j d hs=>?_,fun i x o hx ho=>?_,fun i x o hx ho=>?_,fun i i' x x' o o' b hx ho hk hb hx' ho' hk' hb'=>?_,fun i x o b hx ho hk hb j d hs=>?_⟩
 ·rcases hs with hs|⟨i,o,x,ho,hk,hlt,hx,hb,hd⟩
  ·obtain ⟨u,h1,h2,h3⟩ := hr.still b j d hs
   exact ⟨u,h1,h2,h3.ext ⟨fun _ _ _ h=>.inl h,fun i x hx=>by simp at hx⟩⟩
  ·obtain ⟨c,cs,_,h1,h2,hc0,hall,hh,hsz,hrp⟩ := row4 hr hx ho hk hb
   have hjl := (List.getElem?_eq_some_iff.1 hd).1
   have hfl := z1p hall
   have hju : j < (cs.toList.take (o.c.length * o.z)).length := by rw [hrp.1];exact hjl
   obtain ⟨h3,h4⟩ := hrp.2 j d _ hd (List.getElem?_eq_getElem hju)
   refine ⟨_,?_,h3,?_⟩
   ·rw [cell_of_row w b j cs o.e (0,0) hh]
    rw [List.getElem_take]
    have : j < cs.size := by
     rw [List.length_take] at hju
     have := Array.length_toList (xs := cs);omega
    simp [Array.getElem?_eq_getElem this]
   ·have hm : lt1 0 d = true := by
     have : d ∈ zE2 o.c := List.mem_of_getElem? hd
     obtain ⟨e,he,hy⟩ := List.mem_flatMap.1 this
     exact zqJ (List.all_eq_true.1 hlt e he) hy
    have := h4.take hm
    rw [List.take_zero] at this
    exact this.ext ⟨fun _ _ _ h=>.inl h,fun i x hx=>by simp at hx⟩
 ·by_cases hk : o.k = 0
  ·exact .inl hk
  ·exact hr.kinds i x o hx (zeH ho hk).1
 ·by_cases hk : o.k = 0
  ·exact objRep.zero hk
  ·exact (hr.objs i x o hx (zeH ho hk).1).move zlN fun _ _=>rfl
 ·exact hr.sep i i' x x' o o' b hx (zeH ho hk).1 hk hb hx' (zeH ho' hk').1 hk' hb'
 ·obtain ⟨h1,h2⟩ := zeH ho hk
  rcases hs with hs|⟨i2,o2,x2,ho2,hk2,hlt,hx2,hb2,hd⟩
  ·exact hr.apart i x o b hx h1 hk hb j d hs
  ·have := hr.sep i i2 x x2 o o2 b hx h1 hk hb hx2 ho2 (by omega) hb2
   subst this
   rw [h1] at ho2;injection ho2 with ho2;subst ho2
   exact absurd ⟨hk2,hlt⟩ h2
theorem rep1.fz (hr : Rel w S μ H) {d : AV} {v : Value} (h : rep1 S μ d v) : rep1 (frS S μ H) μ (fz1 H d) v := by
 unfold fz1
 split
 ·rename_i q i n
  cases hq : fzO H i n with
  |none=>exact h.ext zlN
  |some c =>
   unfold fzO at hq
   split at hq
   ·rename_i o ho
    split at hq
    ·rename_i hc
     injection hq with hq;subst hq
     obtain ⟨hk,hn,hlt⟩ := hc
     obtain ⟨A,c',hμ,rfl,h1,h2⟩ := h
     refine ⟨A,c',by rw [hn],by rw [← hn];exact h1,h2,fun hne=>?_⟩
     have hn0 : 0 < n := by rw [hn];exact List.length_pos_iff.2 hne
     have hc0 : c' ≠ 0 := by omega
     obtain ⟨A2,c2,e,_,_,hall,h4⟩ := (hr.objs i _ o hμ ho).2.2.1 hk
     have e2 : A = A2 ∧ c' = c2 := by
      simp only [Value.tuple.injEq,Array.mk.injEq,List.cons.injEq,Value.slice.injEq,and_true] at e
      exact ⟨e.1,e.2.2⟩
     obtain ⟨rfl,rfl⟩ := e2
     obtain ⟨b,cs,rfl,h5,h6,h7⟩ := h4 hc0
     refine ⟨b,0,o.z,rfl,zbD hall fun j y hy=>.inr ⟨i,o,_,ho,hk,hlt,hμ,?_,by simpa using hy⟩⟩
     simp only [z2I]
     rw [if_neg hc0]
    ·cases hq
   ·cases hq
 ·exact h.ext zlN
theorem repA.fz (hr : Rel w S μ H) {d : AV} {v : Value} (h : repA S μ d v) : repA (frS S μ H) μ (fzA H d) v := by
 unfold repA at h
 split at h
 ·rename_i cs v
  obtain ⟨us,rfl,h1,h2⟩ := h
  refine ⟨us,rfl,by rw [h1];simp,fun j d u hd hu=>?_⟩
  rw [List.getElem?_map] at hd
  obtain ⟨d0,hd0,rfl⟩ := Option.map_eq_some_iff.1 hd
  exact ⟨(h2 j d0 u hd0 hu).1,(h2 j d0 u hd0 hu).2.fz hr⟩
 ·rename_i hne
  have h2 := h.fz hr
  unfold fzA
  split
  ·exact (hne _ rfl).elim
  ·unfold repA
   split
   ·rename_i cs _ e
    exfalso
    unfold fz1 at e
    split at e
    ·split at e <;> cases e
    ·exact hne _ e
   ·exact h2
theorem rep.fz (hr : Rel w S μ H) {d : AV} {v : Value} (h : rep S μ d v) : rep (frS S μ H) μ (fzV H d) v := by
 unfold rep at h
 split at h
 ·rename_i s ds v
  obtain ⟨us,rfl,h1,h2⟩ := h
  refine ⟨us,rfl,by rw [h1];simp,fun j d u hd hu=>?_⟩
  rw [List.getElem?_map] at hd
  obtain ⟨d0,hd0,rfl⟩ := Option.map_eq_some_iff.1 hd
  exact (h2 j d0 u hd0 hu).fz hr
 ·rename_i hne
  have h2 := h.fz hr
  unfold fzV
  split
  ·exact (hne _ _ rfl).elim
  ·unfold rep
   split
   ·rename_i s ds _ e
    exfalso
    unfold fzA at e
    split at e
    ·cases e
    ·unfold fz1 at e
     split at e
     ·split at e <;> cases e
     ·exact hne _ _ e
   ·exact h2
variable {P : Program} {G : Gl} {N : FS}
def zBM (P : Program) (rs : List ResultVar) (X : AV) : Exit → ASt → Prop
 |.normal,s=>ltT 0 X = true ∧ zCE P s.H s.T rs fun ds=>fzV s.H (ro s.H (z2s ds)) = X
 |.ret,s=>ltT 0 X = true ∧ zCE P s.H s.T rs fun ds=>fzV s.H (ro s.H (z2s ds)) = X
 |_,_=>False
theorem zjU {N : Nat} {f : FuncId} {fn : Func} {c : Code} {args : List AV} {X : AV} (hf : P.funcs[f]? = some fn) (hb : fn.body = some c) (hc : z5e P f = true) (rs : List ResultVar) (hrs : fn.results.toList = rs) (hN : fn.ntmps = N) (hargs : args.length ≤ N)
  (h : AWp P G (F0 N) 0 c (zBM P rs X) ⟨[],z2t 0 args⟩) : ACp P G f args X := by
 subst hN
 refine ⟨hc,fun w S μ vs hr hg hl hv=>?_⟩
 refine calls_of_wp hf hb ?_
 have hfr : Fr S μ (F0 fn.ntmps) (z2t 0 args) { tmps := vs.toArray ++ Array.replicate (fn.ntmps - vs.toArray.size) undef,defers := [] } := by
  refine ⟨by simp;omega,rfl,fun i=>?_⟩
  rw [z8U]
  simp only [Nat.zero_le,if_true,Nat.sub_zero]
  cases hd : args[i]? with
  |none=>trivial
  |some d =>
   have hi : i < vs.length := by rw [hl];exact (List.getElem?_eq_some_iff.1 hd).1
   have := hv i d vs[i] hd (List.getElem?_eq_getElem hi)
   simp only [Option.getD_some]
   have e : (vs.toArray ++ Array.replicate (fn.ntmps - vs.toArray.size) undef).getD i undef = vs[i] := by
    rw [Array.getD_eq_getD_getElem?,Array.getElem?_append_left (by simpa using hi)]
    simp [hi]
   rw [e];exact this
 refine wp_mono (h w S μ _ hr hfr hg) ?_
 rintro e a' w' ⟨s',S',μ',hq,hr',hf',hst⟩
 have fin : (ltT 0 X = true ∧ zCE P s'.H s'.T rs fun ds=>fzV s'.H (ro s'.H (z2s ds)) = X) → a'.defers = [] ∧ ∃ v,(results fn a'.tmps).run P w' = .ok v w' ∧ zns w S μ [] (fun r H'=>r = X ∧ H' = []) (.returned v) w' := by
  rintro ⟨hX,hK⟩
  obtain ⟨v,r,hrun,hrep,hx⟩ := z4f (K := fun r=>fzV s'.H (ro s'.H r) = X) hrs hr' hf' hK
  have h1 := (hrep.toRo hr').fz hr'
  rw [hx] at h1
  have hle : HLe (s'.H.map fzH) [] := by cases hh : s'.H.map fzH <;> trivial
  refine ⟨hf'.nodef,v,hrun,v,X,[],frS S' μ' s'.H,μ'.take 0,rfl,⟨rfl,rfl⟩,hr'.freeze.le hle rfl,h1.take hX,hst.trans ⟨rfl,rfl,rfl,Nat.le_refl _,fun _ _ _=>rfl,fun _ _ _ h=>.inl h,fun i x hi hx=>absurd hi (Nat.not_lt_zero _),fun b j d h _=>?_,fun b k _=>?_⟩⟩
  ·rcases h with h|⟨i,o,x,ho,hk,_,hx,hb,_⟩
   ·exact .inl h
   ·exact .inr ⟨i,x,o,hx,ho,by omega,hb⟩
  ·obtain ⟨i,x,o,hx,ho,_⟩ := k
   simp at ho
 cases e with
 |normal=>exact fin hq
 |ret=>exact fin hq
 |exit id=>exact hq.elim
 |goto l=>exact hq.elim
 |panic ch=>exact hq.elim
 |outgrown=>exact hq.elim
end
end Go.Proofs.YtaplemeamcgpkaaDoor

namespace Go.Proofs.YtaplemeamcgpkaaDoor
open Go.RowKit
section
variable {R : Type} {P : Program} {G : Gl} {E : Env} {M n : Nat} {N : FS} {H : List AObj} {T T' : Tm}
theorem z79 : ∀ (L : List Nat) (T : Tm) (i : Nat),get (z4S L T) i = get T i ∨ get (z4S L T) i = .nil
 |[],T,i=>.inr rfl
 |j :: r,T,i=>by
  simp only [z4S,_root_.Go.Proofs.YtaplemeamcgpkaaDoor.get]
  split
  ·rename_i e;subst e;exact .inl rfl
  ·exact z79 r T i
theorem zkp {m : Nat} : ∀ (L : List Nat) (T : Tm),(L.all fun i=>ltT m (get T i)) = true → TLe m T (z4S L T)
 |[],T,_=>trivial
 |j :: r,T,h=>by
  simp only [List.all_cons,Bool.and_eq_true] at h
  exact ⟨rfl,h.1,zkp r T h.2⟩
theorem HLe.take : ∀ (H : List AObj) (m : Nat),HLe H (H.take m)
 |[],m=>by simp [HLe]
 |o :: r,0=>by simp [HLe]
 |o :: r,m + 1=>⟨.inl rfl,HLe.take r m⟩
theorem rowsE_ok {c : Code} {Q : Exit → ASt → Prop} {K : ASt → Option R} {r : R} (hQ : ∀ s, n ≤ s.H.length → K s = some r → AWp P G N n c Q s) : ∀ {l : List (Nat × TypeId × Nat)} {s : ASt}, n ≤ s.H.length → zsQ   l s K = some r → AWp P G N n c Q s
  | [], s, hn, h => hQ s hn h
  | (i, e, z) :: l, ⟨H, T⟩, hn, h => by
    unfold zsQ   at h
    unfold zFn  at h
    split at h
    · rename_i hi
      refine zpZ     i e z hi hn (rowsE_ok hQ ?_ h)
      simp only [List.length_append]
      exact Nat.le_trans hn (Nat.le_add_right _ _)
    · exact AWp.text (TEq.lit (TEq.refl T) rfl) (rowsE_ok hQ hn h)
theorem AWp.post {c : Code} {Q Q' : Exit → ASt → Prop} {s : ASt} (h : AWp P G N n c Q s) (q : ∀ e s',Q e s' → ∃ T2,(∀ i,get T2 i = get s'.T i ∨ get T2 i = .nil) ∧ Q' e ⟨s'.H,T2⟩) : AWp P G N n c Q' s := by
 intro w S μ a hr hf hg
 refine wp_mono (h w S μ a hr hf hg) ?_
 rintro e a' w' ⟨s',S',μ',hq,hr',hf',hst⟩
 obtain ⟨T2,ht,q'⟩ := q e s' hq
 refine ⟨⟨s'.H,T2⟩,S',μ',q',hr',⟨hf'.size,hf'.nodef,fun i=>?_⟩,hst⟩
 rcases ht i with e|e
 ·rw [e];exact hf'.slot i
 ·rw [e];exact zeD _ _ _
theorem znb {s : ASt} {Q : Exit → ASt → Prop} {ι : Type} (I : ι → ASt) (M : ι → Nat) (i0 : ι) {c : Code} (h0 : s = I i0) (hr : ∀ i,AWp P G N n c (zx6 n I M i Q) (I i)) : AWp P G N n (.loop c) Q s := by
 intro w S μ a hrel hfr hg
 subst h0
 refine wp_loop_ghost (fun m a' w'=>∃ i S' μ',M i = m ∧ Rel w' S' μ' (I i).H ∧ Fr S' μ' N (I i).T a' ∧ GOk G S' ∧ Step n w S μ (I i0).H w' S' μ' (I i).H) (M i0) ⟨i0,S,μ,rfl,hrel,hfr,hg,Step.refl _ _ _ _ _⟩ ?_
 rintro m a' w' ⟨i,S',μ',rfl,hrel',hfr',hg',hst⟩
 refine wp_mono (hr i w' S' μ' a' hrel' hfr' hg') ?_
 rintro e a2 w2 ⟨s2,S2,μ2,hq,hr2,hf2,hs2⟩
 cases e with
 |normal =>
  obtain ⟨i',hle,hn',hm⟩ := hq
  exact ⟨M i',hm,i',S2,_,rfl,hle.rel hr2,hle.fr hf2,hg'.ext hs2.still,(hst.trans hs2).trans (hle.step hn' w2 S2 μ2)⟩
 |exit id=>exact ⟨s2,S2,μ2,hq,hr2,hf2,hst.trans hs2⟩
 |goto l=>exact ⟨s2,S2,μ2,hq,hr2,hf2,hst.trans hs2⟩
 |ret=>exact ⟨s2,S2,μ2,hq,hr2,hf2,hst.trans hs2⟩
 |panic ch=>exact ⟨s2,S2,μ2,hq,hr2,hf2,hst.trans hs2⟩
 |outgrown=>exact ⟨s2,S2,μ2,hq,hr2,hf2,hst.trans hs2⟩
theorem Rel.recells {w : World} {S : SS} {μ : List Value} (hr : Rel w S μ H) {j : Nat} {ob : AObj} (hj : H[j]? = some ob) (hk : ob.k = 1) (c' : List AV) (hl : c'.length = ob.c.length) (hd : ∀ (q : Nat) (d' : AV),c'[q]? = some d' → ∃ d,ob.c[q]? = some d ∧ ∀ u,rep1 S μ d u → rep1 S μ d' u) :
  Rel w S μ (H.set j { ob with c := c' }) ∧ Step H.length w S μ H w S μ (H.set j { ob with c := c' }) := by
 have hjl : j < H.length := (List.getElem?_eq_some_iff.1 hj).1
 have at_ : ∀ (i : Nat) (o : AObj),(H.set j { ob with c := c' })[i]? = some o → (i = j ∧ o = { ob with c := c' }) ∨ (i ≠ j ∧ H[i]? = some o) := by
  intro i o h
  rcases Nat.decEq i j with q|q
  ·rw [List.getElem?_set_ne (fun e=>q e.symm)] at h;exact .inr ⟨q,h⟩
  ·subst q
   rw [List.getElem?_set_self hjl] at h
   cases h;exact .inl ⟨rfl,rfl⟩
 have old : ∀ (i : Nat) (o : AObj),(H.set j { ob with c := c' })[i]? = some o → ∃ o',H[i]? = some o' ∧ o'.k = o.k ∧ (o'.k = 2 → o'.c = o.c ∧ o'.z = o.z) := by
  intro i o h
  rcases at_ i o h with ⟨rfl,rfl⟩|⟨_,h⟩
  ·exact ⟨ob,hj,rfl,fun q=>by omega⟩
  ·exact ⟨o,h,rfl,fun _=>⟨rfl,rfl⟩⟩
 refine ⟨⟨by rw [List.length_set];exact hr.len,hr.still,?_,?_,?_,?_⟩,⟨rfl,rfl,rfl,Nat.le_refl _,fun _ _ _=>rfl,fun _ _ _ h=>h,fun i x _ hx=>⟨x,hx, .inl rfl⟩,fun _ _ _ h _=>.inl h,?_⟩⟩
 ·intro i x o hx ho
  obtain ⟨o',h1,h2,_⟩ := old i o ho
  rw [← h2];exact hr.kinds i x o' hx h1
 ·intro i x o hx ho
  rcases at_ i o ho with ⟨rfl,rfl⟩|⟨_,h⟩
  ·obtain ⟨b,cs,h1,h2,h3⟩ := (hr.objs i x ob hx hj).1 hk
   refine ⟨fun _=>⟨b,cs,h1,h2,?_⟩,fun q=>by simp only at q;omega,fun q=>by simp only at q;omega,fun q=>by simp only at q;omega⟩
   refine ⟨by simp only [hl];exact h3.1,fun q dd u hq hu=>?_⟩
   simp only at hq
   obtain ⟨d,hq1,hq2⟩ := hd q dd hq
   obtain ⟨k1,k2⟩ := h3.2 q d u hq1 hu
   exact ⟨k1,hq2 u k2⟩
  ·exact hr.objs i x o hx h
 ·intro i i' x x' o o' b hx ho hk1 hb hx' ho' hk2 hb'
  obtain ⟨p,h1,h2,_⟩ := old i o ho
  obtain ⟨p',h1',h2',_⟩ := old i' o' ho'
  exact hr.sep i i' x x' p p' b hx h1 (by rw [h2];exact hk1) hb hx' h1' (by rw [h2'];exact hk2) hb'
 ·intro i x o b hx ho hk1 hb jj dd hs
  obtain ⟨p,h1,h2,h3⟩ := old i o ho
  obtain ⟨q1,q2⟩ := hr.apart i x p b hx h1 (by rw [h2];exact hk1) hb jj dd hs
  obtain ⟨r1,r2⟩ := h3 q1
  rw [← r1,← r2,← h2]
  exact ⟨q1,q2⟩
 ·rintro b ⟨i,x,o,hx,ho,hk1,hb⟩ _
  obtain ⟨p,h1,h2,_⟩ := old i o ho
  exact ⟨i,x,p,hx,h1,by rw [h2];exact hk1,hb⟩
theorem Rel.recell {w : World} {S : SS} {μ : List Value} (hr : Rel w S μ H) {j off : Nat} {ob : AObj} {d d' : AV} (hj : H[j]? = some ob) (hk : ob.k = 1) (hc : ob.c[off]? = some d) (hd : ∀ u,rep1 S μ d u → rep1 S μ d' u) :
  Rel w S μ (H.set j { ob with c := ob.c.set off d' }) ∧ Step H.length w S μ H w S μ (H.set j { ob with c := ob.c.set off d' }) :=
 hr.recells hj hk _ (List.length_set ..) fun q dd hq=>by
  rcases Nat.decEq q off with e|e
  ·rw [List.getElem?_set_ne (fun x=>e x.symm)] at hq
   exact ⟨dd,hq,fun _ h=>h⟩
  ·subst e
   rw [List.getElem?_set_self (List.getElem?_eq_some_iff.1 hc).1] at hq
   cases hq
   exact ⟨d,hc,hd⟩
theorem zt8 (i off : Nat) (e : TypeId) (z : Nat) (s : ASt) : s.H.length ≤ (ghR i off e z s).H.length := by
 unfold ghR
 split
 ·split
  ·split
   ·simp
   ·exact Nat.le_refl _
  ·exact Nat.le_refl _
 ·exact Nat.le_refl _
theorem zrw (i : Nat) (s : ASt) : s.H.length ≤ (zCD i s).H.length := by
 unfold zCD
 split
 ·split
  ·split
   ·simp
   ·exact Nat.le_refl _
  ·exact Nat.le_refl _
 ·exact Nat.le_refl _
theorem zwL (i off : Nat) (e : TypeId) (z : Nat) (s : ASt) : s.H.length ≤ (ghS i off e z s).H.length := by
 cases z with
 |zero=>exact zrw i s
 |succ z=>exact zt8 i off e (z + 1) s
theorem zfL (g : Option (Nat × Nat × TypeId × Nat)) (s : ASt) : s.H.length ≤ (ghJ g s).H.length := by
 cases g with
 |none=>exact Nat.le_refl _
 |some q=>exact zwL _ _ _ _ s
theorem zqu (g : Option (Nat × Nat × TypeId × Nat)) {s : ASt} {w : World} {S : SS} {μ : List Value} {a : Act} (hr : Rel w S μ s.H) (hf : Fr S μ N s.T a) :
  ∃ μ',Rel w S μ' (ghJ g s).H ∧ Fr S μ' N (ghJ g s).T a ∧ Step s.H.length w S μ s.H w S μ' (ghJ g s).H := by
 have triv : ∃ μ',Rel w S μ' s.H ∧ Fr S μ' N s.T a ∧ Step s.H.length w S μ s.H w S μ' s.H := ⟨μ,hr,hf,Step.refl ..⟩
 match g with
 |none=>exact triv
 |some (i,off,e,0) =>
  show ∃ μ',Rel w S μ' (zCD i s).H ∧ Fr S μ' N (zCD i s).T a ∧ Step s.H.length w S μ s.H w S μ' (zCD i s).H
  unfold zCD
  split
  ·split
   ·rename_i ob hj
    split
    ·rename_i hk
     obtain ⟨h3,h4⟩ := hr.recells hj hk (ob.c.map (ro1 s.H)) (List.length_map ..) fun q d' hq=>by
      rw [List.getElem?_map] at hq
      obtain ⟨d,hd,rfl⟩ := Option.map_eq_some_iff.1 hq
      exact ⟨d,hd,fun u hu=>hu.toRo hr⟩
     exact ⟨μ,h3,hf,h4⟩
    ·exact triv
   ·exact triv
  ·exact triv
 |some (i,off,e,z + 1) =>
  show ∃ μ',Rel w S μ' (ghR i off e (z + 1) s).H ∧ Fr S μ' N (ghR i off e (z + 1) s).T a ∧ Step s.H.length w S μ s.H w S μ' (ghR i off e (z + 1) s).H
  unfold ghR
  split
  ·rename_i j hi
   split
   ·rename_i ob hj
    split
    ·rename_i hk hc
     obtain ⟨h1,h2⟩ := hr.nilRow none e (z + 1)
     have hjl : j < s.H.length := (List.getElem?_eq_some_iff.1 hj).1
     obtain ⟨h3,h4⟩ := h1.recell (off := off) (d' := OW s.H.length 0) (by rw [List.getElem?_append_left hjl];exact hj) hk hc (fun u hu=>⟨none,0,0,none,0,by rw [← hr.len];simp,Nat.le_refl _,hu.1,fun _=>⟨rfl,rfl⟩⟩)
     rw [List.set_append_left _ _ hjl] at h3 h4
     exact ⟨_,h3,⟨hf.size,hf.nodef,fun k=>(hf.slot k).ext (ziK S μ _)⟩,h2.trans (h4.less (by simp only [List.length_append];omega))⟩
    ·exact triv
   ·exact triv
  ·exact triv
theorem zhl {c : Code} {Q : Exit → ASt → Prop} {s : ASt} (g : Option (Nat × Nat × TypeId × Nat)) (hn : n ≤ s.H.length) (h : AWp P G N n c Q (ghJ g s)) : AWp P G N n c Q s := by
 intro w S μ a hr hf hg
 obtain ⟨μ',h1,h2,h3⟩ := zqu g hr hf
 exact wp_mono (h w S μ' a h1 h2 hg) fun _ _ _ k=>Lift.trans (h3.less hn) k
theorem z3e (hm : P.follows .mixedOrders = true) (hE : z9t P G E) {r : R} : ∀ (c : Code) (h : Hint) (s : ASt) (k : KO R),n ≤ s.H.length → zF9 P G E M N c h s k = some r → AWp P G N n c (fun e s'=>k e s' = some r) s
 |.skip,h,s,k,hn,hx=>z0v hx
 |.region id ops draw,h,s,k,hn,hx=>by
  cases draw with
  |true =>
   obtain ⟨h1,h2⟩ := z04 (show z0q (zjd (kcE E) N ops.toList) (runD P G E ops.toList [] [] [] [] ops.toList s fun s=>k .normal s) = some r from hx)
   simp only [zjd,Bool.and_eq_true] at h1
   have := zo0 (n := n) (ops := ops.toList) (id := id) (s := s) (G := G) (Q := fun e s'=>e = .normal ∧ Aft (fun s=>k .normal s) r s') hm h1.1.1 h1.1.2 h1.2 hn (z2B (fun s q=>⟨rfl,q⟩) (z6q hE (TEq.refl s.T) SkOk.nil h2))
   rw [Array.toArray_toList] at this
   refine this.post fun e s' q=>?_
   obtain ⟨rfl,T2,ht,q⟩ := q
   exact ⟨T2,fun i=>.inl (ht i).symm,q⟩
  |false =>
   obtain ⟨h1,h2⟩ := z04 (show z0q (zEE N ops.toList) (match zFl E ops.toList with
    |true=>zD3 P G E ops.toList s (fun s=>k .normal s) (fun u s=>k (.panic (pch u)) s)
    |false=>runE P G E false ops.toList [] ops.toList s fun s=>k .normal s) = some r from hx)
   split at h2
   ·have := zj8 (n := n) (id := id) (s := s) (G := G) (Q := fun e s'=>(e = .normal ∧ Aft (fun s=>k .normal s) r s') ∨ ∃ u,e = .panic (pch u) ∧ zFC (fun u s=>k (.panic (pch u)) s) r u s') h1 hn (zbW (fun s q=>.inl ⟨rfl,q⟩) (fun u s q=>.inr ⟨u,rfl,q⟩) (zpQ hE (TEq.refl s.T) h2))
    rw [Array.toArray_toList] at this
    refine this.post fun e s' q=>?_
    rcases q with ⟨rfl,T2,ht,q⟩|⟨u,rfl,T2,ht,q⟩
    ·exact ⟨T2,fun i=>.inl (ht i).symm,q⟩
    ·exact ⟨T2,fun i=>.inl (ht i).symm,q⟩
   have := zbo (n := n) (id := id) (s := s) (G := G) (Q := fun e s'=>e = .normal ∧ Aft (fun s=>k .normal s) r s') h1 hn (z7i (fun s q=>⟨rfl,q⟩) (zaf hE (TEq.refl s.T) SkOk.nil h2))
   rw [Array.toArray_toList] at this
   refine this.post fun e s' q=>?_
   obtain ⟨rfl,T2,ht,q⟩ := q
   exact ⟨T2,fun i=>.inl (ht i).symm,q⟩
 |.seq a b,h,s,k,hn,hx=>by
  refine zcL (AWp.mono (AWp.len (z3e hm hE a h.l s _ hn hx) hn) fun e s' q=>?_)
  obtain ⟨q,hl⟩ := q
  cases e with
  |normal =>
   have q : zF9 P G E M N b h.r (ghJ h.gho (zxL h.J s')) k = some r := q
   cases hj : h.J with
   |none=>rw [hj] at q;exact zhl h.gho hl (z3e hm hE b h.r (ghJ h.gho s') k (Nat.le_trans hl (zfL _ _)) q)
   |some L=>rw [hj] at q;exact AWp.forget (z79 L s'.T) (zhl (s := ⟨s'.H,z4S L s'.T⟩) h.gho hl (z3e hm hE b h.r (ghJ h.gho ⟨s'.H,z4S L s'.T⟩) k (Nat.le_trans hl (zfL h.gho ⟨s'.H,z4S L s'.T⟩)) q))
  |exit id=>exact q
  |goto l=>exact q
  |ret=>exact q
  |panic ch=>exact q
  |outgrown=>exact q
 |.cond c x y,h,s,k,hn,hx=>by
  have lit : ∀ b,ev G s.T c = V (.bool b) → TEq s.T (zFv c b s.T) := by
   intro b hb
   cases c with
   |tmp t=>exact TEq.lit (TEq.refl _) hb
   |const v=>exact TEq.refl _
   |global g=>exact TEq.refl _
   |func f=>exact TEq.refl _
  rcases z8K (show z0U (ev G s.T c) _ _ = some r from hx) with ⟨h1,h2⟩|⟨h1,h2⟩
  ·exact zgj h1 (fun _=>AWp.text (lit _ h1) (z3e hm hE x h.l ⟨s.H,_⟩ k hn h2)) (fun q=>by cases q)
  ·exact zgj h1 (fun q=>by cases q) (fun _=>AWp.text (lit _ h1) (z3e hm hE y h.r ⟨s.H,_⟩ k hn h2))
 |.block id c,h,s,k,hn,hx=>by
  refine z0p (AWp.mono (z3e hm hE c h.c s _ hn hx) fun e s' q=>?_)
  cases e with
  |normal=>exact q
  |exit i =>
   simp only [z96]
   split
   ·rename_i e
    have hb : Nat.beq i id = true := Nat.beq_eq.mpr e
    dsimp only at q
    rw [hb] at q;exact q
   ·rename_i e
    have hb : Nat.beq i id = false := by
     cases hb : Nat.beq i id with
     |false=>rfl
     |true=>exact absurd (Nat.eq_of_beq_eq_true hb) e
    dsimp only at q
    rw [hb] at q;exact q
  |goto l=>exact q
  |ret=>exact q
  |panic ch=>exact q
  |outgrown=>exact q
 |.loop c,h,s,k,hn,hx=>by
  refine rowsE_ok (K := fun s=>zc7 M (fun s kc kx=>zF9 P G E M N c h.c s (zoc s.H.length h.L h.Lo kc kx)) ⟨s.H,z4S h.L s.T⟩ k) (fun s hn hx=>?_) hn hx
  refine AWp.forget (T' := z4S h.L s.T) (z79 h.L s.T) ?_
  refine znb (ι := { p : Nat × ASt // n ≤ p.2.H.length ∧ zc7 p.1 (fun s kc kx=>zF9 P G E M N c h.c s (zoc s.H.length h.L h.Lo kc kx)) p.2 k = some r }) (fun p=>p.1.2) (fun p=>p.1.1) ⟨(M,⟨s.H,z4S h.L s.T⟩),hn,hx⟩ rfl ?_
  rintro ⟨⟨m,s⟩,hn,hx⟩
  cases m with
  |zero=>cases hx
  |succ m =>
   refine AWp.post (z3e hm hE c h.c s _ hn hx) fun e s' q=>?_
   have other : k e ⟨s'.H,z4S h.Lo s'.T⟩ = some r → ∃ T2,(∀ i,get T2 i = get s'.T i ∨ get T2 i = .nil) ∧ k e ⟨s'.H,T2⟩ = some r := fun q=>⟨z4S h.Lo s'.T,z79 _ _,q⟩
   cases e with
   |normal =>
    obtain ⟨h1,h2⟩ := z04 (show z0q _ _ = some r from q)
    simp only [Bool.and_eq_true,decide_eq_true_eq] at h1
    have hl : (s'.H.take s.H.length).length = s.H.length := by rw [List.length_take];omega
    refine ⟨s'.T,fun i=>.inl rfl,⟨(m,⟨s'.H.take s.H.length,z4S h.L s'.T⟩),by rw [hl];exact hn,h2⟩,⟨HLe.take _ _,?_,?_⟩,?_,Nat.lt_succ_self m⟩
    ·show (s'.H.take s.H.length).all (ltO (s'.H.take s.H.length).length) = true
     rw [hl];exact h1.1.2
    ·show TLe (s'.H.take s.H.length).length s'.T (z4S h.L s'.T)
     rw [hl];exact zkp _ _ h1.2
    ·show n ≤ (s'.H.take s.H.length).length
     rw [hl];exact hn
   |exit id=>exact other q
   |goto l=>exact other q
   |ret=>exact other q
   |panic ch=>exact other q
   |outgrown=>exact other q
 |.rangeFunc ..,h,s,k,hn,hx=>by cases hx
 |.scope _,h,s,k,hn,hx=>by cases hx
 |.label _,h,s,k,hn,hx=>by cases hx
 |.goto _,h,s,k,hn,hx=>by cases hx
 |.refuse _,h,s,k,hn,hx=>by cases hx
 |.exit id,h,s,k,hn,hx=>z0u hx
 |.ret,h,s,k,hn,hx=>z0H hx
def zDZ (P : Program) (H : List AObj) (T : Tm) : List ResultVar → (List AV → RO) → RO
 |[],K=>K []
 |.tmp t :: rs,K=>zDZ P H T rs fun ds=>K (get T t :: ds)
 |.cell b t :: rs,K=>z0l (z0z P t) H (get T b) fun d=>zDZ P H T rs fun ds=>K (d :: ds)
theorem zd3 {r : AV × List AObj} : ∀ {rs : List ResultVar} {K : List AV → RO},zDZ P H T rs K = some r → zCE P H T rs fun ds=>K ds = some r
 |[],K,h=>h
 |.tmp t :: rs,K,h=>zd3 (rs := rs) h
 |.cell b t :: rs,K,h=>z4j (fun d q=>zd3 (rs := rs) q) (z9m h)
def cbE {R : Type} (b : Bool) (x y : R) : R := match b with|true=>x|false=>y
def zAG (H : List AObj) (X : AV) : RO := z0q (ltT 0 (fzV H X)) (some (fzV H X,[]))
def z4l (H : List AObj) (X : AV) : RO := cbE (ltT 0 X) (some (X,[])) (zAG H X)
theorem zlY {H H' : List AObj} {X Y : AV} (h : z4l H Y = some (X,H')) : ltT 0 X = true ∧ fzV H Y = X := by
 unfold z4l cbE at h
 split at h
 ·rename_i hl
  cases h
  exact ⟨hl,zzT hl⟩
 ·obtain ⟨h1,h2⟩ := z04 h
  cases h2
  exact ⟨h1,rfl⟩
def zBB (P : Program) (rs : List ResultVar) : KO (AV × List AObj) := fun e s=>match e with
 |.normal=>zDZ P s.H s.T rs fun ds=>z4l s.H (ro s.H (z2s ds))
 |.ret=>zDZ P s.H s.T rs fun ds=>z4l s.H (ro s.H (z2s ds))
 |_=>none
def z84 (n : Nat) (H : List AObj) (X : AV) : RO := z0q (decide (n ≤ H.length) && (H.take n).all (ltO n) && ltT n X) (some (X,H.take n))
def zBa (P : Program) (n : Nat) (rs : List ResultVar) : KO (AV × List AObj) := fun e s=>match e with
 |.normal=>zDZ P s.H s.T rs fun ds=>z84 n s.H (ro s.H (z2s ds))
 |.ret=>zDZ P s.H s.T rs fun ds=>z84 n s.H (ro s.H (z2s ds))
 |_=>none
theorem zus {N : Nat} (hm : P.follows .mixedOrders = true) (hE : z9t P G E) {f : FuncId} {fn : Func} {c : Code} {args : List AV} (hf : P.funcs[f]? = some fn) (hb : fn.body = some c) (hc : z5e P f = true) (rs : List ResultVar) (hrs : fn.results.toList = rs) (hN : fn.ntmps = N) (hargs : args.length ≤ N) (h : Hint)
  {X : AV} {H' : List AObj} (hx : zF9 P G E M (F0 N) c h ⟨[],z2t 0 args⟩ (zBB P rs) = some (X,H')) : ACp P G f args X := by
 have key := z3e (n := 0) hm hE c h ⟨[],z2t 0 args⟩ _ (Nat.zero_le _) hx
 have fin : ∀ s : ASt,(zDZ P s.H s.T rs fun ds=>z4l s.H (ro s.H (z2s ds))) = some (X,H') → ltT 0 X = true ∧ zCE P s.H s.T rs fun ds=>fzV s.H (ro s.H (z2s ds)) = X := by
  intro s q
  have q := zd3 q
  have q2 : zCE P s.H s.T rs fun ds=>ltT 0 X = true ∧ fzV s.H (ro s.H (z2s ds)) = X := z1Q (fun ds w=>zlY w) q
  refine ⟨?_,z1Q (fun ds w=>w.2) q2⟩
  clear q hx key
  have : ∀ (rs : List ResultVar) (K : List AV → Prop),(∀ ds,K ds → ltT 0 X = true) → zCE P s.H s.T rs K → ltT 0 X = true := by
   intro rs
   induction rs with
   |nil=>intro K hK h;exact hK _ h
   |cons a rs ih =>
    intro K hK h
    cases a with
    |tmp t=>exact ih _ (fun ds=>hK _) h
    |cell b t =>
     obtain ⟨d,_,h2⟩ := z5z h
     exact ih _ (fun ds=>hK _) h2
  exact this rs _ (fun ds w=>w.1) q2
 refine zjU hf hb hc rs hrs hN hargs (AWp.mono key fun e s q=>?_)
 cases e with
 |normal=>exact fin s q
 |ret=>exact fin s q
 |exit id=>cases q
 |goto l=>cases q
 |panic ch=>cases q
 |outgrown=>cases q
theorem zuY {N : Nat} (hm : P.follows .mixedOrders = true) (hE : z9t P G E) {f : FuncId} {fn : Func} {c : Code} {args : List AV} (hf : P.funcs[f]? = some fn) (hb : fn.body = some c) (hc : z5e P f = true) (rs : List ResultVar) (hrs : fn.results.toList = rs) (hN : fn.ntmps = N) (hargs : args.length ≤ N) (h : Hint)
  {X : AV} {H' : List AObj} (hx : zF9 P G E M (F0 N) c h ⟨H,z2t 0 args⟩ (zBa P H.length rs) = some (X,H')) : AC P G f args H (Is X H') := by
 have key := z3e (n := H.length) hm hE c h ⟨H,z2t 0 args⟩ _ (Nat.le_refl _) hx
 have fin : ∀ s : ASt,(zDZ P s.H s.T rs fun ds=>z84 H.length s.H (ro s.H (z2s ds))) = some (X,H') →
   zCE P s.H s.T rs fun ds=>∃ X' H'',(X' = z2s ds ∨ X' = ro s.H (z2s ds)) ∧ HLe s.H H'' ∧ H''.all (ltO H''.length) = true ∧ H.length ≤ H''.length ∧ ltT H''.length X' = true ∧ Is X H' X' H'' := by
  intro s q
  refine z1Q (fun ds w=>?_) (zd3 q)
  obtain ⟨h1,h2⟩ := z04 w
  simp only [Bool.and_eq_true,decide_eq_true_eq] at h1
  have hl : (s.H.take H.length).length = H.length := by rw [List.length_take];omega
  cases h2
  exact ⟨_,_, .inr rfl,HLe.take _ _,by rw [hl];exact h1.1.2,by rw [hl];exact Nat.le_refl _,by rw [hl];exact h1.2,rfl,rfl⟩
 refine zaR hf hb hc rs hrs N hN hargs (AWp.mono key fun e s q=>?_)
 cases e with
 |normal=>exact fin s q
 |ret=>exact fin s q
 |exit id=>cases q
 |goto l=>cases q
 |panic ch=>cases q
 |outgrown=>cases q
end
end Go.Proofs.YtaplemeamcgpkaaDoor

