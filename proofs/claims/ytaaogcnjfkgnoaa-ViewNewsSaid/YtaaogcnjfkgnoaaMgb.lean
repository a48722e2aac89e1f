/-
  Texts laid together, part 2 of 8: laws of a walk over data, contracts of functions, each whole by itself.
-/
import Derived.Test.YtaaogcnjfkgnoaaMga
import Derived.ProofKit
import Derived.OpenShut
import Derived.ShutString
import Derived.ChangeOld
import Derived.Deep.Slices
import Derived.DeepKeys
set_option maxRecDepth 100000
noncomputable section
set_option linter.unusedVariables false
set_option linter.unusedSimpArgs false
namespace Go.Proofs.Ytaaogcnjfkgnoaa
open Go.RowKit
section
variable {P : Program} {G : Gl} {N : FS} {n : Nat} {s s' : ASt} {H H' : List AObj} {T : Tm}
def zFd (P : Program) (G : Gl) (f : FuncId) (args : List AV) (K : AV → Prop) : Prop := ∃ X,ACp P G f args X ∧ args.all (ltT 0) = true ∧ K X
def z3I (P : Program) (G : Gl) (o : Oper) (s : ASt) (K : AV → Prop) : Prop :=
 match o.op with
 |.call { callee := .value (.func f),args := args,argTypes := _ }=>zFd P G f ((args.toList.map (ev G s.T)).map (ro s.H)) K
 |_=>loud o.op = false ∧ z0A P G o s fun d H'=>H' = s.H ∧ K d
theorem zx5 {l : List AV} {i : Nat} {K : AV → Prop} (h : nth l i K) : ∃ d,nth l i (· = d) ∧ K d := by obtain ⟨d,h1,h2⟩ := h;exact ⟨d,⟨d,h1,rfl⟩,h2⟩
theorem zbZ {k : Nat} {l : List AV} {i : Nat} {K : AV → Prop} (h : z6R k l i K) : ∃ d,z6R k l i (· = d) ∧ K d := by
 unfold z6R at h ⊢
 by_cases h1 : k = 1
 ·simp only [if_pos h1] at h ⊢;exact zx5 h
 ·simp only [if_neg h1] at h ⊢;exact ⟨_,⟨h.1,h.2.1,rfl⟩,h.2.2⟩
theorem z4y {k : Nat} {l : List AV} {i : Nat} {K K' : AV → Prop} (h : z6R k l i K) (q : ∀ d,K d → K' d) : z6R k l i K' := by
 unfold z6R at h ⊢
 by_cases h1 : k = 1
 ·simp only [if_pos h1] at h ⊢;obtain ⟨d,h2,h3⟩ := h;exact ⟨d,h2,q d h3⟩
 ·simp only [if_neg h1] at h ⊢;exact ⟨h.1,h.2.1,q _ h.2.2⟩
theorem zji {x : AV} {K : List AV → Prop} (h : z8K H x K) : ∃ es,z8K H x (· = es) ∧ K es := by
 unfold z8K at h ⊢
 split at h
 ·exact ⟨_,rfl,h⟩
 ·obtain ⟨o,h1,h2,h3,h4⟩ := h;exact ⟨_,⟨o,h1,h2,h3,rfl⟩,h4⟩
 ·exact ⟨_,rfl,h⟩
 ·exact ⟨_,rfl,h⟩
 ·exact h.elim
theorem z3m {x : AV} {K K' : List AV → Prop} (h : z8K H x K) (q : ∀ d,K d → K' d) : z8K H x K' := by
 unfold z8K at h ⊢
 split at h
 ·exact q _ h
 ·obtain ⟨o,h1,h2,h3,h4⟩ := h;exact ⟨o,h1,h2,h3,q _ h4⟩
 ·exact q _ h
 ·exact q _ h
 ·exact h.elim
theorem zrm {x : Option AV} {d : Int} {K : Int → Prop} (h : asI x d K) : ∃ i,asI x d (· = i) ∧ K i := by
 unfold asI at h ⊢
 split at h
 ·exact ⟨_,rfl,h⟩
 ·exact ⟨_,rfl,h⟩
 ·exact h.elim
theorem z8Z {x : Option AV} {d : Int} {K K' : Int → Prop} (h : asI x d K) (q : ∀ d,K d → K' d) : asI x d K' := by
 unfold asI at h ⊢
 split at h
 ·exact q _ h
 ·exact q _ h
 ·exact h.elim
theorem zyS {op : BinOp} {k k' : IntKind} {a b : Int} {K : AV → Prop} (h : zKY op k a k' b K) : ∃ d,zKY op k a k' b (· = d) ∧ K d := by
 cases op <;> simp only [zKY] at h ⊢ <;> first|exact ⟨_,⟨h.1,h.2.1,rfl⟩,h.2.2⟩|exact ⟨_,⟨h.1,rfl⟩,h.2⟩
theorem zyH {op : BinOp} {a b : ByteArray} {K : AV → Prop} (h : zNw op a b K) : ∃ d,zNw op a b (· = d) ∧ K d := by
 cases op <;> simp only [zNw] at h ⊢ <;> first|exact h.elim|exact ⟨_,⟨h.1,rfl⟩,h.2⟩|exact ⟨_,rfl,h⟩
theorem zyK {t : TypeId} {op : BinOp} {x y : AV} {K : AV → Prop} (h : zMc P t op x y K) : ∃ d,zMc P t op x y (· = d) ∧ K d := by
 unfold zMc at h ⊢
 split at h
 ·obtain ⟨us,vs,b,h1,h2,h3,h4⟩ := h
  exact ⟨_,⟨us,vs,b,h1,h2,h3,rfl⟩,h4⟩
 ·exact zyS h
 ·exact zyH h
 ·obtain ⟨hu,h⟩ := h
  cases op <;> simp only at h ⊢ <;> first|exact h.elim|exact ⟨_,⟨hu,rfl⟩,h⟩
 ·obtain ⟨hu,h⟩ := h
  cases op <;> simp only at h ⊢ <;> first|exact h.elim|exact ⟨_,⟨hu,rfl⟩,h⟩
 ·obtain ⟨hu,h⟩ := h
  cases op <;> simp only at h ⊢ <;> first|exact h.elim|exact ⟨_,⟨hu,rfl⟩,h⟩
 ·obtain ⟨hu,h⟩ := h
  cases op <;> simp only at h ⊢ <;> first|exact h.elim|exact ⟨_,⟨hu,rfl⟩,h⟩
 ·exact h.elim
theorem zBs {op : UnOp} {x : AV} {K : AV → Prop} (h : aUn op x K) : ∃ d,aUn op x (· = d) ∧ K d := by
 unfold aUn at h ⊢
 split at h <;> first|exact h.elim|exact ⟨_,rfl,h⟩
theorem zvD {x y z : AV} {K : AV → Prop} (h : zug x y z K) : ∃ d,zug x y z (· = d) ∧ K d := by
 unfold zug at h ⊢
 split at h <;> first|exact h.elim|exact ⟨_,rfl,h⟩
theorem zqm {x : AV} {i : Nat} {K : AV → Prop} (h : zah x i K) : ∃ d,zah x i (· = d) ∧ K d := by
 unfold zah at h ⊢
 split at h
 ·exact zx5 h
 ·exact h.elim
theorem zsW {ob : AObj} {K : List AV → Prop} (h : zjr ob K) : ∃ l,(∀ K' : List AV → Prop,K' l → zjr ob K') ∧ K l := by
 unfold zjr at h
 split at h
 ·rename_i e;exact ⟨_,fun K' q=>(by unfold zjr;rw [e];exact q),h⟩
 ·rename_i e;exact ⟨_,fun K' q=>(by unfold zjr;rw [e];exact ⟨h.1,q⟩),h.2⟩
 ·exact h.elim
theorem zdy {k : Nat} {x : AV} {K : AV → Prop} (h : zjK k H x K) : ∃ d,zjK k H x (· = d) ∧ K d := by
 unfold zjK at h ⊢
 split at h
 ·exact ⟨_,⟨h.1,rfl⟩,h.2⟩
 ·exact ⟨_,⟨h.1,rfl⟩,h.2⟩
 ·obtain ⟨ob,h1,h2⟩ := h
  obtain ⟨l,h3,h4⟩ := zsW h2
  obtain ⟨d,h5,h6⟩ := zbZ h4
  exact ⟨d,⟨ob,h1,h3 _ h5⟩,h6⟩
 ·exact h.elim
theorem ztv {f : Option (Nat × Nat)} {x : AV} {K : AV → Prop} (h : zm6 f x K) : ∃ d,zm6 f x (· = d) ∧ K d := by
 unfold zm6 at h ⊢
 split at h
 ·split at h
  ·obtain ⟨d,h4,h5⟩ := zbZ h
   exact ⟨_,z4y h4 fun d e=>by rw [e],h5⟩
  ·exact ⟨_,rfl,h⟩
  ·exact h.elim
 ·exact h.elim
theorem zs6 {f : Option (Nat × Nat)} {x : AV} {K : AV → Prop} (h : zfj f x K) : ∃ d,zfj f x (· = d) ∧ K d := by
 unfold zfj at h ⊢
 split at h
 ·split at h
  ·exact zbZ h
  ·exact h.elim
 ·exact h.elim
theorem zrJ {ek : Nat} {x y : AV} {K : AV → Prop} (h : zfE ek H x y K) : ∃ d,zfE ek H x y (· = d) ∧ K d := by
 unfold zfE at h ⊢
 split at h
 ·obtain ⟨h0,h1⟩ := h
  split at h1
  ·obtain ⟨a1,ob,a2,a3,a4,a5,a6⟩ := h1
   exact ⟨_,⟨h0,a1,ob,a2,a3,a4,a5,rfl⟩,a6⟩
  ·rename_i hne
   obtain ⟨es,h2,d,h3,h4,h5⟩ := zji h1
   exact ⟨_,⟨h0,z3m h2 fun es' e=>by subst e;exact ⟨d,h3,h4,rfl⟩⟩,h5⟩
 ·exact h.elim
theorem zrR {t : TypeId} {x y : AV} {K : AV → Prop} (h : zed P t H x y K) : ∃ d,zed P t H x y (· = d) ∧ K d := by
 unfold zed at h ⊢
 split at h
 ·exact zrJ h
 ·split at h
  ·split at h
   ·obtain ⟨h0,h1,h2⟩ := h
    split at h2
    ·obtain ⟨d,h4,h5⟩ := zbZ h2
     exact ⟨_,⟨h0,h1,z4y h4 fun d e=>by rw [e]⟩,h5⟩
    ·exact ⟨_,⟨h0,h1,rfl⟩,h2⟩
    ·exact h2.elim
   ·exact h.elim
  ·exact h.elim
theorem zrQ {t : TypeId} {x y : AV} {K : AV → Prop} (h : zfC P t x y K) : ∃ d,zfC P t x y (· = d) ∧ K d := by
 unfold zfC at h ⊢
 split at h
 ·split at h
  ·exact ⟨_,⟨h.1,h.2.1,h.2.2.1,rfl⟩,h.2.2.2⟩
  ·split at h
   ·obtain ⟨h0,h1,h2⟩ := h
    obtain ⟨d,h4,h5⟩ := zbZ h2
    exact ⟨_,⟨h0,h1,h4⟩,h5⟩
   ·exact h.elim
  ·exact h.elim
 ·exact h.elim
theorem ztk {t : TypeId} {x : AV} {lo hi : Option AV} {K : AV → Prop} (h : zkW P t H x lo hi K) : ∃ d,zkW P t H x lo hi (· = d) ∧ K d := by
 unfold zkW at h ⊢
 split at h
 ·obtain ⟨hu,h⟩ := h
  obtain ⟨l,h1,h⟩ := zrm h
  obtain ⟨k,h2,c0,c1,c2,h⟩ := zrm h
  exact ⟨_,⟨hu,z8Z h1 fun l' e=>by subst e;exact z8Z h2 fun k' e=>by subst e;exact ⟨c0,c1,c2,rfl⟩⟩,h⟩
 ·split at h
  ·obtain ⟨es,h0,hall,h⟩ := zji h
   obtain ⟨l,h1,h⟩ := zrm h
   obtain ⟨k,h2,c0,c1,c2,h⟩ := zrm h
   exact ⟨_,z3m h0 fun es' e=>by subst e;exact ⟨hall,z8Z h1 fun l' e=>by subst e;exact z8Z h2 fun k' e=>by subst e;exact ⟨c0,c1,c2,rfl⟩⟩,h⟩
  ·exact h.elim
theorem zyT {t : TypeId} {x : AV} {K : AV → Prop} (h : zNC P t H x K) : ∃ d,zNC P t H x (· = d) ∧ K d := by
 unfold zNC at h ⊢
 split at h
 ·exact ⟨_,⟨h.1,rfl⟩,h.2⟩
 ·exact ⟨_,⟨h.1,rfl⟩,h.2⟩
 ·exact ⟨_,⟨h.1,rfl⟩,h.2⟩
 ·obtain ⟨es,h1,h2⟩ := zji h.2
  exact ⟨_,⟨h.1,z3m h1 fun es' e=>by subst e;rfl⟩,h2⟩
theorem zy9 {x : AV} {K : AV → Prop} (h : zMO x K) : ∃ d,zMO x (· = d) ∧ K d := by
 unfold zMO at h ⊢
 split at h <;> first|exact h.elim|exact ⟨_,rfl,h⟩
theorem zuw {t t' : TypeId} {x : AV} {K : AV → Prop} (h : zs9 P t t' x K) : ∃ d,zs9 P t t' x (· = d) ∧ K d := by
 unfold zs9 at h ⊢
 split at h
 ·obtain ⟨h1,h⟩ := h
  split at h
  ·exact ⟨_,⟨h1,rfl⟩,h⟩
  ·exact h.elim
 ·rcases h with h|h
  ·exact ⟨_, .inl ⟨h.1,h.2.1,rfl⟩,h.2.2⟩
  ·exact ⟨_, .inr ⟨h.1,h.2.1,h.2.2.1,rfl⟩,h.2.2.2⟩
 ·obtain ⟨h1,h2,h⟩ := h
  split at h
  ·exact ⟨_,⟨h1,h2,rfl⟩,h⟩
  ·exact h.elim
 ·exact h.elim
theorem ztN {t : TypeId} {ps : List (Nat × AV)} {K : AV → Prop} (h : zlS P t ps K) : ∃ d,zlS P t ps (· = d) ∧ K d := by
 unfold zlS at h ⊢
 split at h
 ·split at h
  ·exact ⟨_,rfl,h⟩
  ·exact h.elim
 ·exact h.elim
theorem zsf {t : TypeId} {m : Nat} {ps : List (Nat × AV)} {K : AV → Prop} (h : zfa P t m ps K) : ∃ d,zfa P t m ps (· = d) ∧ K d := by
 unfold zfa at h ⊢
 split at h
 ·exact ⟨_,⟨h.1,h.2.1,h.2.2.1,h.2.2.2.1,rfl⟩,h.2.2.2.2⟩
 ·exact h.elim
theorem ztU {o : Oper} (hq : loud o.op = false) {K : AV → Prop} (h : z0A P G o s fun d H'=>H' = s.H ∧ K d) : ∃ d,z0A P G o s (fun x H'=>H' = s.H ∧ x = d) ∧ K d := by
 unfold z0A at h ⊢
 split at h
 ·exact ⟨_,⟨rfl,rfl⟩,h.2⟩
 ·exact ⟨_,⟨rfl,rfl⟩,h.2⟩
 ·obtain ⟨d,h1,_,h2⟩ := zvD h;exact ⟨d,by simpa using h1,h2⟩
 ·obtain ⟨d,h1,_,h2⟩ := zyK h;exact ⟨d,by simpa using h1,h2⟩
 ·obtain ⟨d,h1,_,h2⟩ := zBs h;exact ⟨d,by simpa using h1,h2⟩
 ·rename_i ho;rw [ho] at hq;cases hq
 ·rename_i ho;rw [ho] at hq;cases hq
 ·obtain ⟨d,h1,_,h2⟩ := ztN h;exact ⟨d,by simpa using h1,h2⟩
 ·obtain ⟨d,h1,_,h2⟩ := zsf h;exact ⟨d,by simpa using h1,h2⟩
 ·obtain ⟨d,h1,_,h2⟩ := zdy h;exact ⟨d,by simpa using h1,h2⟩
 ·rename_i ho;rw [ho] at hq;cases hq
 ·obtain ⟨d,h1,_,h2⟩ := zy9 h;exact ⟨d,by simpa using h1,h2⟩
 ·obtain ⟨d,h1,_,h2⟩ := zuw h;exact ⟨d,by simpa using h1,h2⟩
 ·obtain ⟨d,h1,_,h2⟩ := zqm h;exact ⟨d,by simpa using h1,h2⟩
 ·obtain ⟨d,h1,_,h2⟩ := ztv h;exact ⟨d,by simpa using h1,h2⟩
 ·obtain ⟨d,h1,_,h2⟩ := zs6 h;exact ⟨d,by simpa using h1,h2⟩
 ·obtain ⟨d,h1,_,h2⟩ := zrR h;exact ⟨d,by simpa using h1,h2⟩
 ·obtain ⟨d,h1,_,h2⟩ := zrQ h;exact ⟨d,by simpa using h1,h2⟩
 ·obtain ⟨d,h1,_,h2⟩ := ztk h;exact ⟨d,by simpa using h1,h2⟩
 ·rename_i ho;rw [ho] at hq;cases hq
 ·rename_i ho;rw [ho] at hq;cases hq
 ·rename_i ho;rw [ho] at hq;cases hq
 ·obtain ⟨d,h1,_,h2⟩ := zyT h;exact ⟨d,by simpa using h1,h2⟩
 ·rename_i ho;rw [ho] at hq;cases hq
 ·rename_i ho;rw [ho] at hq;cases hq
 ·rename_i ho;rw [ho] at hq;cases hq
 ·obtain ⟨d,h1,_,h2⟩ := h;exact ⟨d,⟨d,h1,rfl,rfl⟩,h2⟩
 ·rename_i ho;rw [ho] at hq;cases hq
 ·rename_i ho;rw [ho] at hq;cases hq
 ·exact h.elim
theorem zrs {o : Oper} {K : AV → Prop} (h : z3I P G o s K) : ∃ d,z3I P G o s (· = d) ∧ K d := by
 unfold z3I at h ⊢
 split at h
 ·obtain ⟨X,h1,h2,h3⟩ := h;exact ⟨X,⟨X,h1,h2,rfl⟩,h3⟩
 ·obtain ⟨hq,h⟩ := h
  obtain ⟨d,h1,h2⟩ := ztU hq h
  exact ⟨d,⟨hq,h1⟩,h2⟩
def zuM (o : Oper) : List Nat := (o.op.operands.toList.filterMap fun x=>match x with|.tmp t=>some t|_=>none)
def zrE (T T' : Tm) (o : Oper) : Prop := ∀ t ∈ zuM o,get T t = get T' t
theorem zsF {T T' : Tm} {o : Oper} (h : zrE T T' o) {x : Operand} (hx : x ∈ o.op.operands.toList) : ev G T x = ev G T' x := by
 cases x with
 |tmp t=>exact h t (List.mem_filterMap.2 ⟨.tmp t,hx,rfl⟩)
 |const v=>rfl
 |global g=>rfl
 |func f=>rfl
theorem zn6 {H : List AObj} {T T' : Tm} {o : Oper} (h : zrE T T' o) {K : AV → Prop} (hs : z3I P G o ⟨H,T⟩ K) : z3I P G o ⟨H,T'⟩ K := by
 obtain ⟨dst,op,ty,pos,af,gd⟩ := o
 have e : ∀ x,x ∈ op.operands.toList → ev G T x = ev G T' x := fun x hx=>zsF h hx
 cases op with
 |move x=>simpa [z3I,z0A,loud,e x (by simp [Op.operands])] using hs
 |assign x=>simpa [z3I,z0A,loud,e x (by simp [Op.operands])] using hs
 |pick x y z=>simpa [z3I,z0A,loud,e x (by simp [Op.operands]),e y (by simp [Op.operands]),e z (by simp [Op.operands])] using hs
 |binOp b t x y t'=>simpa [z3I,z0A,loud,e x (by simp [Op.operands]),e y (by simp [Op.operands])] using hs
 |unOp b t x=>simpa [z3I,z0A,loud,e x (by simp [Op.operands])] using hs
 |alloc t=>simp [z3I,loud] at hs
 |box t x=>simp [z3I,loud] at hs
 |store t x y=>simp [z3I,loud] at hs
 |build t ps =>
  have : (ps.toList.map fun p=>(p.1,ev G T p.2)) = ps.toList.map fun p=>(p.1,ev G T' p.2) := List.map_congr_left fun p hp=>by
   rw [e p.2 (by simp only [Op.operands,List.mem_map];exact ⟨p,hp,rfl⟩)]
  simpa [z3I,z0A,loud,this] using hs
 |buildSlice t m ps =>
  have : (ps.toList.map fun p=>(p.1,ev G T p.2)) = ps.toList.map fun p=>(p.1,ev G T' p.2) := List.map_congr_left fun p hp=>by
   rw [e p.2 (by simp only [Op.operands,List.mem_map];exact ⟨p,hp,rfl⟩)]
  simpa [z3I,z0A,loud,this] using hs
 |load t x=>simpa [z3I,z0A,loud,e x (by simp [Op.operands])] using hs
 |nilCheck x=>simpa [z3I,z0A,loud,e x (by simp [Op.operands])] using hs
 |lookup t x y ok=>simpa [z3I,z0A,loud,e x (by simp [Op.operands]),e y (by simp [Op.operands])] using hs
 |convert a b x=>simpa [z3I,z0A,loud,e x (by simp [Op.operands])] using hs
 |extract x i=>simpa [z3I,z0A,loud,e x (by simp [Op.operands])] using hs
 |fieldAddr t x i=>simpa [z3I,z0A,loud,e x (by simp [Op.operands])] using hs
 |field t x i=>simpa [z3I,z0A,loud,e x (by simp [Op.operands])] using hs
 |indexAddr t x y=>simpa [z3I,z0A,loud,e x (by simp [Op.operands]),e y (by simp [Op.operands])] using hs
 |index t x y=>simpa [z3I,z0A,loud,e x (by simp [Op.operands]),e y (by simp [Op.operands])] using hs
 |slice t x lo hi mx =>
  have e1 : lo.map (ev G T) = lo.map (ev G T') := by cases lo with|none=>rfl|some y=>simp [e y (by simp [Op.operands])]
  have e2 : hi.map (ev G T) = hi.map (ev G T') := by cases hi with|none=>rfl|some y=>simp [e y (by simp [Op.operands])]
  cases mx with
  |none=>simpa [z3I,z0A,loud,e x (by simp [Op.operands]),e1,e2] using hs
  |some y=>simp [z3I,z0A,loud] at hs
 |call c =>
  obtain ⟨callee,args,ts⟩ := c
  cases callee with
  |value x =>
   cases x with
   |func f =>
    have : args.toList.map (ev G T) = args.toList.map (ev G T') := List.map_congr_left fun x hx=>e x (by simp [Op.operands,Call.operands];exact .inr (by simpa using hx))
    simpa [z3I,this] using hs
   |tmp t=>simp [z3I,loud] at hs
   |const v=>simp [z3I,loud] at hs
   |global g=>simp [z3I,loud] at hs
  |invoke r m=>simp [z3I,loud] at hs
  |builtin b =>
   by_cases hb : b = .len
   ·subst hb
    obtain ⟨al⟩ := args
    obtain ⟨tl⟩ := ts
    rcases al with _|⟨x,_|⟨y,r⟩⟩
    ·simp [z3I,z0A,loud] at hs
    ·rcases tl with _|⟨t,_|⟨t',r'⟩⟩
     ·simp [z3I,z0A,loud] at hs
     ·simpa [z3I,z0A,loud,e x (by simp [Op.operands,Call.operands])] using hs
     ·simp [z3I,z0A,loud] at hs
    ·simp [z3I,z0A,loud] at hs
   ·exfalso
    obtain ⟨hq,_⟩ := (show loud (.call ⟨.builtin b,args,ts⟩) = false ∧ _ from by simpa [z3I] using hs)
    cases b <;> first|exact hb rfl|cases hq
 |_=>simp [z3I,z0A,loud] at hs
end
end Go.Proofs.Ytaaogcnjfkgnoaa

namespace Go.Proofs.Ytaaogcnjfkgnoaa
open Go.RowKit
section
variable {P : Program} {G : Gl} {N : FS} {n : Nat} {s : ASt} {H : List AObj} {T : Tm} {w w0 w' : World} {S S0 S1 S2 : SS} {μ : List Value}
structure Good (w0 : World) (S0 : SS) (μ : List Value) (H : List AObj) (w : World) (S : SS) : Prop where
 rel : Rel w S μ H
 step : Step H.length w0 S0 μ H w S μ H
theorem Good.gr (h : Good w0 S0 μ H w S) (hg : Gr w w') : Good w0 S0 μ H w' S := by
 obtain ⟨r,st⟩ := h.rel.grow hg (fun _ _ _ q=>q) (fun _ _ _ q=>.inl q) (fun b j d q hb=>by have := h.rel.still_lt q;omega)
 exact ⟨r,h.step.trans st⟩
theorem Good.ext (h : Good w0 S0 μ H w S) : Ext S0 μ S μ := ⟨h.step.still,fun i x hx=>⟨x,hx, .inl rfl⟩⟩
def Reads (w0 : World) (S0 : SS) (μ : List Value) (H : List AObj) (d : AV) (v : Value) (w : World) : Prop := ∃ S,Good w0 S0 μ H w S ∧ rep S μ d v
theorem Reads.gr {d : AV} {v : Value} (h : Reads w0 S0 μ H d v w) (hg : Gr w w') : Reads w0 S0 μ H d v w' := by obtain ⟨S,h1,h2⟩ := h;exact ⟨S,h1.gr hg,h2⟩
def zNg : Tm → List Oper → List AV → Tm
 |T,o :: l,v :: vs=>zNg (ASt.set ⟨[],T⟩ [] o.dst v).T l vs
 |T,_,_=>T
def zq7 (P : Program) (G : Gl) (ops : List Oper) (H : List AObj) (T : Tm) (o : Oper) (v : AV) : Prop :=
 match o.guard with
 |none=>z3I P G o ⟨H,T⟩ (· = v)
 |some (j,want)=>∃ t,zm7 ops j = some t ∧ ((∃ b,get T t = V (.bool b) ∧ (b = want → z3I P G o ⟨H,T⟩ (· = v)) ∧ (b ≠ want → v = UD)) ∨ ((∃ q,get T t = .iface q (.agg [])) ∧ v = UD))
theorem zqG (T : Tm) (i : Nat) (v : AV) : get (ASt.set ⟨[],T⟩ [] (some i) v).T i = v := zfg T i v
theorem zpc (T : Tm) (d : Option Tmp) (k : Nat) (v : AV) (h : d ≠ some k) : get (ASt.set ⟨[],T⟩ [] d v).T k = get T k := by
 cases d with
 |none=>rfl
 |some i=>exact z9r T i k v (fun e=>h (by rw [e]))
theorem za3 : ∀ (l : List Oper) (vs : List AV) (T : Tm) (t : Nat),(∀ o ∈ l,o.dst ≠ some t) → get (zNg T l vs) t = get T t
 |[],vs,T,t,_=>by cases vs <;> rfl
 |o :: l,[],T,t,_=>rfl
 |o :: l,v :: vs,T,t,h=>by
  simp only [zNg]
  rw [za3 l vs _ t fun o' ho'=>h o' (List.mem_cons_of_mem _ ho')]
  exact zpc T o.dst t v (h o (List.mem_cons_self ..))
theorem zfW : ∀ (l : List Oper) (vs : List AV) (T : Tm) (t k : Nat) (o : Oper) (v : AV),l[k]? = some o → vs[k]? = some v → o.dst = some t → (∀ m o',l[m]? = some o' → o'.dst = some t → m = k) → get (zNg T l vs) t = v
 |[],vs,T,t,k,o,v,ho,_,_,_=>by simp at ho
 |_ :: _,[],T,t,k,o,v,_,hv,_,_=>by simp at hv
 |o1 :: l,v1 :: vs,T,t,k,o,v,ho,hv,hd,hu=>by
  simp only [zNg]
  rcases k with _|k
  ·simp at ho hv;subst ho hv
   rw [za3 l vs _ t fun o' ho' e=>?_,hd]
   ·exact zqG T t v1
   ·obtain ⟨m,hm⟩ := List.getElem?_of_mem ho'
    have := hu (m + 1) o' (by simpa using hm) e
    omega
  ·simp only [List.getElem?_cons_succ] at ho hv
   exact zfW l vs _ t k o v ho hv hd fun m o' hm e=>by have := hu (m + 1) o' (by simpa using hm) e;omega
end
end Go.Proofs.Ytaaogcnjfkgnoaa

namespace Go.Proofs.Ytaaogcnjfkgnoaa
open Go.RowKit
section
variable {P : Program} {ops : Array Oper}
def zaQ (ops : Array Oper) : Bool := (List.range ops.size).all fun k=>((ops[k]?).map fun ok=>ok.after.all fun e=>!Region.binds .any e || decide (e.on < k)).getD true
theorem zdt (h : zaQ ops = true) {k : Nat} {ok : Oper} (hk : ops[k]? = some ok) : ∀ e ∈ ok.after,Region.binds .any e = true → e.on < k := by
 intro e he hb
 have h1 := List.all_eq_true.1 h k (List.mem_range.2 (Array.getElem?_eq_some_iff.1 hk).1)
 rw [hk] at h1
 simp only [Option.map_some,Option.getD_some] at h1
 rw [Array.all_eq_true_iff_forall_mem] at h1
 have := h1 e he
 simpa [hb] using this
def zvf (ops : Array Oper) (listed : Array Bool) : Prop := ∀ (k : Nat) (ok : Oper),ops[k]? = some ok → listed.getD k false = true → ∀ e ∈ ok.after,Region.binds .any e = true → listed.getD e.on false = true
def zu1 (P : Program) (ops : Array Oper) (o : Oper) (a : Act) (w : World) (J : Act → World → Prop) : Prop := wpList P ops (fun e a' w'=>e = .normal ∧ J a' w') [o] a w
theorem zpW {o : Oper} {j : Nat} (hj : ops[j]? = some o) {a : Act} {w : World} {J : Act → World → Prop} {K : Act → World → Prop} {Q : Exit → Act → World → Prop}
  (h : zu1 P ops o a w J) (hK : ∀ a' w',J a' w' → K a' w') : wpOp P ops Q j K a w := by
 unfold wpOp
 rw [hj]
 unfold zu1 wpList at h
 simp only
 split
 ·rename_i hw
  rw [if_pos hw] at h
  rcases h with h|⟨_,_,_,h,_⟩
  ·exact .inl (Oper.wp_mono2 (fun a' w' hh=>hK _ _ hh.2) (fun e a' w' hne hh=>absurd hh.1 hne) h)
  ·cases h
 ·rename_i hw
  rw [if_neg hw] at h
  exact hK _ _ h.2
theorem wpAny_of_inv {J : Array Bool → Act → World → Prop} {Q : Exit → Act → World → Prop} (hsh : zaQ       ops = true)
    (hop : ∀ listed a w j o, ops[j]? = some o → listed.size = ops.size → listed.getD j false = false → (∀ e ∈ o.after, Region.binds .any e = true → listed.getD e.on false = true) → zvf    ops listed → J listed a w →
      zu1   P ops o a w (J (listed.setIfInBounds j true)))
    (hend : ∀ listed a w, (∀ k, k < ops.size → listed.getD k false = true) → J listed a w → Q .normal a w) :
    ∀ (fuel : Nat) (listed : Array Bool) (a : Act) (w : World), listed.size = ops.size → zvf    ops listed → J listed a w → ((List.range ops.size).filter fun i => !listed.getD i false).length ≤ fuel → wpAny P .any ops Q fuel listed a w := by
  have hfin : ∀ (listed : Array Bool) (a : Act) (w : World), listed.size = ops.size → J listed a w → Region.ready .any ops listed = [] → Q .normal a w := by
    intro listed a w hs hI hr
    refine hend listed a w ?_ hI
    have hall : ∀ n k, k < n → k < ops.size → listed.getD k false = true := by
      intro n
      induction n with
      | zero => intro k hk; omega
      | succ n ih =>
        intro k hk hks
        cases hl : listed.getD k false with
        | true => rfl
        | false =>
          exfalso
          have hk' : ops[k]? = some ops[k] := Array.getElem?_eq_getElem hks
          have : k ∈ Region.ready .any ops listed := by
            rw [mem_ready]
            refine ⟨?_, _, hk', fun e he hb => ?_⟩
            · have hkl : k < listed.size := by rw [hs]; exact hks
              simp only [Array.getD_eq_getD_getElem?, Array.getElem?_eq_getElem hkl, Option.getD_some] at hl ⊢; exact hl
            · have he2 := zdt            hsh hk' e he hb
              exact ih e.on (by omega) (by omega)
          rw [hr] at this; cases this
    exact fun k hk => hall (k + 1) k (by omega) hk
  intro fuel
  induction fuel with
  | zero =>
    intro listed a w hs _ hI hlen
    have hr : Region.ready .any ops listed = [] := by
      apply List.eq_nil_iff_forall_not_mem.2
      intro j hj
      obtain ⟨h1, o, ho, _⟩ := mem_ready.1 hj
      have hjl : j < ops.size := (Array.getElem?_eq_some_iff.1 ho).1
      have h0 : (List.range ops.size).filter (fun i => !listed.getD i false) = [] := List.eq_nil_of_length_eq_zero (by omega)
      have : j ∈ (List.range ops.size).filter (fun i => !listed.getD i false) := by
        rw [List.mem_filter]; refine ⟨List.mem_range.2 hjl, ?_⟩
        rw [zcl                (by rw [hs]; exact hjl) h1]; rfl
      rw [h0] at this; cases this
    exact ⟨hr, hfin _ _ _ hs hI hr⟩
  | succ fuel ih =>
    intro listed a w hs hcl hI hlen
    refine ⟨hfin _ _ _ hs hI, fun j hj => ?_⟩
    obtain ⟨h1, o, ho, hedges⟩ := mem_ready.1 hj
    have hjl : j < ops.size := (Array.getElem?_eq_some_iff.1 ho).1
    have hjs : j < listed.size := by rw [hs]; exact hjl
    have hjf := zcl                hjs h1
    have hset : ∀ k, k ≠ j → (listed.setIfInBounds j true).getD k false = listed.getD k false := fun k hk => getD_set_ne false (fun e => hk e.symm)
    refine zpW           ho (hop listed a w j o ho hs hjf (fun e he hb => hedges e he hb) hcl hI) fun a' w' hJ => ih _ _ _ (by simp [hs]) ?_ hJ ?_
    · intro k ok hk hl e he hb
      have mono : ∀ m, listed.getD m false = true → (listed.setIfInBounds j true).getD m false = true := fun m hm => getD_set_true hm
      by_cases hkj : k = j
      · subst hkj
        rw [ho] at hk; injection hk with hk; subst hk
        exact mono _ (hedges e he hb)
      · rw [hset k hkj] at hl
        exact mono _ (hcl k ok hk hl e he hb)
    · refine Nat.le_of_lt_succ (Nat.lt_of_lt_of_le (zrv       (List.mem_range.2 hjl) (by rw [hjf]; rfl) (by rw [zfc           hjs]; rfl) fun x hx => ?_) hlen)
      by_cases hxj : x = j
      · subst hxj; rw [zfc           hjs] at hx; cases hx
      · rwa [getD_set_ne false (fun e => hxj e.symm)] at hx
theorem wp_region_inv {id : Nat} {a0 : Act} {w0 : World} {Q : Exit → Act → World → Prop} (J : Array Bool → Act → World → Prop) (hm : P.follows .mixedOrders = true) (hsh : zaQ       ops = true)
    (hop : ∀ listed a w j o, ops[j]? = some o → listed.size = ops.size → listed.getD j false = false → (∀ e ∈ o.after, Region.binds .any e = true → listed.getD e.on false = true) → zvf    ops listed → J listed a w →
      zu1   P ops o a w (J (listed.setIfInBounds j true)))
    (hend : ∀ listed a w, (∀ k, k < ops.size → listed.getD k false = true) → J listed a w → Q .normal a w)
    (h0 : ∀ listed : Array Bool, (∀ k, listed.getD k false = false) → J listed a0 w0.drew) : (Code.region id ops true).wp P Q a0 w0 := by
  refine wp_region_any hm (wpAny_of_inv hsh hop hend _ _ _ _ (by simp) ?_ (h0 _ fun k => ?_) ?_)
  · intro k ok hk hl
    have : k < ops.size := (Array.getElem?_eq_some_iff.1 hk).1
    simp [Array.getD_eq_getD_getElem?, this] at hl
  · rw [Array.getD_eq_getD_getElem?]
    cases h : (Array.replicate ops.size false)[k]? with
    | none => rfl
    | some b => rw [Array.getElem?_replicate] at h; split at h <;> simp_all
  · exact Nat.le_trans (List.length_filter_le _ _) (by simp)
end
def zqZ : Op → Bool
 |.move _|.assign _|.pick ..|.binOp ..|.unOp ..|.extract ..|.field ..|.build ..|.fieldAddr ..|.nilCheck _=>true
 |_=>false
def zlq : Op → Bool|.store ..=>true|_=>false
def zpP : Op → Bool|.alloc _=>true|_=>false
section
variable {P : Program} {G : Gl} {N : FS} {n : Nat} {s : ASt} {H H' X : List AObj} {T : Tm}
theorem zvY {o : Oper} (hr : zqZ o.op = true) {K : AV → Prop} (h : z3I P G o ⟨H,T⟩ K) : z3I P G o ⟨H',T⟩ K := by
 obtain ⟨dst,op,ty,pos,af,gd⟩ := o
 cases op <;> first|(simp [zqZ] at hr;done)|simpa [z3I,z0A,loud] using h
theorem zqy {i : Nat} {K : AObj → Prop} (h : zMZ H i K) : zMZ (H ++ X) i K := by
 obtain ⟨o,h1,h2⟩ := h
 exact ⟨o,by rw [List.getElem?_append_left (List.getElem?_eq_some_iff.1 h1).1];exact h1,h2⟩
theorem zjY {x : AV} {K : List AV → Prop} (h : z8K H x K) : z8K (H ++ X) x K := by
 unfold z8K at h ⊢
 split at h
 ·exact h
 ·exact zqy h
 ·exact h
 ·exact h
 ·exact h.elim
theorem zwL {d : AV} (h : lt1 0 (ro1 H d) = true) : ro1 (H ++ X) d = ro1 H d := by
 unfold ro1 at h ⊢
 split at h
 ·rename_i i m
  cases hi : H[i]? with
  |none=>rw [hi] at h;simp [lt1] at h
  |some o=>rw [List.getElem?_append_left (List.getElem?_eq_some_iff.1 hi).1,hi]
 ·rfl
 ·rfl
theorem zxj {d : AV} (h : ltA 0 (roA H d) = true) : roA (H ++ X) d = roA H d := by
 unfold roA at h ⊢
 split at h
 ·rename_i cs
  simp only [ltA,List.all_eq_true,List.mem_map] at h
  simp only [DataW.agg.injEq]
  exact List.map_congr_left fun x hx=>zwL (h _ ⟨x,hx,rfl⟩)
 ·rename_i hne
  refine zwL ?_
  unfold ltA at h
  split at h
  ·rename_i cs hcs;exact absurd hcs (zr7 hne cs)
  ·exact h
theorem zBM {d : AV} (h : ltT 0 (ro H d) = true) : ro (H ++ X) d = ro H d := by
 unfold ro at h ⊢
 split at h
 ·rename_i ss ds
  simp only [ltT,List.all_eq_true,List.mem_map] at h
  simp only [DataW.iface.injEq,DataW.agg.injEq,true_and]
  exact List.map_congr_left fun x hx=>zxj (h _ ⟨x,hx,rfl⟩)
 ·rename_i hne
  refine zxj ?_
  unfold ltT at h
  split at h
  ·rename_i ss ds hcs
   exfalso
   unfold roA at hcs
   split at hcs
   ·cases hcs
   ·exact hne _ _ (zvu hcs)
  ·exact h
theorem zr4 {o : Oper} {K : AV → Prop} (h : z3I P G o ⟨H,T⟩ K) : z3I P G o ⟨H ++ X,T⟩ K := by
 obtain ⟨dst,op,ty,pos,af,gd⟩ := o
 by_cases hr : zqZ op = true
 ·exact zvY hr h
 cases op with
 |load t x =>
  simp only [z3I,z0A,loud,true_and] at h ⊢
  unfold zjK at h ⊢
  split at h
  ·exact h
  ·exact h
  ·exact zqy h
  ·exact h
 |indexAddr t x y =>
  simp only [z3I,z0A,loud,true_and] at h ⊢
  unfold zed at h ⊢
  split at h
  ·unfold zfE at h ⊢
   split at h
   ·refine ⟨h.1,?_⟩
    have h2 := h.2
    split at h2
    ·exact ⟨h2.1,zqy h2.2⟩
    ·exact zjY h2
   ·exact h
  ·exact h
 |slice t x lo hi mx =>
  cases mx with
  |none =>
   simp only [z3I,z0A,loud,true_and] at h ⊢
   unfold zkW at h ⊢
   split at h
   ·exact h
   ·split at h
    ·exact zjY h
    ·exact h
  |some y=>simp [z3I,z0A,loud] at h
 |call c =>
  obtain ⟨callee,args,ts⟩ := c
  cases callee with
  |value x =>
   cases x with
   |func f =>
    obtain ⟨X',h1,h2,h3⟩ := h
    have e : (args.toList.map (ev G T)).map (ro (H ++ X)) = (args.toList.map (ev G T)).map (ro H) := List.map_congr_left fun d hd=>zBM ((List.all_eq_true.1 h2) _ (List.mem_map.2 ⟨d,hd,rfl⟩))
    exact ⟨X',by show ACp P G f ((args.toList.map (ev G T)).map (ro (H ++ X))) X';rw [e];exact h1,by show ((args.toList.map (ev G T)).map (ro (H ++ X))).all (ltT 0) = true;rw [e];exact h2,h3⟩
   |tmp t=>simp [z3I,loud] at h
   |const v=>simp [z3I,loud] at h
   |global g=>simp [z3I,loud] at h
  |invoke r m=>simp [z3I,loud] at h
  |builtin b =>
   by_cases hb : b = .len
   ·subst hb
    obtain ⟨al⟩ := args
    obtain ⟨tl⟩ := ts
    rcases al with _|⟨x,_|⟨y,r⟩⟩
    ·simp [z3I,z0A,loud] at h
    ·rcases tl with _|⟨t,_|⟨t',r'⟩⟩
     ·simp [z3I,z0A,loud] at h
     ·simp only [z3I,z0A,loud,true_and] at h ⊢
      unfold zNC at h ⊢
      split at h
      ·exact h
      ·exact h
      ·exact h
      ·exact ⟨h.1,zjY h.2⟩
     ·simp [z3I,z0A,loud] at h
    ·simp [z3I,z0A,loud] at h
   ·exfalso
    obtain ⟨hq,_⟩ := (show loud (.call ⟨.builtin b,args,ts⟩) = false ∧ _ from by simpa [z3I] using h)
    cases b <;> first|exact hb rfl|cases hq
 |index t x y=>simpa [z3I,z0A,loud] using h
 |convert a b x =>
  simp only [z3I,z0A,loud,true_and] at h ⊢
  have e : ro (H ++ X) (ev G T x) = ro H (ev G T x) := by
   refine zBM ?_
   unfold zs9 at h
   split at h
   ·rename_i hx;rw [hx];rfl
   ·rename_i hx;rw [hx];rfl
   ·rename_i hx;rw [hx];rfl
   ·exact h.elim
  show zs9 P a b (ro (H ++ X) (ev G T x)) _
  rw [e];exact h
 |buildSlice t m ps=>simpa [z3I,z0A,loud] using h
 |lookup t x y ok =>
  simp only [z3I,z0A,loud,true_and] at h ⊢
  obtain ⟨d,h1,h2⟩ := h
  exact ⟨d,h1.more X,h2⟩
 |_=>first|(exfalso;exact hr rfl)|(simp [z3I,z0A,loud] at h;done)
end
end Go.Proofs.Ytaaogcnjfkgnoaa

namespace Go.Proofs.Ytaaogcnjfkgnoaa
open Go.RowKit
section
variable {P : Program} {G : Gl} {N : FS} {n : Nat} {s : ASt} {H H' X : List AObj} {T : Tm}
def zCW (o : Oper) (i : Nat) : Bool := o.after.any fun e=>Region.binds .any e && e.on == i
structure TailOK (ops : List Oper) (m N : Nat) : Prop where
 le : m ≤ ops.length
 quiet : (ops.take m).all (fun o=>!zpP o.op && !zlq o.op) = true
 dst : ∀ (k d : Nat) (o : Oper),ops[k]? = some o → o.dst = some d → d < N ∧ ∀ (q : Nat) (oq : Oper),ops[q]? = some oq → oq.dst = some d → q = k
 nodst : ∀ (k : Nat) (o : Oper),ops[k]? = some o → o.dst = none → zlq o.op = true
 store : ∀ (k : Nat) (o : Oper),ops[k]? = some o → zlq o.op = true → ∀ (i : Nat) (oi : Oper),ops[i]? = some oi → i ≠ k → zqZ oi.op = false → (zlq oi.op = false ∨ i < k) → zCW o i = true
 alloc : ∀ (k i : Nat) (o oi : Oper),ops[k]? = some o → zpP o.op = true → ops[i]? = some oi → zpP oi.op = true → i = k
end
end Go.Proofs.Ytaaogcnjfkgnoaa

namespace Go.Proofs.Ytaaogcnjfkgnoaa
open Go.RowKit
section
variable {P : Program} {G : Gl} {N : FS} {n : Nat}
def HD (ops : List Oper) (B : List AObj) (hs : Nat → List AObj) (listed : Array Bool) (Hc : List AObj) : Prop :=
  (∃ (k : Nat) (o : Oper), ops[k]? = some o ∧ zlq     o.op = true ∧ listed.getD k false = true ∧ (∀ (k' : Nat) (o' : Oper), ops[k']? = some o' → zlq     o'.op = true → listed.getD k' false = true → k' ≤ k) ∧ Hc = hs (k + 1)) ∨
  ((∀ (k : Nat) (o : Oper), ops[k]? = some o → zlq     o.op = true → listed.getD k false = false) ∧
    ((∃ (k : Nat) (o : Oper), ops[k]? = some o ∧ zpP     o.op = true ∧ listed.getD k false = true ∧ Hc = hs (k + 1)) ∨
     ((∀ (k : Nat) (o : Oper), ops[k]? = some o → zpP     o.op = true → listed.getD k false = false) ∧ Hc = B)))
def zxv (ops : List Oper) (listed : Array Bool) (t : Nat) : Prop := (∀ o ∈ ops,o.dst ≠ some t) ∨ ∃ (k : Nat) (o : Oper),ops[k]? = some o ∧ o.dst = some t ∧ listed.getD k false = true
structure JT (n : Nat) (N : FS) (ops : List Oper) (B : List AObj) (hs : Nat → List AObj) (T0 E : Tm) (w0 : World) (S0 : SS) (μ0 : List Value) (listed : Array Bool) (a : Act) (w : World) (S : SS) (μ : List Value) (Hc : List AObj) : Prop where
 hd : HD ops B hs listed Hc
 rel : Rel w S μ Hc
 step : Step n w0 S0 μ0 B w S μ Hc
 len : n ≤ Hc.length
 size : a.tmps.size = N
 nodef : a.defers = N.d
 slot : ∀ t,zxv ops listed t → rep S μ (get E t) (a.tmps.getD t undef)
 start : ∀ t,(∀ (k : Nat) (o : Oper),ops[k]? = some o → o.dst = some t → listed.getD k false = false) → rep S μ (get T0 t) (a.tmps.getD t undef)
end
end Go.Proofs.Ytaaogcnjfkgnoaa

namespace Go.Proofs.Ytaaogcnjfkgnoaa
open Go.RowKit
section
variable {P : Program} {G : Gl} {N : FS} {n : Nat} {s s' : ASt} {H H' : List AObj} {T : Tm} {K : ASt → Prop} {K1 : AV → Prop} {K2 : AV → List AObj → Prop} {ops l r : List Oper} {dst : Option Tmp} {op : Op} {ty : TypeId} {pos : String} {af : Array Edge} {gd : Option (Nat × Bool)} {x y z : AV} {t t' : TypeId} {b : Bool}
variable {Q : Exit → ASt → Prop} {id : Nat} {c d e : Code}
theorem zHJ {v : Value} : zLj (V v) = true := _root_.id rfl
theorem zE2 {i o : Nat} : zLj (OP i o) = true := _root_.id rfl
theorem zzx : zLj (.ptr x) = true := _root_.id rfl
theorem zyP : zMH 1 = 1 := _root_.id rfl
theorem zzP {k : Nat} : zMH (k + 2) = k := by simp [zMH]
theorem zyh {l : List UInt8} : (ByteArray.mk l.toArray).toList = l := by
 exact ByteArray.toList_mk l
theorem zCz {l : List UInt8} {a c : Nat} : (ByteArray.mk l.toArray).extract a c = ⟨((l.drop a).take (c - a)).toArray⟩ := ByteArray.extract_mk l a c
theorem zzI {l : List UInt8} : (ByteArray.mk l.toArray).data.toList = l := _root_.id rfl
theorem zCy {es : List AV} {h : Int} : zL8 es 0 h = es.take h.toNat := by simp [zL8]
theorem zGe {es : List AV} {l : Int} : zL8 es l (es.length : Int) = es.drop l.toNat := by simp [zL8]
end
end Go.Proofs.Ytaaogcnjfkgnoaa

namespace Go.Proofs.Ytaaogcnjfkgnoaa
open Go.ChangeShapes Go.WideShapes Go.ChangeAt Go.RowKit
def SWn (w : World) : Nat → SS
 |0,_,_,_=>False
 |n + 1,b,j,d=>∃ u,w.cell? ⟨b,j,none⟩ = some u ∧ u.oneCell' = true ∧ rep1 (SWn w n) [] d u
def SW (w : World) : SS := fun b j d=>∃ n,SWn w n b j d
theorem zND {S S' : SS} (h : ∀ b j d,S b j d → S' b j d) : Ext S [] S' [] := ⟨h,fun i x hx=>by simp at hx⟩
theorem SWn.succ {w : World} {n : Nat} : ∀ b j d,SWn w n b j d → SWn w (n + 1) b j d := by
 induction n with
 |zero=>intro b j d h;exact h.elim
 |succ n ih =>
  rintro b j d ⟨u,h1,h2,h3⟩
  exact ⟨u,h1,h2,h3.ext (zND ih)⟩
theorem zGa (w : World) : Rel w (SW w) [] [] := by
 refine ⟨rfl,?_,fun i x o hx=>by simp at hx,fun i x o hx=>by simp at hx,fun i i' x x' o o' b hx=>by simp at hx,fun i x o b hx=>by simp at hx⟩
 rintro b j d ⟨n,hn⟩
 cases n with
 |zero=>exact hn.elim
 |succ n =>
  obtain ⟨u,h1,h2,h3⟩ := hn
  exact ⟨u,h1,h2,h3.ext (zND fun _ _ _ q=>⟨n,q⟩)⟩
def isA : AV → Bool|.agg _=>true|_=>false
def zMk (P : Program) (t : TypeId) : Bool := match P.underlying t with|some (.struct _)|some (.array _ _)=>true|_=>false
def zM8 (F : TypeId → List AV → Prop) : List Field → List AV → Prop
 |[],ds=>ds = []
 |f :: fs,ds=>∃ a b,ds = a ++ b ∧ F f.type a ∧ zM8 F fs b
def ofT (P : Program) : Nat → TypeId → List AV → Prop
 |0,_,_=>False
 |n + 1,t,ds=>match P.underlying t with
  |some .bool=>∃ b,ds = [V (.bool b)]
  |some (.int k)=>∃ i,ds = [V (.int k i)] ∧ k.min ≤ i ∧ i ≤ k.max
  |some .string=>∃ s : List UInt8,ds = [V (.string ⟨s.toArray⟩)] ∧ s.length ≤ maxLen
  |some (.slice e)=>∃ es,ds = [SL es] ∧ es.length ≤ maxLen ∧ ∀ x ∈ es,ofT P n e (cellsOf x) ∧ isA x = zMk P e
  |some (.struct fs)=>zM8 (ofT P n) fs.toList ds
  |some (.array k e)=>∃ ps : List (List AV),ps.length = k ∧ ds = ps.flatten ∧ ∀ p ∈ ps,ofT P n e p
  |_=>False
def zB7 (P : Program) : Nat → List Field → Nat → Bool
 |o,[],tot=>o == tot
 |o,f :: fs,tot=>f.offset == o && zB7 P (o + P.cellsOf f.type) fs tot
def zlt (P : Program) : Nat → TypeId → Bool
 |0,_=>false
 |n + 1,t=>match P.underlying t with
  |some .bool|some (.int _)|some .string=>true
  |some (.slice e)=>zlt P n e && decide (0 < P.cellsOf e)
  |some (.struct fs)=>zB7 P 0 fs.toList (P.cellsOf t) && fs.toList.all fun f=>zlt P n f.type
  |some (.array k e)=>zlt P n e && k * P.cellsOf e == P.cellsOf t
  |_=>false
theorem zsP {S : SS} {μ : List Value} {a b : List AV} {u v : List Value} (h : reps S μ a u) (k : reps S μ b v) : reps S μ (a ++ b) (u ++ v) := by
 refine ⟨by rw [List.length_append,List.length_append,h.1,k.1],fun j d x hd hx=>?_⟩
 by_cases hj : j < a.length
 ·rw [List.getElem?_append_left hj] at hd
  rw [List.getElem?_append_left (by rw [h.1];exact hj)] at hx
  exact h.2 j d x hd hx
 ·rw [List.getElem?_append_right (by omega)] at hd
  rw [List.getElem?_append_right (by rw [h.1];omega),h.1] at hx
  exact k.2 _ d x hd hx
theorem zlW {S : SS} {μ : List Value} {d : AV} {u : Value} (h : u.oneCell' = true) (k : rep1 S μ d u) : reps S μ [d] [u] := by
 refine ⟨rfl,fun j x y hx hy=>?_⟩
 cases j with
 |zero=>simp at hx hy;subst hx hy;exact ⟨h,k⟩
 |succ j=>simp at hx
theorem ztT {S : SS} {μ : List Value} : reps S μ [] [] := ⟨rfl,fun j x y hx=>by simp at hx⟩
theorem zwx {P : Program} {n : Nat} {t : TypeId} {ds : List AV} (h : ofT P n t ds) (ha : zMk P t = false) : ∃ d,ds = [d] ∧ isA d = false := by
 cases n with
 |zero=>exact h.elim
 |succ n =>
  unfold ofT at h
  unfold zMk at ha
  split at h
  ·obtain ⟨b,rfl⟩ := h;exact ⟨_,rfl,rfl⟩
  ·obtain ⟨b,rfl,_⟩ := h;exact ⟨_,rfl,rfl⟩
  ·obtain ⟨b,rfl,_⟩ := h;exact ⟨_,rfl,rfl⟩
  ·obtain ⟨b,rfl,_⟩ := h;exact ⟨_,rfl,rfl⟩
  ·rename_i h2;rw [h2] at ha;simp at ha
  ·rename_i h2;rw [h2] at ha;simp at ha
  ·exact h.elim
def mkA (P : Program) (t : TypeId) (ds : List AV) : AV := if zMk P t then .agg ds else ds.headD .nil
theorem zrx {P : Program} {n : Nat} {t : TypeId} {ds : List AV} (h : ofT P n t ds) : cellsOf (mkA P t ds) = ds ∧ isA (mkA P t ds) = zMk P t := by
 unfold mkA
 cases ha : zMk P t with
 |true=>exact ⟨rfl,rfl⟩
 |false =>
  obtain ⟨d,rfl,hd⟩ := zwx h ha
  refine ⟨?_,by simpa using hd⟩
  simp only [Bool.false_eq_true,if_false,List.headD]
  cases d <;> first|rfl|(simp [isA] at hd)
theorem zsE {P : Program} {n : Nat} {t : TypeId} {ds : List AV} (hu : P.underlying t = some .string) (h : ofT P n t ds) : ∃ s : List UInt8,ds = [V (.string ⟨s.toArray⟩)] ∧ s.length ≤ maxLen := by
 cases n with
 |zero=>exact h.elim
 |succ n=>unfold ofT at h;rw [hu] at h;exact h
theorem zEc {P : Program} {n : Nat} {t : TypeId} {ds : List AV} {k : IntKind} (hu : P.underlying t = some (.int k)) (h : ofT P n t ds) : ∃ i,ds = [V (.int k i)] ∧ k.min ≤ i ∧ i ≤ k.max := by
 cases n with
 |zero=>exact h.elim
 |succ n=>unfold ofT at h;rw [hu] at h;exact h
theorem z6q {P : Program} {n : Nat} {t : TypeId} {ds : List AV} (hu : P.underlying t = some (.int .i64)) (h : ofT P n t ds) : ∃ i,ds = [V (.int .i64 i)] ∧ -9223372036854775808 ≤ i ∧ i < 9223372036854775808 := by
 obtain ⟨i,rfl,h1,h2⟩ := zEc hu h
 simp [IntKind.min,IntKind.max,IntKind.signed,IntKind.bits] at h1 h2
 exact ⟨i,rfl,h1,by omega⟩
theorem zfR {P : Program} {n : Nat} {t e : TypeId} {ds : List AV} (hu : P.underlying t = some (.slice e)) (h : ofT P n t ds) : ∃ (m : Nat) (es : List AV),ds = [SL es] ∧ es.length ≤ maxLen ∧ ∀ x ∈ es,ofT P m e (cellsOf x) ∧ isA x = zMk P e := by
 cases n with
 |zero=>exact h.elim
 |succ n=>unfold ofT at h;rw [hu] at h;exact ⟨n,h⟩
theorem zc9 {P : Program} {n : Nat} {t : TypeId} {fs : Array Field} {ds : List AV} (hu : P.underlying t = some (.struct fs)) (h : ofT P n t ds) : ∃ m,zM8 (ofT P m) fs.toList ds := by
 cases n with
 |zero=>exact h.elim
 |succ n=>unfold ofT at h;rw [hu] at h;exact ⟨n,h⟩
theorem zme {α β : Type} {f : β → α} {Q : β → Prop} : ∀ {l : List α},(∀ x ∈ l,∃ y,x = f y ∧ Q y) → ∃ k : List β,l = k.map f ∧ ∀ y ∈ k,Q y
 |[],_=>⟨[],rfl,fun y hy=>by simp at hy⟩
 |x :: r,h=>by
  obtain ⟨y,rfl,hy⟩ := h _ (List.mem_cons_self ..)
  obtain ⟨k,rfl,hk⟩ := zme fun z hz=>h z (List.mem_cons_of_mem _ hz)
  exact ⟨y :: k,rfl,fun z hz=>by
   rcases List.mem_cons.1 hz with rfl|hz
   ·exact hy
   ·exact hk z hz⟩
theorem zpI {x d : AV} (h : cellsOf x = [d]) (ha : isA x = false) : x = d := by
 cases x <;> simp_all [cellsOf,isA]
theorem zla {x : AV} (ha : isA x = true) : x = .agg (cellsOf x) := by
 cases x <;> simp_all [cellsOf,isA]
def Arg (P : Program) (w : World) (t : TypeId) (v : Value) : Prop := ∃ n ds,ofT P n t ds ∧ rep (SW w) [] (mkA P t ds) v
section
variable {H : Type} {enc : TypeId × Value → H} {P : Program} {w : World} {sp : Nat → Bool} {held : Bool}
theorem zmV {m n : Nat} {cs : List Value} (ih : ∀ (t : TypeId) (us : List Value) (x : DataW H × List MemPlace),zlt P n t = true → DataW.trod enc P w 0 sp held m t us = some x → ∃ ds,ofT P n t ds ∧ reps (SWn w m) [] ds us) :
  ∀ (fs : List Field) (o : Nat),zB7 P o fs cs.length = true → (∀ f ∈ fs,zlt P n f.type = true ∧ ∃ y,DataW.trod enc P w 0 sp held m f.type ((cs.drop f.offset).take (P.cellsOf f.type)) = some y) →
   ∃ ds,zM8 (ofT P n) fs ds ∧ reps (SWn w m) [] ds (cs.drop o)
 |[],o,ht,_=>by
  simp only [zB7,beq_iff_eq] at ht
  exact ⟨[],rfl,by rw [ht,List.drop_length];exact ztT⟩
 |f :: fs,o,ht,hf=>by
  simp only [zB7,Bool.and_eq_true,beq_iff_eq] at ht
  obtain ⟨h1,y,hy⟩ := hf f (List.mem_cons_self ..)
  rw [ht.1] at hy
  obtain ⟨a,ha,hra⟩ := ih _ _ _ h1 hy
  obtain ⟨b,hb,hrb⟩ := zmV ih fs _ ht.2 fun g hg=>hf g (List.mem_cons_of_mem _ hg)
  refine ⟨a ++ b,⟨a,b,rfl,ha,hb⟩,?_⟩
  have := zsP hra hrb
  rwa [← List.drop_drop,List.take_append_drop] at this
theorem zpO {m n k z : Nat} {e : TypeId} {cs : List Value} (hz : k * z = cs.length) (ih : ∀ (us : List Value) (x : DataW H × List MemPlace),DataW.trod enc P w 0 sp held m e us = some x → ∃ ds,ofT P n e ds ∧ reps (SWn w m) [] ds us)
  (he : ∀ i,i < k → ∃ y,DataW.trod enc P w 0 sp held m e ((cs.drop (i * z)).take z) = some y) :
  ∀ (r i : Nat),i + r = k → ∃ ps : List (List AV),ps.length = r ∧ (∀ p ∈ ps,ofT P n e p) ∧ reps (SWn w m) [] ps.flatten (cs.drop (i * z))
 |0,i,hi=>by
  have : i = k := by omega
  subst this
  exact ⟨[],rfl,fun p hp=>by simp at hp,by rw [hz,List.drop_length];exact ztT⟩
 |r + 1,i,hi=>by
  obtain ⟨y,hy⟩ := he i (by omega)
  obtain ⟨a,ha,hra⟩ := ih _ _ hy
  obtain ⟨ps,hl,hp,hr⟩ := zpO hz ih he r (i + 1) (by omega)
  refine ⟨a :: ps,by simp [hl],fun p hq=>?_,?_⟩
  ·rcases List.mem_cons.1 hq with rfl|hq
   ·exact ha
   ·exact hp p hq
  ·have := zsP hra hr
   rw [show (i + 1) * z = i * z + z by rw [Nat.add_mul,Nat.one_mul],← List.drop_drop,List.take_append_drop] at this
   exact this
theorem zti : ∀ (m n : Nat) (t : TypeId) (cs : List Value) (x : DataW H × List MemPlace),zlt P n t = true → DataW.trod enc P w 0 sp held m t cs = some x → ∃ ds,ofT P n t ds ∧ reps (SWn w m) [] ds cs := by
 intro m
 induction m with
 |zero=>intro n t cs x _ h;simp [DataW.trod] at h
 |succ m ih =>
  intro n t cs x hp h
  cases n with
  |zero=>simp [zlt] at hp
  |succ n =>
   have lift : ∀ {ds us},reps (SWn w m) [] ds us → reps (SWn w (m + 1)) [] ds us := fun q=>q.ext (zND SWn.succ)
   unfold zlt at hp
   unfold ofT
   split at hp
   ·rename_i hu
    obtain ⟨b,rfl,_⟩ := DataW.trod_bool hu h
    exact ⟨_,⟨b,rfl⟩,zlW rfl ⟨rfl,rfl⟩⟩
   ·rename_i k hu
    obtain ⟨b,rfl,_,hw⟩ := DataW.trod_int hu h
    simp only [Lit.wf,Bool.and_eq_true,decide_eq_true_eq] at hw
    exact ⟨_,⟨b,rfl,hw.1,hw.2⟩,zlW rfl ⟨rfl,rfl⟩⟩
   ·rename_i hu
    obtain ⟨s,rfl,_,hs⟩ := DataW.trod_string hu h
    refine ⟨_,⟨s.data.toList,rfl,?_⟩,zlW rfl ⟨rfl,rfl⟩⟩
    have e : s.data.toList.length = s.size := by rw [Array.length_toList];rfl
    rw [e];exact hs
   ·rename_i e hu
    simp only [Bool.and_eq_true,decide_eq_true_eq] at hp
    rcases DataW.trod_slice hu h with ⟨rfl,_⟩|⟨a,len,cap,elems,rest,m',hm,rfl,_,hb,hl,hc,hel,hen,_⟩
    ·exact ⟨[SL []],⟨[],rfl,Nat.zero_le _,fun x hx=>by simp at hx⟩,zlW rfl ⟨none,0,rfl,Nat.le_refl _,Nat.zero_le _,fun q=>absurd rfl q⟩⟩
    ·obtain rfl : m = m' := by omega
     have hch : ∀ i,i < len → ∃ z : List AV × List Value,ofT P n e z.1 ∧ reps (SWn w m) [] z.1 z.2 ∧ w.cells? 0 (a.add (i * P.cellsOf e)) (P.cellsOf e) = some z.2 := by
      intro i hi
      have h1 := hen i hi
      rw [List.getElem?_eq_getElem (by omega)] at h1
      obtain ⟨us,h2,h3⟩ := Option.bind_eq_some_iff.1 h1
      obtain ⟨ds,h4,h5⟩ := ih n e us _ hp.1 h3
      exact ⟨(ds,us),h4,h5,h2⟩
     obtain ⟨g,hg⟩ := Deep.choose_lt hch
     let es : List AV := (List.range len).map fun i=>mkA P e (g i).1
     have hlen : es.length = len := by simp [es]
     have hget : ∀ (i : Nat) (d : AV),es[i]? = some d → i < len ∧ d = mkA P e (g i).1 := by
      intro i d hd
      have hi : i < len := by have := (List.getElem?_eq_some_iff.1 hd).1;omega
      simp only [es,List.getElem?_map,List.getElem?_range hi,Option.map_some,Option.some.injEq] at hd
      exact ⟨hi,hd.symm⟩
     refine ⟨[SL es],⟨es,rfl,by omega,fun x hx=>?_⟩,zlW rfl ⟨some a,cap,by rw [hlen],by omega,hc,fun hn=>?_⟩⟩
     ·obtain ⟨i,hi⟩ := List.getElem?_of_mem hx
      obtain ⟨hi',rfl⟩ := hget i x hi
      replace hi := hi'
      obtain ⟨q1,q2⟩ := zrx (hg i hi).1
      rw [q1,q2]
      exact ⟨(hg i hi).1,rfl⟩
     ·have h0 : 0 < len := by
       rcases Nat.eq_zero_or_pos len with q|q
       ·exact absurd (List.eq_nil_of_length_eq_zero (by omega)) hn
       ·exact q
      have hcell : ∀ i,i < len → ∀ j,j < P.cellsOf e → w.cell? ((a.add (i * P.cellsOf e)).add j) = (g i).2[j]? := fun i hi=>(World.cells?_some (hg i hi).2.2).2.2
      have hlen2 : ∀ i,i < len → (g i).2.length = P.cellsOf e := fun i hi=>(World.cells?_some (hg i hi).2.2).2.1
      obtain ⟨b,off,spot⟩ := a
      have hspot : spot = none := by
       have := hcell 0 h0 0 hp.2
       rw [List.getElem?_eq_getElem (by rw [hlen2 0 h0];exact hp.2)] at this
       simpa [Addr.add] using World.cell?_spot this
      subst hspot
      have hadd : ∀ o j,(⟨b,o,none⟩ : Addr).add j = ⟨b,o + j,none⟩ := fun o j=>by unfold Addr.add;split <;> simp_all
      refine ⟨b,off,P.cellsOf e,rfl,fun i d hd=>?_⟩
      obtain ⟨hi,rfl⟩ := hget i d hd
      obtain ⟨h1,h2,h3⟩ := hg i hi
      rw [(zrx h1).1]
      refine ⟨by rw [← h2.1];exact hlen2 i hi,fun j y hy=>?_⟩
      have hj : j < P.cellsOf e := by
       have := (List.getElem?_eq_some_iff.1 hy).1
       rw [← h2.1,hlen2 i hi] at this
       exact this
      have h4 := hcell i hi j hj
      rw [hadd,hadd,List.getElem?_eq_getElem (by rw [hlen2 i hi];exact hj)] at h4
      obtain ⟨h5,h6⟩ := h2.2 j y _ hy (List.getElem?_eq_getElem (by rw [hlen2 i hi];exact hj))
      exact ⟨_,h4,h5,h6⟩
   ·rename_i fs hu
    simp only [Bool.and_eq_true,List.all_eq_true] at hp
    obtain ⟨xs,m',hm,_,hcl,hxl,hx⟩ := DataW.trod_struct hu h
    obtain rfl : m = m' := by omega
    obtain ⟨ds,h1,h2⟩ := zmV (w := w) (sp := sp) (held := held) (enc := enc) (m := m) (n := n) (cs := cs) (fun t us x=>ih n t us x) fs.toList 0 (by rw [hcl];exact hp.1) fun f hf=>⟨hp.2 f hf,by
     obtain ⟨i,hi⟩ := List.getElem?_of_mem hf
     rw [Array.getElem?_toList] at hi
     have := hx i f hi
     have hi' : i < xs.length := by rw [hxl];exact (Array.getElem?_eq_some_iff.1 hi).1
     rw [List.getElem?_eq_getElem hi'] at this
     exact ⟨_,this⟩⟩
    exact ⟨ds,h1,lift h2⟩
   ·rename_i k e hu
    simp only [Bool.and_eq_true,beq_iff_eq] at hp
    obtain ⟨xs,m',hm,_,hcl,hxl,hx⟩ := DataW.trod_array hu h
    obtain rfl : m = m' := by omega
    obtain ⟨ps,h1,h2,h3⟩ := zpO (w := w) (sp := sp) (held := held) (enc := enc) (m := m) (n := n) (cs := cs) (z := P.cellsOf e) (k := k) (by rw [hcl];exact hp.2) (fun us x=>ih n e us x hp.1) (fun i hi=>by
     have := hx i hi
     rw [List.getElem?_eq_getElem (by omega)] at this
     exact ⟨_,this⟩) k 0 (by omega)
    rw [Nat.zero_mul] at h3
    exact ⟨_,⟨ps,h1,rfl,h2⟩,lift h3⟩
   ·cases hp
theorem open_any {r : Reach} {b0 : Nat} {t : TypeId} {v : Value} {d : DataW H} {p : List MemPlace} (n : Nat) (hp : zlt P n t = true)
  (hval : Value.okWide P w r b0 t v) (h : DataW.Trod enc P w 0 sp held t v d p) : Arg P w t v := by
 obtain ⟨m,hm⟩ := h
 obtain ⟨ds,h1,h2⟩ := zti m n t _ _ hp hm
 have h2 : reps (SW w) [] ds v.cells.toList := h2.ext (zND fun _ _ _ q=>⟨m,q⟩)
 refine ⟨n,ds,h1,?_⟩
 unfold mkA
 cases ha : zMk P t with
 |true =>
  have : ∃ cs,v = .agg cs := by
   unfold zMk at ha
   unfold Value.okWide at hval
   split at ha
   ·rename_i hu;rw [hu] at hval;obtain ⟨cs,rfl,_⟩ := hval;exact ⟨cs,rfl⟩
   ·rename_i hu;rw [hu] at hval;obtain ⟨cs,rfl,_⟩ := hval;exact ⟨cs,rfl⟩
   ·cases ha
  obtain ⟨cs,rfl⟩ := this
  exact ⟨cs.toList,rfl,h2⟩
 |false =>
  obtain ⟨d,rfl,hd⟩ := zwx h1 ha
  have hv : v.cells = #[v] := by
   cases n with
   |zero=>simp [zlt] at hp
   |succ n =>
    unfold zlt at hp
    unfold zMk at ha
    split at hp
    ·rename_i hu;obtain ⟨_,rfl⟩ := okWide_bool hu hval;rfl
    ·rename_i hu;obtain ⟨_,rfl⟩ := okWide_int hu hval;rfl
    ·rename_i hu;obtain ⟨_,rfl⟩ := okWide_string hu hval;rfl
    ·rename_i hu;obtain ⟨_,_,_,rfl⟩ := okWide_slice hu hval;rfl
    ·rename_i hu;rw [hu] at ha;cases ha
    ·rename_i hu;rw [hu] at ha;cases ha
    ·cases hp
  rw [hv] at h2
  have h3 := (h2.2 0 d v rfl rfl).2
  simp only [Bool.false_eq_true,if_false,List.headD]
  unfold rep
  split
  ·simp [rep1] at h3
  ·unfold repA
   split
   ·simp [isA] at hd
   ·exact h3
end
theorem zvz {P : Program} {G : Gl} {f : FuncId} {ds : List AV} {b : Bool} (h : ACp P G f ds (V (.bool b))) {w : World} (hG : GOk G (SW w)) {vs : List Value} (hl : vs.length = ds.length)
  (hv : ∀ (j : Nat) (d : AV) (v : Value),ds[j]? = some d → vs[j]? = some v → rep (SW w) [] d v) : Calls P f vs.toArray w fun e w'=>e = .returned (.bool b) ∧ Below w.heap.size w w' := by
 refine (h.2 w (SW w) [] vs (zGa w) hG hl hv).mono ?_
 rintro e w' ⟨v,r,H',S',μ',rfl,⟨rfl,rfl⟩,_,hr,hs⟩
 refine ⟨?_,hs.os,hs.tape,hs.output,hs.size,fun k hk=>hs.block k hk fun ⟨i,x,o,hx,_⟩=>by simp at hx⟩
 have : v = .bool b := hr.1
 rw [this]
end Go.Proofs.Ytaaogcnjfkgnoaa

namespace Go.Proofs.Ytaaogcnjfkgnoaa
open Go.RowKit
section
variable {P : Program} {G : Gl}
theorem zzB {w : World} {S : SS} {μ : List Value} {H : List AObj} {t : TypeId} {d : AV} {v : Value} {K : AV → Prop} (hrel : Rel w S μ H) (hx : rep S μ d v) (h : zjK (z1T P t) H d K) :
  ∃ (ad : Addr) (u : Value) (r : AV),v = .pointer (some ad) ∧ (loadVar t ad).run P w = .ok u w ∧ rep S μ r u ∧ K r := by
 unfold zjK at h
 split at h
 ·rename_i cs
  obtain ⟨hk,hK⟩ := h
  obtain ⟨b,off,he,hs⟩ := hx
  obtain ⟨us,hr,hc⟩ := zk9 hrel (cs := cs) hs
  have hg := zjH (P := P) (t := t) w hk
  have hl := run_loadCells_list (P := P) w ⟨b,off,none⟩ us hc
  refine ⟨_, .agg us.toArray, .agg cs,he,?_,⟨us,rfl,hr.free⟩,hK⟩
  simp only [loadVar,Sem.run_bind,hg.1,hg.2,Result.andThen_ok,← hr.1,hl,if_true,Sem.run_pure]
 ·rename_i d hne
  obtain ⟨hk,hK⟩ := h
  obtain ⟨b,off,he,hs⟩ := hx
  rw [zeN hne] at hs
  obtain ⟨u,h1,h2,h3⟩ := hrel.still _ _ _ (hs 0 d rfl)
  refine ⟨_,u,_,he,?_,z7G ?_,hK⟩
  ·have := (zjA (P := P) (t := t) w hk).1
   simp only [loadVar,Sem.run_bind,this,Result.andThen_ok]
   simp only [Nat.add_zero] at h1
   simp [load,Sem.run,h1]
  ·unfold repA
   split
   ·exact absurd rfl (hne _)
   ·exact h3.free
 ·rename_i i off
  obtain ⟨ob,hob,h⟩ := h
  obtain ⟨l,hl,hK⟩ := zry h
  obtain ⟨b,x',hμ,hp,he⟩ := hx
  obtain ⟨cs,us,hc,hr,hus⟩ := zEs hrel hμ hob hp hl
  obtain ⟨d,u,hK',hru,hrun⟩ := zro hc hus hr hK rfl
  exact ⟨_,u,d,he,hrun,hru,hK'⟩
 ·exact h.elim
def zNt (P : Program) (H : List AObj) (T : Tm) : List ResultVar → (List AV → Prop) → Prop
 |[],K=>K []
 |.tmp t :: rs,K=>zNt P H T rs fun ds=>K (get T t :: ds)
 |.cell b t :: rs,K=>zjK (z1T P t) H (get T b) fun d=>zNt P H T rs fun ds=>K (d :: ds)
def zaR : List AV → AV
 |[d]=>d
 |ds=>TU (ds.map noT)
theorem zqR {w : World} {S : SS} {μ : List Value} {H : List AObj} {N : FS} {T : Tm} {a : Act} (hrel : Rel w S μ H) (hf : Fr S μ N T a) : ∀ (rs : List ResultVar) (K : List AV → Prop),zNt P H T rs K →
  ∃ (ds : List AV) (us : List Value),K ds ∧ us.length = ds.length ∧ (∀ (j : Nat) (d : AV) (u : Value),ds[j]? = some d → us[j]? = some u → rep S μ d u) ∧
   (rs.mapM fun r : ResultVar=>(match r with|.tmp t=>(pure (a.tmps.getD t undef) : Sem Value)|.cell b t=>(do loadVar t (← asAddr (a.tmps.getD b undef))))).run P w = .ok us w
 |[],K,h=>⟨[],[],h,rfl,fun j d u hd=>by simp at hd,by simp [List.mapM_nil,Sem.run_pure]⟩
 |.tmp t :: rs,K,h=>by
  obtain ⟨ds,us,h1,h2,h3,h4⟩ := zqR hrel hf rs _ h
  refine ⟨_,a.tmps.getD t undef :: us,h1,by simp [h2],fun j d u hd hu=>?_,?_⟩
  ·cases j with
   |zero=>simp only [List.getElem?_cons_zero,Option.some.injEq] at hd hu;subst hd hu;exact hf.slot t
   |succ j=>simp at hd hu;exact h3 j d u hd hu
  ·have := zfJ
   rw [List.mapM_cons]
   simp only [Sem.run_bind,Sem.run_pure,Result.andThen_ok]
   erw [h4]
   rfl
 |.cell b t :: rs,K,h=>by
  obtain ⟨ad,u0,r,e,hl,hr,hk⟩ := zzB hrel (hf.slot b) h
  obtain ⟨ds,us,h1,h2,h3,h4⟩ := zqR hrel hf rs _ hk
  refine ⟨_,u0 :: us,h1,by simp [h2],fun j d u hd hu=>?_,?_⟩
  ·cases j with
   |zero=>simp at hd hu;subst hd hu;exact hr
   |succ j=>simp at hd hu;exact h3 j d u hd hu
  ·have := zfJ
   rw [List.mapM_cons]
   simp only [Sem.run_bind,e,asAddr,Sem.run_pure,Result.andThen_ok,hl]
   erw [h4]
   rfl
theorem zh9 {fn : Func} {rs : List ResultVar} (h : fn.results.toList = rs) {w : World} {S : SS} {μ : List Value} {H : List AObj} {N : FS} {T : Tm} {a : Act} (hrel : Rel w S μ H) (hf : Fr S μ N T a) {K : AV → Prop} (hK : zNt P H T rs fun ds=>K (zaR ds)) :
  ∃ v r,(results fn a.tmps).run P w = .ok v w ∧ rep S μ r v ∧ K r := by
 obtain ⟨ds,us,h1,h2,h3,h4⟩ := zqR (P := P) hrel hf rs _ hK
 have hr : (results fn a.tmps).run P w = .ok (if h : us.toArray.size = 1 then us.toArray[0] else .tuple us.toArray) w := by
  have := zfJ
  have hm : (fn.results.mapM fun r : ResultVar=>(match r with|.tmp t=>(pure (a.tmps.getD t undef) : Sem Value)|.cell b t=>(do loadVar t (← asAddr (a.tmps.getD b undef))))).run P w = .ok us.toArray w := by
   rw [Array.mapM_eq_mapM_toList,h]
   simp only [map_eq_pure_bind,Sem.run_bind,Sem.run_pure]
   erw [h4]
   rfl
  unfold results
  simp only [Sem.run_bind]
  erw [hm]
  simp only [Result.andThen_ok,Sem.run_pure]
 refine ⟨_,_,hr,?_,h1⟩
 match us,ds,h2,h3 with
 |[u],[d],_,h3=>exact h3 0 d u rfl rfl
 |[],[],_,_=>exact ⟨[],rfl,rfl,fun j d u hd=>by simp at hd⟩
 |u :: u' :: r,d :: d' :: q,h2,h3 =>
  refine ⟨u :: u' :: r,by simp,by simpa using h2,fun j e x hd hu=>?_⟩
  rw [List.getElem?_map] at hd
  obtain ⟨e0,he0,rfl⟩ := Option.map_eq_some_iff.1 hd
  exact zAh (h3 j e0 x he0 hu)
def retQ (P : Program) (rs : List ResultVar) (n : Nat) (R : AV → List AObj → Prop) : Exit → ASt → Prop
 |.normal,s=>zNt P s.H s.T rs fun ds=>∃ X H',(X = zaR ds ∨ X = ro s.H (zaR ds)) ∧ HLe s.H H' ∧ H'.all (ltO H'.length) = true ∧ n ≤ H'.length ∧ ltT H'.length X = true ∧ R X H'
 |.ret,s=>zNt P s.H s.T rs fun ds=>∃ X H',(X = zaR ds ∨ X = ro s.H (zaR ds)) ∧ HLe s.H H' ∧ H'.all (ltO H'.length) = true ∧ n ≤ H'.length ∧ ltT H'.length X = true ∧ R X H'
 |_,_=>False
theorem zo6 {f : FuncId} {fn : Func} {c : Code} {args : List AV} {H : List AObj} {R : AV → List AObj → Prop} (hf : P.funcs[f]? = some fn) (hb : fn.body = some c) (hc : zey P f = true) (rs : List ResultVar) (hrs : fn.results.toList = rs) (N : Nat) (hN : fn.ntmps = N) (hargs : args.length ≤ N)
  (h : AWp P G (F0 N) H.length c (retQ P rs H.length R) ⟨H,z14 0 args⟩) : AC P G f args H R := by
 subst hN
 refine ⟨hc,fun w S μ vs hr hg hl hv=>?_⟩
 refine calls_of_wp hf hb ?_
 have hfr : Fr S μ (F0 fn.ntmps) (z14 0 args) { tmps := vs.toArray ++ Array.replicate (fn.ntmps - vs.toArray.size) undef,defers := [] } := by
  refine ⟨by simp;omega,rfl,fun i=>?_⟩
  rw [zle]
  simp only [Nat.zero_le,if_true,Nat.sub_zero]
  cases hd : args[i]? with
  |none=>trivial
  |some d =>
   have hi : i < vs.length := by rw [hl];exact (List.getElem?_eq_some_iff.1 hd).1
   have := hv i d vs[i] hd (List.getElem?_eq_getElem hi)
   simp only [Option.getD_some]
   have e : (vs.toArray ++ Array.replicate (fn.ntmps - vs.toArray.size) undef).getD i undef = vs[i] := by
    rw [Array.getD_eq_getD_getElem?,Array.getElem?_append_left (by simpa using hi)]
    simp [hi]
   rw [e];exact this
 refine wp_mono (h w S μ _ hr hfr hg) ?_
 rintro e a' w' ⟨s',S',μ',hq,hr',hf',hst⟩
 have fin : (zNt P s'.H s'.T rs fun ds=>∃ X H',(X = zaR ds ∨ X = ro s'.H (zaR ds)) ∧ HLe s'.H H' ∧ H'.all (ltO H'.length) = true ∧ H.length ≤ H'.length ∧ ltT H'.length X = true ∧ R X H') → a'.defers = [] ∧ ∃ v,(results fn a'.tmps).run P w' = .ok v w' ∧ zAC w S μ H R (.returned v) w' := by
  intro hK
  obtain ⟨v,r,hrun,hrep,X,H',hX,hle,hlt,hn,hltX,hR⟩ := zh9 (K := fun r=>∃ X H',(X = r ∨ X = ro s'.H r) ∧ HLe s'.H H' ∧ H'.all (ltO H'.length) = true ∧ H.length ≤ H'.length ∧ ltT H'.length X = true ∧ R X H') hrs hr' hf' hK
  have hrepX : rep S' μ' X v := by
   rcases hX with rfl|rfl
   ·exact hrep
   ·exact hrep.toRo hr'
  refine ⟨hf'.nodef,v,hrun,v,X,H',S',μ'.take H'.length,rfl,hR,hr'.le hle hlt,hrepX.take hltX,hst.trans ⟨rfl,rfl,rfl,Nat.le_refl _,fun _ _ _=>rfl,fun _ _ _ h=>h,fun i x hi hx=>⟨x,by rw [List.getElem?_take,if_pos (by omega)];exact hx, .inl rfl⟩,fun _ _ _ h _=>.inl h,fun _ k _=>hle.own k⟩⟩
 cases e with
 |normal=>exact fin hq
 |ret=>exact fin hq
 |exit id=>exact hq.elim
 |goto l=>exact hq.elim
 |panic ch=>exact hq.elim
 |outgrown=>exact hq.elim
theorem z8h {H : List AObj} {T : Tm} : ∀ {rs : List ResultVar} {K K' : List AV → Prop},(∀ ds,K ds → K' ds) → zNt P H T rs K → zNt P H T rs K'
 |[],K,K',hk,h=>hk _ h
 |.tmp t :: rs,K,K',hk,h=>z8h (rs := rs) (fun ds=>hk _) h
 |.cell b t :: rs,K,K',hk,h=>by
  simp only [zNt] at h ⊢
  obtain ⟨d,h1,h2⟩ := zdy h
  have : zjK (z1T P t) H (_root_.Go.Proofs.Ytaaogcnjfkgnoaa.get T b) (fun d=>zNt P H T rs fun ds=>K' (d :: ds)) := by
   unfold zjK at h1 ⊢
   split at h1
   ·exact ⟨h1.1,by have := h1.2;subst this;exact z8h (fun ds=>hk _) h2⟩
   ·exact ⟨h1.1,by have := h1.2;subst this;exact z8h (fun ds=>hk _) h2⟩
   ·obtain ⟨ob,q1,q2⟩ := h1
    exact ⟨ob,q1,zjv q2 fun l q=>z4y q fun d' e=>by subst e;exact z8h (fun ds=>hk _) h2⟩
   ·exact h1
  exact this
theorem zBi {N : FS} {n : Nat} {c : Code} {Q : Exit → ASt → Prop} {H : List AObj} {T : Tm} (i : Nat) (e : TypeId) (z : Nat) (hi : get T i = V (.slice none 0 0)) (hn : n ≤ H.length) (h : AWp P G N n c Q ⟨H ++ [⟨2,e,z,[]⟩],(i,OW H.length 0) :: T⟩) : AWp P G N n c Q ⟨H,T⟩ := by
 intro w S μ a hr hf hg
 obtain ⟨h1,h2⟩ := hr.nilRow none e z
 have hx : Ext S μ S (μ ++ [.slice none 0 0]) := zmL S μ _
 have hf' : Fr S (μ ++ [.slice none 0 0]) N ((i,OW H.length 0) :: T) a := by
  refine ⟨hf.size,hf.nodef,fun k=>?_⟩
  simp only [_root_.Go.Proofs.Ytaaogcnjfkgnoaa.get]
  split
  ·rename_i e;subst e
   have := (hf.slot i)
   rw [hi] at this
   refine ⟨none,0,0,none,0,?_,Nat.le_refl _,this.1,fun _=>⟨rfl,rfl⟩⟩
   rw [← hr.len];simp
  ·exact (hf.slot k).ext hx
 exact wp_mono (h w S _ a h1 hf' hg) fun _ _ _ k=>Lift.trans (h2.less hn) k
variable {H : List AObj} {T : Tm} {X : AV} {s : ASt}
theorem zHq {d : AV} : zaR [d] = d := _root_.id rfl
theorem zHp {d e : AV} : zaR [d,e] = TU [noT d,noT e] := _root_.id rfl
theorem zyt {d e f : AV} : zaR [d,e,f] = TU [noT d,noT e,noT f] := _root_.id rfl
theorem zGG : zaR [] = TU [] := _root_.id rfl
theorem zKG {e : TypeId} {z m : Nat} {c : List AV} : ro1 (⟨2,e,z,c⟩ :: H) (OW 0 m) = if m = c.length then SL c else OW 0 m := by simp [ro1]
theorem zJs {o : AObj} {e : TypeId} {z m : Nat} {c : List AV} : ro1 (o :: ⟨2,e,z,c⟩ :: H) (OW 1 m) = if m = c.length then SL c else OW 1 m := by simp [ro1]
theorem zK5 {o o' : AObj} {e : TypeId} {z m : Nat} {c : List AV} : ro1 (o :: o' :: ⟨2,e,z,c⟩ :: H) (OW 2 m) = if m = c.length then SL c else OW 2 m := by simp [ro1]
theorem zKD {o o' o2 : AObj} {e : TypeId} {z m : Nat} {c : List AV} : ro1 (o :: o' :: o2 :: ⟨2,e,z,c⟩ :: H) (OW 3 m) = if m = c.length then SL c else OW 3 m := by simp [ro1]
section
variable {m : Nat}
theorem tT_V {v : Value} : ltT m (V v) = true := _root_.id rfl
theorem zKy {es : List AV} : ltT m (SL es) = true := _root_.id rfl
theorem zGL {d : AV} : ltT m (.ptr d) = true := _root_.id rfl
theorem zJB {i q : Nat} : ltT m (OW i q) = decide (i < m) := _root_.id rfl
theorem zKN {i q : Nat} : ltT m (OP i q) = decide (i < m) := _root_.id rfl
theorem zHm {cs : List AV} : ltT m (.agg cs) = cs.all (lt1 m) := _root_.id rfl
theorem zKA {ds : List AV} : ltT m (TU ds) = ds.all (ltA m) := _root_.id rfl
theorem tA_V {v : Value} : ltA m (V v) = true := _root_.id rfl
theorem zJO {es : List AV} : ltA m (SL es) = true := _root_.id rfl
theorem zHL {d : AV} : ltA m (.ptr d) = true := _root_.id rfl
theorem zJt {i q : Nat} : ltA m (OW i q) = decide (i < m) := _root_.id rfl
theorem zKJ {i q : Nat} : ltA m (OP i q) = decide (i < m) := _root_.id rfl
theorem zHh {cs : List AV} : ltA m (.agg cs) = cs.all (lt1 m) := _root_.id rfl
theorem t1_V {v : Value} : lt1 m (V v) = true := _root_.id rfl
theorem zKh {es : List AV} : lt1 m (SL es) = true := _root_.id rfl
theorem zGv {d : AV} : lt1 m (.ptr d) = true := _root_.id rfl
theorem zJv {i q : Nat} : lt1 m (OW i q) = decide (i < m) := _root_.id rfl
theorem zKk {i q : Nat} : lt1 m (OP i q) = decide (i < m) := _root_.id rfl
theorem zJL {k e z : Nat} {c : List AV} : ltO m ⟨k,e,z,c⟩ = (k == 0 || c.all (ltA m)) := _root_.id rfl
end
end
end Go.Proofs.Ytaaogcnjfkgnoaa

namespace Go.Proofs.Ytaaogcnjfkgnoaa
open Go.RowKit
section
variable {P : Program} {G : Gl}
abbrev Is (X : AV) (H0 : List AObj) : AV → List AObj → Prop := fun r H'=>r = X ∧ H' = H0
theorem zoD {f : FuncId} {args : List AV} {X : AV} {H H0 : List AObj} {R : AV → List AObj → Prop} (h : AC P G f args H (Is X H0)) (k : R X H0) : AC P G f args H R :=
 h.mono fun r H' ⟨e1,e2⟩=>by subst e1 e2;exact k
variable {H H0 : List AObj} {T : Tm} {X : AV} {s : ASt}
section
variable {K : ASt → Prop} {ops l r : List Oper} {dst : Option Tmp} {ty : TypeId} {pos : String} {af : Array Edge} {b : Bool}
end
end
end Go.Proofs.Ytaaogcnjfkgnoaa

namespace Go.Proofs.Ytaaogcnjfkgnoaa
open Go.RowKit
section
variable {P : Program} {G : Gl} {H : List AObj} {x y z : AV} {K K' : AV → Prop} {t : TypeId}
theorem zu9 {l : List AV} {i : Nat} (q : ∀ d,K d → K' d) (h : nth l i K) : nth l i K' := by
 obtain ⟨d,h1,h2⟩ := h
 exact ⟨d,h1,q _ h2⟩
theorem zli {l : List AObj} {i : Nat} {K K' : AObj → Prop} (q : ∀ d,K d → K' d) (h : zMZ l i K) : zMZ l i K' := by
 obtain ⟨d,h1,h2⟩ := h
 exact ⟨d,h1,q _ h2⟩
theorem zw6 {op : BinOp} {k k' : IntKind} {a b : Int} (q : ∀ d,K d → K' d) (h : zKY op k a k' b K) : zKY op k a k' b K' := by
 cases op <;> simp only [zKY] at h ⊢ <;> first|exact ⟨h.1,q _ h.2⟩|exact ⟨h.1,h.2.1,q _ h.2.2⟩
theorem zuC {op : BinOp} {a b : ByteArray} (q : ∀ d,K d → K' d) (h : zNw op a b K) : zNw op a b K' := by
 cases op <;> simp only [zNw] at h ⊢ <;> first|exact ⟨h.1,q _ h.2⟩|exact q _ h
theorem zr5 {op : BinOp} (q : ∀ d,K d → K' d) (h : zMc P t op x y K) : zMc P t op x y K' := by
 unfold zMc at h ⊢
 split at h
 ·obtain ⟨us,vs,b,h1,h2,h3,h4⟩ := h;exact ⟨us,vs,b,h1,h2,h3,q _ h4⟩
 ·exact zw6 q h
 ·exact zuC q h
 ·refine ⟨h.1,?_⟩
  have h := h.2
  split at h
  ·exact q _ h
  ·exact q _ h
  ·exact h
 ·refine ⟨h.1,?_⟩
  have h := h.2
  split at h
  ·exact q _ h
  ·exact q _ h
  ·exact h
 ·refine ⟨h.1,?_⟩
  have h := h.2
  split at h
  ·exact q _ h
  ·exact q _ h
  ·exact h
 ·refine ⟨h.1,?_⟩
  have h := h.2
  split at h
  ·exact q _ h
  ·exact q _ h
  ·exact h
 ·exact h
theorem ztA {op : UnOp} (q : ∀ d,K d → K' d) (h : aUn op x K) : aUn op x K' := by
 unfold aUn at h ⊢
 split at h
 ·exact q _ h
 ·exact q _ h
 ·exact q _ h
 ·exact h
theorem zpt (q : ∀ d,K d → K' d) (h : zug x y z K) : zug x y z K' := by
 unfold zug at h ⊢
 split at h
 ·exact q _ h
 ·exact h
theorem zkg {i : Nat} (q : ∀ d,K d → K' d) (h : zah x i K) : zah x i K' := by
 unfold zah at h ⊢
 split at h
 ·exact zu9 q h
 ·exact h
theorem zcx {k : Nat} (q : ∀ d,K d → K' d) (h : zjK k H x K) : zjK k H x K' := by
 unfold zjK at h ⊢
 split at h
 ·exact ⟨h.1,q _ h.2⟩
 ·exact ⟨h.1,q _ h.2⟩
 ·exact zli (fun ob h=>zjv h fun l h=>z4y h q) h
 ·exact h
theorem zmY {k : Nat} {K K' : List AObj → Prop} (q : ∀ d,K d → K' d) (h : zpz k H x y K) : zpz k H x y K' := by
 unfold zpz at h ⊢
 split at h
 ·exact zli (fun ob h=>zri h fun l h=>q _ h) h
 ·exact h
theorem zmN {f : Option (Nat × Nat)} (q : ∀ d,K d → K' d) (h : zm6 f x K) : zm6 f x K' := by
 unfold zm6 at h ⊢
 split at h
 ·split at h
  ·exact z4y h fun d=>q _
  ·exact q _ h
  ·exact h
 ·exact h
theorem zlF {f : Option (Nat × Nat)} (q : ∀ d,K d → K' d) (h : zfj f x K) : zfj f x K' := by
 unfold zfj at h ⊢
 split at h
 ·split at h
  ·exact z4y h q
  ·exact h
 ·exact h
theorem zqo {k : Nat} (q : ∀ d,K d → K' d) (h : zfE k H x y K) : zfE k H x y K' := by
 unfold zfE at h ⊢
 split at h
 ·refine ⟨h.1,?_⟩
  have h2 := h.2
  split at h2
  ·exact ⟨h2.1,zli (fun ob h=>⟨h.1,h.2.1,h.2.2.1,q _ h.2.2.2⟩) h2.2⟩
  ·exact z3m h2 fun es h=>zu9 (fun d h=>⟨h.1,q _ h.2⟩) h
 ·exact h
theorem zmb (q : ∀ d,K d → K' d) (h : zed P t H x y K) : zed P t H x y K' := by
 unfold zed at h ⊢
 split at h
 ·exact zqo q h
 ·split at h
  ·split at h
   ·refine ⟨h.1,h.2.1,?_⟩
    have h := h.2.2
    split at h
    ·exact z4y h fun d=>q _
    ·exact q _ h
    ·exact h
   ·exact h
  ·exact h
theorem zlm (q : ∀ d,K d → K' d) (h : zfC P t x y K) : zfC P t x y K' := by
 unfold zfC at h ⊢
 split at h
 ·split at h
  ·exact ⟨h.1,h.2.1,h.2.2.1,q _ h.2.2.2⟩
  ·split at h
   ·exact ⟨h.1,h.2.1,z4y h.2.2 q⟩
   ·exact h
  ·exact h
 ·exact h
theorem zr0 (q : ∀ d,K d → K' d) (h : zNC P t H x K) : zNC P t H x K' := by
 unfold zNC at h ⊢
 split at h
 ·exact ⟨h.1,q _ h.2⟩
 ·exact ⟨h.1,q _ h.2⟩
 ·exact ⟨h.1,q _ h.2⟩
 ·exact ⟨h.1,z3m h.2 fun es=>q _⟩
theorem zrf (q : ∀ d,K d → K' d) (h : zMO x K) : zMO x K' := by
 unfold zMO at h ⊢
 split at h
 ·exact q _ h
 ·exact q _ h
 ·exact h
theorem zpa {t' : TypeId} (q : ∀ d,K d → K' d) (h : zs9 P t t' x K) : zs9 P t t' x K' := by
 unfold zs9 at h ⊢
 split at h
 ·refine ⟨h.1,?_⟩
  have h := h.2
  split at h
  ·exact q _ h
  ·exact h
 ·rcases h with h|h
  ·exact .inl ⟨h.1,h.2.1,q _ h.2.2⟩
  ·exact .inr ⟨h.1,h.2.1,h.2.2.1,q _ h.2.2.2⟩
 ·refine ⟨h.1,h.2.1,?_⟩
  have h := h.2.2
  split at h
  ·exact q _ h
  ·exact h
 ·exact h
theorem zmR {ps : List (Nat × AV)} (q : ∀ d,K d → K' d) (h : zlS P t ps K) : zlS P t ps K' := by
 unfold zlS at h ⊢
 split at h
 ·split at h
  ·exact q _ h
  ·exact h
 ·exact h
theorem zmk {n : Nat} {ps : List (Nat × AV)} (q : ∀ d,K d → K' d) (h : zfa P t n ps K) : zfa P t n ps K' := by
 unfold zfa at h ⊢
 split at h
 ·exact ⟨h.1,h.2.1,h.2.2.1,h.2.2.2.1,q _ h.2.2.2.2⟩
 ·exact h
theorem zmU {lo hi : Option AV} (q : ∀ d,K d → K' d) (h : zkW P t H x lo hi K) : zkW P t H x lo hi K' := by
 unfold zkW at h ⊢
 split at h
 ·exact ⟨h.1,z8Z h.2 fun l h=>z8Z h fun u h=>⟨h.1,h.2.1,h.2.2.1,q _ h.2.2.2⟩⟩
 ·split at h
  ·exact z3m h fun es h=>⟨h.1,z8Z h.2 fun l h=>z8Z h fun u h=>⟨h.1,h.2.1,h.2.2.1,q _ h.2.2.2⟩⟩
  ·exact h
theorem zsg {K K' : AV → List AObj → Prop} (m : ∀ y,zMB P t H x y K → zMB P t H x y K') (h : zwT P t H x y K) : zwT P t H x y K' := by
 unfold zwT at h ⊢
 split at h
 ·exact m _ h
 ·exact h.elim
theorem zrw {K K' : AV → List AObj → Prop} (q : ∀ d H,K d H → K' d H) (h : zMB P t H x y K) : zMB P t H x y K' := by
 unfold zMB at h ⊢
 split at h
 ·refine z3m h fun es h=>⟨h.1,?_⟩
  have h := h.2
  split at h
  ·exact ⟨h.1,q _ _ h.2⟩
  ·exact ⟨h.1,q _ _ h.2⟩
  ·exact zli (fun ob h=>⟨h.1,h.2.1,h.2.2.1,h.2.2.2.1,h.2.2.2.2.1,q _ _ h.2.2.2.2.2⟩) h
  ·exact h
 ·exact h
theorem zrZ {args : List AV} {K K' : AV → List AObj → Prop} (q : ∀ d H,K d H → K' d H) (h : zpU P G x args H K) : zpU P G x args H K' := by
 unfold zpU at h ⊢
 split at h
 ·exact h.mono q
 ·exact h.mono q
 ·exact h
theorem zu7 {mx : Bool} {x y : AV} {K K' : AV → Prop} (q : ∀ d,K d → K' d) (h : aMM mx x y K) : aMM mx x y K' := by
 unfold aMM at h ⊢
 split at h
 ·exact ⟨h.1,q _ h.2⟩
 ·exact h
theorem z5i {o : Oper} {s : ASt} {K K' : AV → List AObj → Prop} (q : ∀ d H,K d H → K' d H) (h : z0A P G o s K) : z0A P G o s K' := by
 obtain ⟨dst,op,ty,pos,af,gd⟩ := o
 unfold z0A at h ⊢
 dsimp only at h ⊢
 split at h
 ·exact q _ _ h
 ·exact q _ _ h
 ·exact zpt (fun d=>q d _) h
 ·exact zr5 (fun d=>q d _) h
 ·exact ztA (fun d=>q d _) h
 ·split at h
  ·exact q _ _ h
  ·exact h
 ·exact ⟨h.1,q _ _ h.2⟩
 ·exact zmR (fun d=>q d _) h
 ·exact zmk (fun d=>q d _) h
 ·exact zcx (fun d=>q d _) h
 ·exact zmY (fun H=>q _ H) h
 ·exact zrf (fun d=>q d _) h
 ·exact zpa (fun d=>q d _) h
 ·exact zkg (fun d=>q d _) h
 ·exact zmN (fun d=>q d _) h
 ·exact zlF (fun d=>q d _) h
 ·exact zmb (fun d=>q d _) h
 ·exact zlm (fun d=>q d _) h
 ·exact zmU (fun d=>q d _) h
 ·exact AC.mono h q
 ·exact ⟨h.1,q _ _ h.2⟩
 ·exact zrZ q h
 ·exact zr0 (fun d=>q d _) h
 ·split at h
  ·rename_i e;rw [if_pos e];exact zrw q h
  ·rename_i e;rw [if_neg e];exact ⟨h.1,zsg (fun _=>zrw q) h.2⟩
 ·exact zu7 (fun d=>q d _) h
 ·exact zu7 (fun d=>q d _) h
 ·obtain ⟨d,h1,h2⟩ := h;exact ⟨d,h1,q _ _ h2⟩
 ·obtain ⟨d,h1,h2⟩ := h;exact ⟨d,h1,q _ _ h2⟩
 ·unfold zAO at h ⊢;split at h <;> first|exact q _ _ h|exact h
 ·exact h
theorem zsX {f : FuncId} {args : List AV} (q : ∀ d,K d → K' d) (h : zFd P G f args K) : zFd P G f args K' := by
 obtain ⟨X,h1,h2,h3⟩ := h
 exact ⟨X,h1,h2,q _ h3⟩
theorem zqP {o : Oper} {s : ASt} {K : AV → List AObj → Prop} (hl : loud o.op = false) (h : z0A P G o s K) : z0A P G o s fun d H'=>H' = s.H ∧ K d H' := by
 obtain ⟨dst,op,ty,pos,af,gd⟩ := o
 unfold z0A at h ⊢
 dsimp only at h ⊢ hl
 split at h
 ·exact ⟨rfl,h⟩
 ·exact ⟨rfl,h⟩
 ·exact zpt (fun d h=>⟨rfl,h⟩) h
 ·exact zr5 (fun d h=>⟨rfl,h⟩) h
 ·exact ztA (fun d h=>⟨rfl,h⟩) h
 ·cases hl
 ·cases hl
 ·exact zmR (fun d h=>⟨rfl,h⟩) h
 ·exact zmk (fun d h=>⟨rfl,h⟩) h
 ·exact zcx (fun d h=>⟨rfl,h⟩) h
 ·cases hl
 ·exact zrf (fun d h=>⟨rfl,h⟩) h
 ·exact zpa (fun d h=>⟨rfl,h⟩) h
 ·exact zkg (fun d h=>⟨rfl,h⟩) h
 ·exact zmN (fun d h=>⟨rfl,h⟩) h
 ·exact zlF (fun d h=>⟨rfl,h⟩) h
 ·exact zmb (fun d h=>⟨rfl,h⟩) h
 ·exact zlm (fun d h=>⟨rfl,h⟩) h
 ·exact zmU (fun d h=>⟨rfl,h⟩) h
 ·cases hl
 ·cases hl
 ·cases hl
 ·exact zr0 (fun d h=>⟨rfl,h⟩) h
 ·cases hl
 ·cases hl
 ·cases hl
 ·obtain ⟨d,h1,h2⟩ := h;exact ⟨d,h1,rfl,h2⟩
 ·cases hl
 ·cases hl
 ·exact h
theorem zsb {w : Bool} {A B A' B' : Prop} (ha : A → A') (hb : B → B') (h : zkX x w A B) : zkX x w A' B' := by
 unfold zkX at h ⊢
 split at h
 ·exact ⟨fun e=>ha (h.1 e),fun e=>hb (h.2 e)⟩
 ·exact hb h
 ·exact h
theorem za5 {ops : List Oper} {K K' : ASt → Prop} (q : ∀ s,K s → K' s) : ∀ {l : List Oper} {s : ASt},zbL P G ops l s K → zbL P G ops l s K'
 |[],s,h=>q s h
 |o :: r,s,h=>by
  unfold zbL at h ⊢
  split at h
  ·rename_i hg;exact z5i (fun d H=>za5 q) h
  ·rename_i j want hg
   split at h
   ·exact zsb (z5i fun d H=>za5 q) (za5 q) h
   ·exact h.elim
theorem zoS {o : Oper} {s : ASt} (q : ∀ d,K d → K' d) (h : z3I P G o s K) : z3I P G o s K' := by
 obtain ⟨dst,op,ty,pos,af,gd⟩ := o
 unfold z3I at h ⊢
 dsimp only at h ⊢
 split at h
 ·exact zsX q h
 ·exact ⟨h.1,z5i (fun d H w=>⟨w.1,q _ w.2⟩) h.2⟩
end
end Go.Proofs.Ytaaogcnjfkgnoaa

namespace Go.Proofs.Ytaaogcnjfkgnoaa
open Go.RowKit
section
variable {P : Program} {G : Gl} {N : FS} {n : Nat} {s : ASt} {H H' X : List AObj} {T : Tm}
def ztm (acc : List Nat) (o : Oper) : Nat := o.after.toList.foldl (fun m e=>if Region.binds .any e then m ||| (acc.getD e.on 0 ||| 2 ^ e.on) else m) 0
def zMx : List Oper → List Nat → List Nat
 |[],acc=>acc
 |o :: r,acc=>zMx r (acc ++ [ztm acc o])
def anc (ops : List Oper) (k i : Nat) : Bool := ((zMx ops []).getD k 0).testBit i
theorem zrg (acc : List Nat) (i : Nat) : ∀ (l : List Edge) (m0 : Nat),(l.foldl (fun m e=>if Region.binds .any e then m ||| (acc.getD e.on 0 ||| 2 ^ e.on) else m) m0).testBit i = true → m0.testBit i = true ∨ ∃ e ∈ l,Region.binds .any e = true ∧ ((acc.getD e.on 0).testBit i = true ∨ i = e.on)
 |[],m0,h=>.inl h
 |e :: l,m0,h=>by
  rw [List.foldl_cons] at h
  rcases zrg acc i l _ h with h|⟨e',h1,h2⟩
  ·split at h
   ·rename_i hb
    rw [Nat.testBit_or,Nat.testBit_or,Bool.or_eq_true,Bool.or_eq_true,Nat.testBit_two_pow,decide_eq_true_eq] at h
    rcases h with h|h|h
    ·exact .inl h
    ·exact .inr ⟨e,List.mem_cons_self ..,hb, .inl h⟩
    ·exact .inr ⟨e,List.mem_cons_self ..,hb, .inr h.symm⟩
   ·exact .inl h
  ·exact .inr ⟨e',List.mem_cons_of_mem _ h1,h2⟩
theorem zq5 : ∀ (l : List Oper) (acc : List Nat),(zMx l acc).take acc.length = acc
 |[],acc=>by simp [zMx]
 |o :: l,acc=>by
  have := zq5 l (acc ++ [ztm acc o])
  simp only [zMx]
  rw [List.length_append,List.length_singleton] at this
  have h2 := congrArg (List.take acc.length) this
  rw [List.take_take,Nat.min_eq_left (by omega)] at h2
  rw [h2];simp
theorem zy4 : ∀ (l : List Oper) (acc : List Nat) (k : Nat) (o : Oper),l[k]? = some o → (zMx l acc).getD (acc.length + k) 0 = ztm ((zMx l acc).take (acc.length + k)) o
 |[],acc,k,o,h=>by simp at h
 |o1 :: l,acc,k,o,h=>by
  rcases k with _|k
  ·simp at h;subst h
   have h1 := zq5 l (acc ++ [ztm acc o1])
   have h2 := zq5 (o1 :: l) acc
   simp only [zMx] at h2 ⊢
   rw [Nat.add_zero,h2]
   have h3 : ((zMx l (acc ++ [ztm acc o1])).take (acc ++ [ztm acc o1]).length)[acc.length]? = some (ztm acc o1) := by rw [h1];simp
   rw [List.getElem?_take,if_pos (by simp)] at h3
   rw [List.getD_eq_getElem?_getD,h3];rfl
  ·simp only [List.getElem?_cons_succ] at h
   have := zy4 l (acc ++ [ztm acc o1]) k o h
   simp only [zMx]
   rw [List.length_append,List.length_singleton,Nat.add_assoc,Nat.add_comm 1 k] at this
   exact this
theorem zsw {ops : List Oper} {k i : Nat} (h : anc ops k i = true) : ∃ ok e,ops[k]? = some ok ∧ e ∈ ok.after ∧ Region.binds .any e = true ∧ (anc ops e.on i = true ∨ i = e.on) := by
 unfold anc at h
 cases hk : ops[k]? with
 |none =>
  have hl : ∀ (l : List Oper) (acc : List Nat),(zMx l acc).length = acc.length + l.length := by
   intro l
   induction l with
   |nil=>intro acc;simp [zMx]
   |cons o l ih=>intro acc;simp only [zMx,ih];simp;omega
  have h1 := List.getElem?_eq_none_iff.1 hk
  rw [List.getD_eq_getElem?_getD,List.getElem?_eq_none (by rw [hl];simpa using h1)] at h
  simp at h
 |some ok =>
  have h1 := zy4 ops [] k ok hk
  simp only [List.length_nil,Nat.zero_add] at h1
  rw [h1] at h
  rcases zrg _ i _ 0 h with h|⟨e,h2,h3,h4⟩
  ·simp at h
  ·refine ⟨ok,e,rfl,by simpa using h2,h3,?_⟩
   rcases h4 with h4|h4
   ·left
    unfold anc
    rw [List.getD_eq_getElem?_getD,List.getElem?_take] at h4
    split at h4
    ·rw [List.getD_eq_getElem?_getD];exact h4
    ·simp at h4
   ·exact .inr h4
theorem zHo {ops : List Oper} (hsh : zaQ ops.toArray = true) : ∀ {k i : Nat},anc ops k i = true → i < k := by
 intro k
 induction k using Nat.strongRecOn with
 |ind k ih =>
  intro i h
  obtain ⟨ok,e,h1,h2,h3,h4⟩ := zsw h
  have := zdt hsh (k := k) (ok := ok) (by simpa using h1) e h2 h3
  rcases h4 with h4|h4
  ·have := ih e.on this h4;omega
  ·omega
theorem zps {ops : List Oper} (hsh : zaQ ops.toArray = true) {listed : Array Bool} (hcl : zvf ops.toArray listed) : ∀ {k i : Nat},anc ops k i = true → (∀ ok,ops[k]? = some ok → ∀ e ∈ ok.after,Region.binds .any e = true → listed.getD e.on false = true) → listed.getD i false = true := by
 intro k
 induction k using Nat.strongRecOn with
 |ind k ih =>
  intro i h hk
  obtain ⟨ok,e,h1,h2,h3,h4⟩ := zsw h
  have hl := hk ok h1 e h2 h3
  rcases h4 with h4|h4
  ·exact ih e.on (zdt hsh (k := k) (ok := ok) (by simpa using h1) e h2 h3) h4 fun ok' h5 e' h6 h7=>hcl e.on ok' (by simpa using h5) hl e' h6 h7
  ·rw [h4];exact hl
abbrev KC := FuncId → Nat
def zLq (kc : KC) (op : Op) : Nat := match op with
 |.alloc _=>1
 |.call { callee := .value (.func f), .. }=>kc f
 |op=>if loud op = true then 2 else 0
variable {kc : KC}
def loI (kc : KC) (ops : List Oper) (A : List Nat) (i : Nat) : Nat := (List.range i).foldl (fun m k=>if (match ops[k]? with|some o=>zLq kc o.op != 0|none=>false) && (A.getD i 0).testBit k then k + 1 else m) 0
theorem zss (f : Nat → Bool) : ∀ (n : Nat),(((List.range n).foldl (fun m k=>if f k then k + 1 else m) 0 = 0) ∧ ∀ k,k < n → f k = false) ∨ ∃ q,q < n ∧ (List.range n).foldl (fun m k=>if f k then k + 1 else m) 0 = q + 1 ∧ f q = true ∧ ∀ k,q < k → k < n → f k = false
 |0=>.inl ⟨rfl,fun k h=>by omega⟩
 |n + 1=>by
  rw [List.range_succ,List.foldl_append]
  simp only [List.foldl_cons,List.foldl_nil]
  cases hf : f n with
  |true =>
   right
   exact ⟨n,by omega,by simp,hf,fun k h1 h2=>by omega⟩
  |false =>
   simp only [Bool.false_eq_true,if_false]
   rcases zss f n with ⟨h1,h2⟩|⟨q,h1,h2,h3,h4⟩
   ·left
    refine ⟨h1,fun k hk=>?_⟩
    rcases Nat.lt_or_ge k n with q|q
    ·exact h2 k q
    ·have : k = n := by omega
     subst this;exact hf
   ·right
    refine ⟨q,by omega,h2,h3,fun k hk1 hk2=>?_⟩
    rcases Nat.lt_or_ge k n with q|q
    ·exact h4 k hk1 q
    ·have : k = n := by omega
     subst this;exact hf
theorem zlC (ops : List Oper) (i : Nat) : (loI kc ops (zMx ops []) i = 0 ∧ ∀ (k : Nat) (o : Oper),k < i → ops[k]? = some o → zLq kc o.op ≠ 0 → anc ops i k = false) ∨
  ∃ (q : Nat) (o : Oper),q < i ∧ loI kc ops (zMx ops []) i = q + 1 ∧ ops[q]? = some o ∧ zLq kc o.op ≠ 0 ∧ anc ops i q = true ∧ ∀ (k : Nat) (o : Oper),q < k → k < i → ops[k]? = some o → zLq kc o.op ≠ 0 → anc ops i k = false := by
 have nf : ∀ (k : Nat) (o : Oper),ops[k]? = some o → zLq kc o.op ≠ 0 → ((match ops[k]? with|some o=>zLq kc o.op != 0|none=>false) && ((zMx ops []).getD i 0).testBit k) = false → anc ops i k = false := by
  intro k o ho hc h
  rw [ho] at h
  have : (zLq kc o.op != 0) = true := by simpa using hc
  dsimp only at h
  rw [this,Bool.true_and] at h
  exact h
 rcases zss (fun k=>(match ops[k]? with|some o=>zLq kc o.op != 0|none=>false) && ((zMx ops []).getD i 0).testBit k) i with ⟨h1,h2⟩|⟨q,h1,h2,h3,h4⟩
 ·exact .inl ⟨h1,fun k o hk ho hc=>nf k o ho hc (h2 k hk)⟩
 ·right
  rw [Bool.and_eq_true] at h3
  obtain ⟨h3,h5⟩ := h3
  cases hq : ops[q]? with
  |none=>rw [hq] at h3;cases h3
  |some o =>
   rw [hq] at h3
   exact ⟨q,o,h1,h2,hq,by simpa using h3,h5,fun k o' hk1 hk2 ho hc=>nf k o' ho hc (h4 k hk1 hk2)⟩
theorem zGm (ops : List Oper) (i : Nat) : loI kc ops (zMx ops []) i ≤ i := by
 rcases zlC (kc := kc) ops i with ⟨h,_⟩|⟨q,o,h1,h2,_⟩ <;> omega
def zju (kc : KC) (ops : List Oper) (A : List Nat) (i : Nat) : Bool := !((List.range ops.length).all fun k=>match ops[k]? with|some o=>decide (zLq kc o.op ≤ 1) || k == i || (if i < k then (A.getD k 0).testBit i else (A.getD i 0).testBit k)|none=>true)
theorem ztF {ops : List Oper} {i : Nat} (h : zju kc ops (zMx ops []) i = false) {k : Nat} {o : Oper} (ho : ops[k]? = some o) (hc : 1 < zLq kc o.op) (hk : k ≠ i) : (if i < k then anc ops k i else anc ops i k) = true := by
 unfold zju at h
 rw [Bool.not_eq_false'] at h
 have := List.all_eq_true.1 h k (List.mem_range.2 (List.getElem?_eq_some_iff.1 ho).1)
 rw [ho] at this
 dsimp only at this
 rw [decide_eq_false (show ¬ zLq kc o.op ≤ 1 by omega),Bool.false_or,show (k == i) = false by simpa using hk,Bool.false_or] at this
 exact this
theorem zmS {ops : List Oper} {A : List Nat} {i : Nat} (h : ∀ (k : Nat) (o : Oper),ops[k]? = some o → zLq kc o.op = 0) : zju kc ops A i = false := by
 unfold zju
 rw [Bool.not_eq_false',List.all_eq_true]
 intro k hk
 cases ho : ops[k]? with
 |none=>rfl
 |some o=>simp [h k o ho]
def zNz (kc : KC) (ops : List Oper) (A : List Nat) (hl : List (List AObj)) (i : Nat) : List AObj := match zju kc ops A i with|true=>[]|false=>hl.getD (loI kc ops A i) []
def zMz (ops : List Oper) (T : Tm) (o : Oper) : Prop := o.guard = none ∨ ∃ (j : Nat) (want : Bool) (t : Nat),o.guard = some (j,want) ∧ zm7 ops j = some t ∧ get T t = V (.bool want)
def zIW (ops : List Oper) (T : Tm) (o : Oper) : Prop := ∃ (j : Nat) (want : Bool) (t : Nat),o.guard = some (j,want) ∧ zm7 ops j = some t ∧ (get T t = V (.bool (!want)) ∨ ∃ q,get T t = .iface q (.agg []))
def zmP (f : Bool) (o : Oper) : Option (TypeId × Operand) := match f,o.op with
 |true, .load t x=>some (t,x)
 |_,_=>none
theorem ztl {f : Bool} {o : Oper} {t : TypeId} {x : Operand} (h : zmP f o = some (t,x)) : o.op = .load t x := by
 unfold zmP at h
 split at h
 ·rename_i t' x' h1
  injection h with h
  injection h with h3 h4
  subst h3 h4
  exact h1
 ·cases h
abbrev Opn := Nat × AV × AV
def zoO (H : List AObj) (x : Opn) : Prop := zjK x.1 H x.2.1 (· = x.2.2)
abbrev OpI := Nat × Opn
def zhO (A : List Nat) (p : Nat) : List OpI → List OpI
 |[]=>[]
 |x :: l=>match (A.getD p 0).testBit x.1 with|true=>zhO A p l|false=>x :: zhO A p l
theorem zrd {A : List Nat} {p : Nat} {x : OpI} : ∀ {l : List OpI},x ∈ l → (A.getD p 0).testBit x.1 = true ∨ x ∈ zhO A p l
 |y :: l,h=>by
  unfold zhO
  rcases List.mem_cons.1 h with rfl|h
  ·cases hb : (A.getD p 0).testBit x.1 with
   |true=>exact .inl rfl
   |false=>exact .inr (List.mem_cons_self ..)
  ·rcases zrd (A := A) (p := p) h with q|q
   ·exact .inl q
   ·cases hb : (A.getD p 0).testBit y.1 with
    |true=>exact .inr q
    |false=>exact .inr (List.mem_cons_of_mem _ q)
def zx6 (kc : KC) (ops : List Oper) (lo hi j : Nat) : Prop := ∀ k o,ops[k]? = some o → zLq kc o.op ≠ 0 → lo ≤ k → k < hi → anc ops k j = false
def zL1 (P : Program) (G : Gl) (kc : KC) (ops : List Oper) (St : List AObj → Prop) (Hl Hj : List AObj) (T : Tm) (o : Oper) (v : AV) (Hk : List AObj) : Prop :=
 if zLq kc o.op = 0 then Hk = Hj ∧ (zq7 P G ops Hl T o v ∨ ∃ t x,o.op = .load t x ∧ zMz ops T o ∧ ∀ H,St H → zoO H (z1T P t,ev G T x,v))
 else (zMz ops T o ∧ z0A P G o ⟨Hj,T⟩ (fun d H'=>d = v ∧ H' = Hk) ∧ (zLq kc o.op = 1 → ∃ X,Hk = Hj ++ X)) ∨ (zIW ops T o ∧ v = UD ∧ Hk = Hj)
theorem zE3 {ops : List Oper} {St St' : List AObj → Prop} {Hl Hj : List AObj} {T : Tm} {o : Oper} {v : AV} {Hk : List AObj} (q : ∀ H,St' H → St H) (h : zL1 P G kc ops St Hl Hj T o v Hk) : zL1 P G kc ops St' Hl Hj T o v Hk := by
 unfold zL1 at h ⊢
 split at h
 ·rename_i hc
  rw [if_pos hc]
  refine ⟨h.1,h.2.imp id ?_⟩
  rintro ⟨t,x,h1,h2,h3⟩
  exact ⟨t,x,h1,h2,fun H hs=>h3 H (q H hs)⟩
 ·rename_i hc
  rw [if_neg hc]
  exact h
def zil (P : Program) (G : Gl) (kc : KC) (ops : List Oper) : List (List AObj) → List (Nat × List AObj) → List OpI → List Oper → ASt → (ASt → Prop) → Prop
 |acc,old,opn,[],s,K=>K s
 |acc,old,opn,o :: r,s,K =>
  if zLq kc o.op = 0 then (match o.guard with
   |none=>(match zmP (zju kc ops (zMx ops []) acc.length) o with
    |some (t,x)=>zjK (z1T P t) s.H (ev G s.T x) fun d=>(∀ p ∈ old,loI kc ops (zMx ops []) acc.length ≤ p.1 → zoO p.2 (z1T P t,ev G s.T x,d)) ∧ zil P G kc ops (acc ++ [s.H]) old ((acc.length,z1T P t,ev G s.T x,d) :: opn) r (s.set s.H o.dst d) K
    |none=>z3I P G o ⟨zNz kc ops (zMx ops []) (acc ++ [s.H]) acc.length,s.T⟩ fun d=>zil P G kc ops (acc ++ [s.H]) old opn r (s.set s.H o.dst d) K)
   |some (j,want)=>match zm7 ops j with
    |some t=>zkX (get s.T t) want (match zmP (zju kc ops (zMx ops []) acc.length) o with
    |some (t,x)=>zjK (z1T P t) s.H (ev G s.T x) fun d=>(∀ p ∈ old,loI kc ops (zMx ops []) acc.length ≤ p.1 → zoO p.2 (z1T P t,ev G s.T x,d)) ∧ zil P G kc ops (acc ++ [s.H]) old ((acc.length,z1T P t,ev G s.T x,d) :: opn) r (s.set s.H o.dst d) K
    |none=>z3I P G o ⟨zNz kc ops (zMx ops []) (acc ++ [s.H]) acc.length,s.T⟩ fun d=>zil P G kc ops (acc ++ [s.H]) old opn r (s.set s.H o.dst d) K) (zil P G kc ops (acc ++ [s.H]) old opn r (s.set s.H o.dst UD) K)
    |none=>False)
  else (match o.guard with
   |none=>∃ v H',z0A P G o s (fun d Hk=>d = v ∧ Hk = H') ∧ (zLq kc o.op = 1 → ∃ X,H' = s.H ++ X) ∧ (∀ x ∈ (zhO (zMx ops []) acc.length opn),zoO H' x.2) ∧ zil P G kc ops (acc ++ [s.H]) ((acc.length,s.H) :: old) (zhO (zMx ops []) acc.length opn) r (s.set H' o.dst v) K
   |some (j,want)=>match zm7 ops j with
    |some t=>zkX (get s.T t) want (∃ v H',z0A P G o s (fun d Hk=>d = v ∧ Hk = H') ∧ (zLq kc o.op = 1 → ∃ X,H' = s.H ++ X) ∧ (∀ x ∈ (zhO (zMx ops []) acc.length opn),zoO H' x.2) ∧ zil P G kc ops (acc ++ [s.H]) ((acc.length,s.H) :: old) (zhO (zMx ops []) acc.length opn) r (s.set H' o.dst v) K) (zil P G kc ops (acc ++ [s.H]) old opn r (s.set s.H o.dst UD) K)
    |none=>False)
theorem z7n {ops : List Oper} {K K' : ASt → Prop} (q : ∀ s,K s → K' s) : ∀ {l : List Oper} {acc : List (List AObj)} {old : List (Nat × List AObj)} {opn : List OpI} {s : ASt},zil P G kc ops acc old opn l s K → zil P G kc ops acc old opn l s K'
 |[],acc,old,opn,s,h=>q s h
 |o :: l,acc,old,opn,s,h=>by
  unfold zil at h ⊢
  split at h
  ·rename_i hc
   rw [if_pos hc]
   have go : (match zmP (zju kc ops (zMx ops []) acc.length) o with
    |some (t,x)=>zjK (z1T P t) s.H (ev G s.T x) fun d=>(∀ p ∈ old,loI kc ops (zMx ops []) acc.length ≤ p.1 → zoO p.2 (z1T P t,ev G s.T x,d)) ∧ zil P G kc ops (acc ++ [s.H]) old ((acc.length,z1T P t,ev G s.T x,d) :: opn) l (s.set s.H o.dst d) K
    |none=>z3I P G o ⟨zNz kc ops (zMx ops []) (acc ++ [s.H]) acc.length,s.T⟩ fun d=>zil P G kc ops (acc ++ [s.H]) old opn l (s.set s.H o.dst d) K) → (match zmP (zju kc ops (zMx ops []) acc.length) o with
    |some (t,x)=>zjK (z1T P t) s.H (ev G s.T x) fun d=>(∀ p ∈ old,loI kc ops (zMx ops []) acc.length ≤ p.1 → zoO p.2 (z1T P t,ev G s.T x,d)) ∧ zil P G kc ops (acc ++ [s.H]) old ((acc.length,z1T P t,ev G s.T x,d) :: opn) l (s.set s.H o.dst d) K'
    |none=>z3I P G o ⟨zNz kc ops (zMx ops []) (acc ++ [s.H]) acc.length,s.T⟩ fun d=>zil P G kc ops (acc ++ [s.H]) old opn l (s.set s.H o.dst d) K') := by
    intro h
    cases hop : zmP (zju kc ops (zMx ops []) acc.length) o with
    |some p =>
     rw [hop] at h
     exact zcx (fun d k=>⟨k.1,z7n q k.2⟩) h
    |none =>
     rw [hop] at h
     exact zoS (fun d k=>z7n q k) h
   split at h
   ·exact go h
   ·split at h
    ·unfold zkX at h ⊢
     split at h
     ·exact ⟨fun e=>go (h.1 e),fun e=>z7n q (h.2 e)⟩
     ·exact z7n q h
     ·exact h.elim
    ·exact h.elim
  ·rename_i hc
   rw [if_neg hc]
   split at h
   ·obtain ⟨v,H',h1,h2,h3,h4⟩ := h
    exact ⟨v,H',h1,h2,h3,z7n q h4⟩
   ·split at h
    ·unfold zkX at h ⊢
     split at h
     ·exact ⟨fun e=>by
      obtain ⟨v,H',h1,h2,h3,h4⟩ := h.1 e
      exact ⟨v,H',h1,h2,h3,z7n q h4⟩,fun e=>z7n q (h.2 e)⟩
     ·exact z7n q h
     ·exact h.elim
    ·exact h.elim
def zMN (acc : List (List AObj)) (hs : Nat → List AObj) (q : Nat) : List AObj := if q < acc.length then acc.getD q [] else hs (q - acc.length)
theorem zCJ {acc : List (List AObj)} {hs : Nat → List AObj} {H : List AObj} (h : hs 0 = H) {q : Nat} (hq : q ≤ acc.length) : (acc ++ [H]).getD q [] = zMN acc hs q := by
 unfold zMN
 split
 ·rename_i hl
  rw [List.getD_eq_getElem?_getD,List.getElem?_append_left hl,List.getD_eq_getElem?_getD]
 ·have : q = acc.length := by omega
  subst this
  simp [h]
theorem zwh {acc : List (List AObj)} {hs hs' : Nat → List AObj} {H : List AObj} (h : hs 0 = H) (h' : ∀ i,hs (i + 1) = hs' i) (q : Nat) : zMN (acc ++ [H]) hs' q = zMN acc hs q := by
 unfold zMN
 rw [List.length_append,List.length_singleton]
 by_cases h1 : q < acc.length
 ·rw [if_pos (by omega),if_pos h1,List.getD_eq_getElem?_getD,List.getElem?_append_left h1,List.getD_eq_getElem?_getD]
 ·rw [if_neg h1]
  by_cases h2 : q = acc.length
  ·subst h2
   rw [if_pos (by omega)]
   simp [h]
  ·rw [if_neg (by omega),← h']
   congr 1;omega
def zLc (kc : KC) (ops : List Oper) (acc : List (List AObj)) (hs : Nat → List AObj) (i : Nat) : List AObj := match zju kc ops (zMx ops []) i with|true=>[]|false=>zMN acc hs (loI kc ops (zMx ops []) i)
theorem zBZ {ops : List Oper} {acc : List (List AObj)} {hs : Nat → List AObj} {H : List AObj} (h : hs 0 = H) : zNz kc ops (zMx ops []) (acc ++ [H]) acc.length = zLc kc ops acc hs acc.length := by
 unfold zNz zLc
 cases zju kc ops (zMx ops []) acc.length with
 |true=>rfl
 |false=>exact zCJ h (zGm ops _)
theorem zuW {ops : List Oper} {acc : List (List AObj)} {hs hs' : Nat → List AObj} {H : List AObj} (h : hs 0 = H) (h' : ∀ i,hs (i + 1) = hs' i) (q : Nat) : zLc kc ops (acc ++ [H]) hs' q = zLc kc ops acc hs q := by
 unfold zLc
 rw [zwh h h']
theorem zrB {ops : List Oper} {K : ASt → Prop} : ∀ {l : List Oper} {acc : List (List AObj)} {old : List (Nat × List AObj)} {opn : List OpI} {H : List AObj} {T : Tm},zil P G kc ops acc old opn l ⟨H,T⟩ K → (∀ i,l[i]? = ops[acc.length + i]?) → (∀ x ∈ opn,zoO H x.2) → ∃ (vs : List AV) (hs : Nat → List AObj),vs.length = l.length ∧ hs 0 = H ∧ K ⟨hs l.length,zNg T l vs⟩ ∧
  (∀ q,q ≤ l.length → ∀ x ∈ opn,zx6 kc ops acc.length (acc.length + q) x.1 → zoO (hs q) x.2) ∧
  ∀ i o v,l[i]? = some o → vs[i]? = some v → zL1 P G kc ops (fun H'=>(∃ k,(k,H') ∈ old ∧ loI kc ops (zMx ops []) (acc.length + i) ≤ k) ∨ ∃ q,q ≤ l.length ∧ H' = hs q ∧ zx6 kc ops acc.length (acc.length + q) (acc.length + i) ∧ loI kc ops (zMx ops []) (acc.length + i) ≤ acc.length + q) (zLc kc ops acc hs (acc.length + i)) (hs i) (zNg T (l.take i) (vs.take i)) o v (hs (i + 1))
 |[],acc,old,opn,H,T,h,_,hc=>⟨[],fun _=>H,rfl,rfl,h,fun q _ x hx _=>hc x hx,fun i o v ho=>by simp at ho⟩
 |o :: l,acc,old,opn,H,T,h,hll,hc=>by
  have ho0 : ops[acc.length]? = some o := by have := hll 0;simpa using this.symm
  have hll1 : ∀ i,l[i]? = ops[(acc ++ [H]).length + i]? := fun i=>by
   have := hll (i + 1)
   rw [List.getElem?_cons_succ] at this
   rw [this,List.length_append,List.length_singleton]
   congr 1;omega
  have key : ∀ (v : AV) (H1 : List AObj) (old1 : List (Nat × List AObj)) (opn1 : List OpI),zil P G kc ops (acc ++ [H]) old1 opn1 l (ASt.set ⟨H,T⟩ H1 o.dst v) K → (∀ x ∈ opn1,zoO H1 x.2) → (∀ x ∈ opn,x ∈ opn1 ∨ (zLq kc o.op ≠ 0 ∧ anc ops acc.length x.1 = true)) → (∀ p ∈ old,p ∈ old1) → ((acc.length,H) ∈ old1 ∨ H1 = H) →
    (∀ St : List AObj → Prop,(∀ H',St H' → (∃ k,(k,H') ∈ old ∧ loI kc ops (zMx ops []) acc.length ≤ k) ∨ H' = H ∨ ∀ x ∈ opn1,x.1 = acc.length → zoO H' x.2) → zL1 P G kc ops St (zNz kc ops (zMx ops []) (acc ++ [H]) acc.length) H T o v H1) → ∃ (vs : List AV) (hs : Nat → List AObj),vs.length = (o :: l).length ∧ hs 0 = H ∧ K ⟨hs (o :: l).length,zNg T (o :: l) vs⟩ ∧
    (∀ q,q ≤ (o :: l).length → ∀ x ∈ opn,zx6 kc ops acc.length (acc.length + q) x.1 → zoO (hs q) x.2) ∧
    ∀ i o' v,(o :: l)[i]? = some o' → vs[i]? = some v → zL1 P G kc ops (fun H'=>(∃ k,(k,H') ∈ old ∧ loI kc ops (zMx ops []) (acc.length + i) ≤ k) ∨ ∃ q,q ≤ (o :: l).length ∧ H' = hs q ∧ zx6 kc ops acc.length (acc.length + q) (acc.length + i) ∧ loI kc ops (zMx ops []) (acc.length + i) ≤ acc.length + q) (zLc kc ops acc hs (acc.length + i)) (hs i) (zNg T ((o :: l).take i) (vs.take i)) o' v (hs (i + 1)) := by
   intro v H1 old1 opn1 hd hc1 hsub hold hH hf
   obtain ⟨vs,hs,h1,h2,h3,h5,h4⟩ := zrB (ops := ops) (l := l) (acc := acc ++ [H]) (old := old1) (opn := opn1) (H := H1) (T := (ASt.set ⟨[],T⟩ [] o.dst v).T) hd hll1 hc1
   have hal : (acc ++ [H]).length = acc.length + 1 := by simp
   have shift : ∀ {q j : Nat},zx6 kc ops acc.length (acc.length + (q + 1)) j → zx6 kc ops (acc ++ [H]).length ((acc ++ [H]).length + q) j := fun {q j} hn k o' hk hk1 hk2 hk3=>hn k o' hk hk1 (by omega) (by omega)
   let hs2 : Nat → List AObj := fun i=>match i with|0=>H|i + 1=>hs i
   refine ⟨v :: vs,hs2,by simp [h1],rfl,h3,fun q hq x hx hn=>?_,fun i o' v' ho' hv'=>?_⟩
   ·cases q with
    |zero=>exact hc x hx
    |succ q =>
     rcases hsub x hx with q1|⟨q1,q2⟩
     ·exact h5 q (by simpa using hq) x q1 (shift hn)
     ·have := hn acc.length o ho0 q1 (Nat.le_refl _) (by omega)
      rw [q2] at this;cases this
   rcases i with _|i
   ·simp at ho' hv';subst ho' hv'
    show zL1 P G kc ops _ (zLc kc ops acc hs2 (acc.length + 0)) H T o v (hs 0)
    rw [h2,Nat.add_zero,← zBZ (H := H) (rfl : hs2 0 = H)]
    refine hf _ fun H' hs'=>?_
    rcases hs' with q|⟨q,hq,rfl,hn,_⟩
    ·exact .inl (by simpa using q)
    ·cases q with
     |zero=>exact .inr (.inl rfl)
     |succ q=>exact .inr (.inr fun x hx hx1=>h5 q (by simpa using hq) x hx (by rw [hx1];exact shift hn))
   ·simp only [List.getElem?_cons_succ] at ho' hv'
    have := h4 i o' v' ho' hv'
    rw [zuW (hs := hs2) rfl (fun _=>rfl),List.length_append,List.length_singleton,Nat.add_assoc,Nat.add_comm 1 i] at this
    refine zE3 (fun H' hs'=>?_) this
    rcases hs' with ⟨k,q,qk⟩|⟨q,hq,rfl,hn,hlo⟩
    ·exact .inl ⟨k,hold _ q,qk⟩
    ·cases q with
     |zero =>
      rcases hH with q2|q2
      ·exact .inl ⟨acc.length,q2,by simpa using hlo⟩
      ·exact .inr ⟨0,Nat.zero_le _,by rw [h2,q2],fun k o' hk hk1 hk2 hk3=>by omega,by simp at hlo ⊢;omega⟩
     |succ q=>exact .inr ⟨q,by simpa using hq,rfl,fun k o' hk hk1 hk2 hk3=>hn k o' hk hk1 (by omega) (by omega),by omega⟩
  unfold zil at h
  unfold zL1 at key
  split at h
  ·rename_i hw
   have fin : ∀ v,zq7 P G ops (zNz kc ops (zMx ops []) (acc ++ [H]) acc.length) T o v → zil P G kc ops (acc ++ [H]) old opn l (ASt.set ⟨H,T⟩ H o.dst v) K → _ := fun v hv hd=>key v H old opn hd hc (fun _ q=>.inl q) (fun _ q=>q) (.inr rfl) fun St _=>by rw [if_pos hw];exact ⟨rfl, .inl hv⟩
   have opn' : ∀ (t : TypeId) (x : Operand) (d : AV),zmP (zju kc ops (zMx ops []) acc.length) o = some (t,x) → zMz ops T o → zjK (z1T P t) H (ev G T x) (fun x=>x = d) → (∀ p ∈ old,loI kc ops (zMx ops []) acc.length ≤ p.1 → zoO p.2 (z1T P t,ev G T x,d)) → zil P G kc ops (acc ++ [H]) old ((acc.length,z1T P t,ev G T x,d) :: opn) l (ASt.set ⟨H,T⟩ H o.dst d) K → _ := fun t x d hop hgd h3 h4 h5 =>
    key d H old ((acc.length,z1T P t,ev G T x,d) :: opn) h5 (fun y hy=>(List.mem_cons.1 hy).elim (fun e=>by rw [e];exact h3) (fun hy=>hc y hy)) (fun y hy=>.inl (List.mem_cons_of_mem _ hy)) (fun _ q=>q) (.inr rfl) fun St hSt=>by
     rw [if_pos hw]
     refine ⟨rfl, .inr ⟨t,x,ztl hop,hgd,fun H' hs'=>?_⟩⟩
     rcases hSt H' hs' with ⟨k,q,qk⟩|rfl|q
     ·exact h4 _ q qk
     ·exact h3
     ·exact q _ (List.mem_cons_self ..) rfl
   dsimp only at h
   split at h
   ·rename_i hg
    cases hop : zmP (zju kc ops (zMx ops []) acc.length) o with
    |some p =>
     rw [hop] at h
     obtain ⟨d,h3,h4,h5⟩ := zdy h
     exact opn' p.1 p.2 d hop (.inl hg) h3 h4 h5
    |none =>
     rw [hop] at h
     obtain ⟨v,h1,h2⟩ := zrs h
     exact fin v (by unfold zq7;rw [hg];exact h1) h2
   ·rename_i j want hg
    split at h
    ·rename_i t ht
     unfold zkX at h
     split at h
     ·rename_i bb hbb
      by_cases e : bb = want
      ·have h' := h.1 e
       cases hop : zmP (zju kc ops (zMx ops []) acc.length) o with
       |some p =>
        rw [hop] at h'
        obtain ⟨d,h3,h4,h5⟩ := zdy h'
        exact opn' p.1 p.2 d hop (.inr ⟨j,want,t,hg,ht,by rw [← e];exact hbb⟩) h3 h4 h5
       |none =>
        rw [hop] at h'
        obtain ⟨v,h1,h2⟩ := zrs h'
        exact fin v (by unfold zq7;rw [hg];exact ⟨t,ht, .inl ⟨bb,hbb,fun _=>h1,fun q=>absurd e q⟩⟩) h2
      ·exact fin UD (by unfold zq7;rw [hg];exact ⟨t,ht, .inl ⟨bb,hbb,fun q=>absurd q e,fun _=>rfl⟩⟩) (h.2 (by cases bb <;> cases want <;> first|rfl|exact absurd rfl e))
     ·rename_i q hbb
      exact fin UD (by unfold zq7;rw [hg];exact ⟨t,ht, .inr ⟨⟨q,hbb⟩,rfl⟩⟩) h
     ·exact h.elim
    ·exact h.elim
  ·rename_i hw
   have act : zMz ops T o → (∃ v H',z0A P G o ⟨H,T⟩ (fun d Hk=>d = v ∧ Hk = H') ∧ (zLq kc o.op = 1 → ∃ X,H' = H ++ X) ∧ (∀ x ∈ (zhO (zMx ops []) acc.length opn),zoO H' x.2) ∧ zil P G kc ops (acc ++ [H]) ((acc.length,H) :: old) (zhO (zMx ops []) acc.length opn) l (ASt.set ⟨H,T⟩ H' o.dst v) K) → _ := fun hgd ⟨v,H1,h1,h2,h3,h4⟩=>key v H1 ((acc.length,H) :: old) (zhO (zMx ops []) acc.length opn) h4 h3 (fun x q=>(zrd q).elim (fun e=>.inr ⟨hw,e⟩) .inl) (fun _ q=>List.mem_cons_of_mem _ q) (.inl (List.mem_cons_self ..)) fun St _=>by rw [if_neg hw];exact .inl ⟨hgd,h1,h2⟩
   have off : zIW ops T o → zil P G kc ops (acc ++ [H]) old opn l (ASt.set ⟨H,T⟩ H o.dst UD) K → _ := fun hgd hd=>key UD H old opn hd hc (fun _ q=>.inl q) (fun _ q=>q) (.inr rfl) fun St _=>by rw [if_neg hw];exact .inr ⟨hgd,rfl,rfl⟩
   split at h
   ·rename_i hg
    exact act (.inl hg) h
   ·rename_i j want hg
    split at h
    ·rename_i t ht
     unfold zkX at h
     split at h
     ·rename_i bb hbb
      by_cases e : bb = want
      ·exact act (.inr ⟨j,want,t,hg,ht,by rw [← e];exact hbb⟩) (h.1 e)
      ·have e2 : bb = !want := by cases bb <;> cases want <;> first|rfl|exact absurd rfl e
       exact off ⟨j,want,t,hg,ht, .inl (by rw [← e2];exact hbb)⟩ (h.2 e2)
     ·rename_i q hbb
      exact off ⟨j,want,t,hg,ht, .inr ⟨q,hbb⟩⟩ h
     ·exact h.elim
    ·exact h.elim
theorem Rel.void {w : World} {S : SS} {μ : List Value} (hr : Rel w S μ H) (t : TypeId) : Rel w S (μ ++ [.bool false]) (H ++ [⟨0,t,0,[]⟩]) ∧ Step H.length w S μ H w S (μ ++ [.bool false]) (H ++ [⟨0,t,0,[]⟩]) :=
 ⟨hr.add (.inl rfl) (objRep.zero rfl) fun b hb=>by simp [z60] at hb,(Step.refl _ _ _ _ _).add hr.len fun b hb=>by simp [z60] at hb⟩
theorem zib {α : Type} {l : List α} {i k : Nat} {x y : α} (h : (l.set i x)[k]? = some y) : (k = i ∧ y = x) ∨ (k ≠ i ∧ l[k]? = some y) := by
 by_cases e : k = i
 ·subst e
  have hl : k < l.length := by
   have := (List.getElem?_eq_some_iff.1 h).1
   simpa using this
  rw [List.getElem?_set_self hl] at h
  injection h with h
  exact .inl ⟨rfl,h.symm⟩
 ·rw [List.getElem?_set_ne (Ne.symm e)] at h
  exact .inr ⟨e,h⟩
theorem zyG {S : SS} {μ : List Value} {i : Nat} (hμ : μ[i]? = some (.bool false)) (x : Value) : Ext S μ S (μ.set i x) :=
 ⟨fun _ _ _ h=>h,fun k y hy=>by
  by_cases e : k = i
  ·subst e
   rw [hμ] at hy;injection hy with hy;subst hy
   exact ⟨x,List.getElem?_set_self (List.getElem?_eq_some_iff.1 hμ).1, .inr (.inr rfl)⟩
  ·exact ⟨y,by rw [List.getElem?_set_ne (Ne.symm e)];exact hy, .inl rfl⟩⟩
theorem Rel.fill {w : World} {S : SS} {μ : List Value} {i : Nat} {o0 o : AObj} {x : Value} (hr : Rel w S μ H) (hμ : μ[i]? = some (.bool false)) (hH : H[i]? = some o0) (h0 : o0.k = 0) (hk : o.k = 0 ∨ o.k = 1 ∨ o.k = 2 ∨ o.k = 4 ∨ o.k = 5) (ho : objRep w S (μ.set i x) x o) (hb : ∀ b,z60 x = some b → ¬ zLD μ H b ∧ ∀ j d,S b j d → o.k = 2 ∧ j < o.c.length * o.z) : Rel w S (μ.set i x) (H.set i o) := by
 have he := zyG (S := S) hμ x
 have hgo : ∀ (k : Nat) (x' : Value) (o' : AObj),(μ.set i x)[k]? = some x' → (H.set i o)[k]? = some o' → (μ[k]? = some x' ∧ H[k]? = some o' ∧ k ≠ i) ∨ (k = i ∧ x' = x ∧ o' = o) := by
  intro k x' o' hx' ho'
  rcases zib hx' with ⟨q,rfl⟩|⟨q,hx'⟩
  ·rcases zib ho' with ⟨_,rfl⟩|⟨q',_⟩
   ·exact .inr ⟨q,rfl,rfl⟩
   ·exact absurd q q'
  ·rcases zib ho' with ⟨q',_⟩|⟨_,ho'⟩
   ·exact absurd q' q
   ·exact .inl ⟨hx',ho',q⟩
 refine ⟨by simp [hr.len],hr.still,fun k x' o' hx' ho'=>?_,fun k x' o' hx' ho'=>?_,fun k k' x1 x2 o1 o2 b hx1 ho1 hk1 hb1 hx2 ho2 hk2 hb2=>?_,fun k x' o' b hx' ho' hk' hb' j d hs=>?_⟩
 ·rcases hgo k x' o' hx' ho' with ⟨q1,q2,_⟩|⟨_,rfl,rfl⟩
  ·exact hr.kinds k x' o' q1 q2
  ·exact hk
 ·rcases hgo k x' o' hx' ho' with ⟨q1,q2,_⟩|⟨_,rfl,rfl⟩
  ·exact (hr.objs k x' o' q1 q2).move he fun b _=>rfl
  ·exact ho
 ·rcases hgo k x1 o1 hx1 ho1 with ⟨q1,q2,_⟩|⟨e1,rfl,rfl⟩
  ·rcases hgo k' x2 o2 hx2 ho2 with ⟨q3,q4,_⟩|⟨e2,rfl,rfl⟩
   ·exact hr.sep k k' x1 x2 o1 o2 b q1 q2 hk1 hb1 q3 q4 hk2 hb2
   ·exact absurd ⟨k,x1,o1,q1,q2,hk1,hb1⟩ (hb b hb2).1
  ·rcases hgo k' x2 o2 hx2 ho2 with ⟨q3,q4,_⟩|⟨e2,rfl,rfl⟩
   ·exact absurd ⟨k',x2,o2,q3,q4,hk2,hb2⟩ (hb b hb1).1
   ·omega
 ·rcases hgo k x' o' hx' ho' with ⟨q1,q2,_⟩|⟨_,rfl,rfl⟩
  ·exact hr.apart k x' o' b q1 q2 hk' hb' j d hs
  ·exact (hb b hb').2 j d hs
theorem Step.fill {w0 w : World} {S0 S : SS} {μ0 μ : List Value} {H0 : List AObj} {i : Nat} {o : AObj} {x : Value} (hs : Step n w0 S0 μ0 H0 w S μ H) (hμ : μ[i]? = some (.bool false)) (hb : ∀ b,z60 x = some b → w0.heap.size ≤ b) : Step n w0 S0 μ0 H0 w S (μ.set i x) (H.set i o) :=
 ⟨hs.os,hs.tape,hs.output,hs.size,hs.block,hs.still,fun k y hk hy=>by
  obtain ⟨x',hx',h1⟩ := hs.objs k y hk hy
  by_cases e : k = i
  ·subst e
   rw [hμ] at hx';injection hx' with hx';subst hx'
   refine ⟨x,List.getElem?_set_self (List.getElem?_eq_some_iff.1 hμ).1, .inr (.inr ?_)⟩
   rcases h1 with e|⟨A,m,c,A',m',c',_,e,_⟩|e
   ·exact e.symm
   ·cases e
   ·exact e
  ·exact ⟨x',by rw [List.getElem?_set_ne (Ne.symm e)];exact hx',h1⟩,hs.old,fun b hob hlt=>by
  obtain ⟨k,x',o',hx',ho',hk',hb'⟩ := hob
  rcases zib hx' with ⟨_,rfl⟩|⟨q,hx'⟩
  ·have := hb b hb';omega
  ·rcases zib ho' with ⟨q',_⟩|⟨_,ho'⟩
   ·exact absurd q' q
   ·exact hs.mine b ⟨k,x',o',hx',ho',hk',hb'⟩ hlt⟩
theorem zpY {a : Act} {o : Oper} {w : World} {t : TypeId} {c : List AV} (ho : o.op = .alloc t) (hz : zpm P t = some c) : ∃ cs : List Value,(execOp a.eval o).run P w = .ok (.value (.pointer (some ⟨w.heap.size,0,none⟩))) (w.alloc (.cells cs.toArray t)) ∧ ∀ S μ,reps S μ c cs := by
 obtain ⟨i,z,hi,hzz,_,hr⟩ := zpQ hz
 refine ⟨z.cells.toList,?_,hr⟩
 unfold execOp
 rw [ho]
 simp [Instr.alloc,zeroValue,typeInfo,hi,hzz,newVar,newRow,newObj,Sem.run]
theorem zuv {a : Act} {o : Oper} {w : World} {S : SS} {μ : List Value} {t : TypeId} {c : List AV} {Q : Exit → Act → World → Prop} (hrel : Rel w S μ H) (ho : o.op = .alloc t) (hz : zpm P t = some c) :
  o.wp P a w (fun a' w'=>∃ u μ',a' = a.put o.dst u ∧ rep S μ' (OP H.length 0) u ∧ Rel w' S μ' (H ++ [⟨1,t,0,c⟩]) ∧ Step H.length w S μ H w' S μ' (H ++ [⟨1,t,0,c⟩]) ∧ ∃ z,μ' = μ ++ [z]) Q := by
 obtain ⟨cs,hrun,hc⟩ := zpY (P := P) (a := a) (w := w) ho hz
 obtain ⟨h1,h2⟩ := hrel.new t (hc S μ)
 unfold Oper.wp
 rw [hrun]
 exact ⟨_,_,rfl,⟨w.heap.size, .pointer (some ⟨w.heap.size,0,none⟩),by rw [← hrel.len];simp,rfl,rfl⟩,h1,h2,_,rfl⟩
theorem zum {a : Act} {o : Oper} {w : World} {S : SS} {μ : List Value} {t : TypeId} {c : List AV} {i : Nat} {o0 : AObj} {K : AV → List AObj → Prop} {Q : Exit → Act → World → Prop} (hrel : Rel w S μ H) (ho : o.op = .alloc t) (hz : zpm P t = some c) (hμ : μ[i]? = some (.bool false)) (hH : H[i]? = some o0) (h0 : o0.k = 0)
  (hK : K (OP i 0) (H.set i ⟨1,t,0,c⟩)) : o.wp P a w (z4i w S μ H a o K) Q := by
 obtain ⟨cs,hrun,hc⟩ := zpY (P := P) (a := a) (w := w) ho hz
 have hil : i < μ.length := (List.getElem?_eq_some_iff.1 hμ).1
 obtain ⟨h1,h2⟩ := hrel.grow (w' := w.alloc (.cells cs.toArray t)) ((Below.refl _ _).alloc (Nat.le_refl _) _) (fun _ _ _ h=>h) (fun _ _ _ h=>.inl h) (fun b j d h hb=>by have := hrel.still_lt h;omega)
 have h3 : Rel (w.alloc (.cells cs.toArray t)) S (μ.set i (.pointer (some ⟨w.heap.size,0,none⟩))) (H.set i ⟨1,t,0,c⟩) := by
  refine h1.fill hμ hH h0 (.inr (.inl rfl)) ⟨fun _=>⟨w.heap.size,cs.toArray,rfl,heap_alloc_new w _,by simpa using hc S _⟩,⟨fun h=>(by simp at h),fun h=>(by simp at h),fun h=>(by simp at h)⟩⟩ fun b hb=>?_
  simp [z60] at hb;subst hb
  refine ⟨?_,fun j d h=>by have := hrel.still_lt h;omega⟩
  rintro ⟨k,x,o,hx,ho,hk,hbk⟩
  have := hrel.own_lt hx ho hk hbk;omega
 have h4 : Step H.length w S μ H (w.alloc (.cells cs.toArray t)) S (μ.set i (.pointer (some ⟨w.heap.size,0,none⟩))) (H.set i ⟨1,t,0,c⟩) := by
  refine h2.fill hμ fun b hb=>?_
  simp [z60] at hb;omega
 unfold Oper.wp
 rw [hrun]
 exact ⟨_,_,_,S,_,hK,rfl,⟨w.heap.size, .pointer (some ⟨w.heap.size,0,none⟩),List.getElem?_set_self hil,rfl,rfl⟩,h3,h4,fun q=>by rw [ho] at q;cases q⟩
def zNa (ops : List Oper) (f : Nat → Oper → Bool) : Bool := (List.range ops.length).all fun k=>match ops[k]? with|some o=>f k o|none=>true
theorem zaV {ops : List Oper} {f : Nat → Oper → Bool} (h : zNa ops f = true) {k : Nat} {o : Oper} (ho : ops[k]? = some o) : f k o = true := by
 have := List.all_eq_true.1 h k (List.mem_range.2 (List.getElem?_eq_some_iff.1 ho).1)
 rwa [ho] at this
def zLn (ops : List Oper) (p : Nat) : Bool := match ops[p]? with|some o=>(match o.op,o.guard with|.alloc _,none=>true|_,_=>false)|none=>false
def zME (ops : List Oper) (p : Nat) : Bool := zLn ops p && zLn ops (p + 1) && zNa ops fun j _=>!anc ops j (p + 1) || anc ops j p
theorem zoJ {ops : List Oper} {p : Nat} {o : Oper} (ho : ops[p]? = some o) (h : zLn ops p = true) : ∃ t,o.op = .alloc t ∧ o.guard = none := by
 unfold zLn at h
 rw [ho] at h
 dsimp only at h
 split at h
 ·rename_i t e1 e2;exact ⟨t,e1,e2⟩
 ·cases h
def tailY (kc : KC) (ops : List Oper) (N : Nat) : Bool :=
  zNa  ops fun k o =>
    (match o.dst with
      | some d => decide (d < N) && zNa  ops (fun q oq => q == k || oq.dst != some d)
      | none => zLq  kc o.op != 0) &&
    (decide (zLq  kc o.op ≤ 1) || zNa  ops fun i oi => i == k || zLq  kc oi.op == 0 || (if i < k then anc ops k i else anc ops i k)) &&
    (decide (zLq  kc o.op ≠ 1) || zNa  ops fun i oi => i == k || decide (zLq  kc oi.op ≠ 1) || (if i < k then anc ops k i || (k == i + 1 && zME  ops i) else anc ops i k || (i == k + 1 && zME  ops k)))
structure TailY (kc : KC) (ops : List Oper) (N : Nat) : Prop where
 dst : ∀ (k d : Nat) (o : Oper),ops[k]? = some o → o.dst = some d → d < N ∧ ∀ (q : Nat) (oq : Oper),ops[q]? = some oq → oq.dst = some d → q = k
 low : ∀ (k : Nat) (o : Oper),ops[k]? = some o → 1 < zLq kc o.op → ∀ (i : Nat) (oi : Oper),ops[i]? = some oi → zLq kc oi.op ≠ 0 → i < k → anc ops k i = true
 high : ∀ (k : Nat) (o : Oper),ops[k]? = some o → 1 < zLq kc o.op → ∀ (i : Nat) (oi : Oper),ops[i]? = some oi → zLq kc oi.op ≠ 0 → k < i → anc ops i k = true
 loud : ∀ (k i : Nat) (o oi : Oper),ops[k]? = some o → zLq kc o.op ≠ 0 → ops[i]? = some oi → zLq kc oi.op ≠ 0 → k < i → anc ops i k = true ∨ (i = k + 1 ∧ zME ops k = true)
theorem zsK {ops : List Oper} (h : tailY kc ops N = true) : TailY kc ops N := by
 have g : ∀ (k : Nat) (o : Oper),ops[k]? = some o → _ := fun k o ho=>zaV h ho
 simp only [Bool.and_eq_true] at g
 have gW : ∀ (k : Nat) (o : Oper),ops[k]? = some o → 1 < zLq kc o.op → ∀ (i : Nat) (oi : Oper),ops[i]? = some oi → zLq kc oi.op ≠ 0 → i ≠ k → (if i < k then anc ops k i else anc ops i k) = true := by
  intro k o ho hw i oi hoi hr hne
  have h1 := (g k o ho).1.2
  rw [decide_eq_false (show ¬ zLq kc o.op ≤ 1 by omega),Bool.false_or] at h1
  have h2 := zaV h1 hoi
  rw [Bool.or_eq_true,Bool.or_eq_true,beq_iff_eq,beq_iff_eq] at h2
  rcases h2 with (h2|h2)|h2
  ·exact absurd h2 hne
  ·exact absurd h2 hr
  ·exact h2
 have gA : ∀ (k : Nat) (o : Oper),ops[k]? = some o → zLq kc o.op = 1 → ∀ (i : Nat) (oi : Oper),ops[i]? = some oi → zLq kc oi.op = 1 → i ≠ k → (if i < k then anc ops k i || (k == i + 1 && zME ops i) else anc ops i k || (i == k + 1 && zME ops k)) = true := by
  intro k o ho hw i oi hoi hr hne
  have h1 := (g k o ho).2
  rw [decide_eq_false (show ¬ zLq kc o.op ≠ 1 by omega),Bool.false_or] at h1
  have h2 := zaV h1 hoi
  rw [decide_eq_false (show ¬ zLq kc oi.op ≠ 1 by omega),Bool.or_false,Bool.or_eq_true,beq_iff_eq] at h2
  exact h2.resolve_left hne
 refine ⟨fun k d o ho hd=>?_,fun k o ho hw i oi hoi hr hik=>?_,fun k o ho hw i oi hoi hr hik=>?_,fun k i o oi ho hk hoi hi hki=>?_⟩
 ·have h1 := (g k o ho).1.1
  rw [hd] at h1
  simp only [Bool.and_eq_true,decide_eq_true_eq] at h1
  refine ⟨h1.1,fun q oq hoq hqd=>?_⟩
  have h5 := zaV h1.2 hoq
  simpa [hqd] using h5
 ·have := gW k o ho hw i oi hoi hr (by omega)
  rwa [if_pos hik] at this
 ·have := gW k o ho hw i oi hoi hr (by omega)
  rwa [if_neg (by omega)] at this
 ·by_cases h1 : zLq kc o.op = 1
  ·by_cases h2 : zLq kc oi.op = 1
   ·have := gA k o ho h1 i oi hoi h2 (by omega)
    rw [if_neg (by omega),Bool.or_eq_true,Bool.and_eq_true,beq_iff_eq] at this
    exact this
   ·have := gW i oi hoi (by omega) k o ho hk (by omega)
    rw [if_pos hki] at this
    exact .inl this
  ·have := gW k o ho (by omega) i oi hoi hi (by omega)
   rw [if_neg (by omega)] at this
   exact .inl this
def zzy (ops : List Oper) : Bool :=
 zNa ops fun j o=>(zuM o ++ (match o.guard with|some (k,_)=>(zm7 ops k).toList|none=>[])).all fun t =>
  (zNa ops fun k ok=>ok.dst != some t || anc ops k j) || !(zNa ops fun k ok=>!(decide (k < j) && ok.dst == some t && anc ops j k))
def HY (kc : KC) (ops : List Oper) (B : List AObj) (hs : Nat → List AObj) (listed : Array Bool) (Hc : List AObj) (μ : List Value) : Prop :=
  (∃ (k : Nat) (o : Oper), ops[k]? = some o ∧ zLq  kc o.op ≠ 0 ∧ listed.getD k false = true ∧ (∀ (k' : Nat) (o' : Oper), ops[k']? = some o' → zLq  kc o'.op ≠ 0 → listed.getD k' false = true → k' ≤ k) ∧ (∀ (k' : Nat) (o' : Oper), ops[k']? = some o' → zLq  kc o'.op ≠ 0 → k' ≤ k → listed.getD k' false = true) ∧ Hc = hs (k + 1)) ∨
  ((∀ (k : Nat) (o : Oper), ops[k]? = some o → zLq  kc o.op ≠ 0 → listed.getD k false = false) ∧ Hc = B) ∨
  (∃ (q : Nat) (o o1 : Oper) (t : TypeId) (x y : AObj), ops[q]? = some o ∧ zLq  kc o.op ≠ 0 ∧ ops[q + 1]? = some o1 ∧ zLq  kc o1.op ≠ 0 ∧ zME  ops q = true ∧ listed.getD q false = false ∧ listed.getD (q + 1) false = true ∧ (∀ (k' : Nat) (o' : Oper), ops[k']? = some o' → zLq  kc o'.op ≠ 0 → listed.getD k' false = true → k' ≤ q + 1) ∧
    (∀ (k' : Nat) (o' : Oper), ops[k']? = some o' → zLq  kc o'.op ≠ 0 → k' < q → listed.getD k' false = true) ∧ Hc = hs q ++ [⟨0, t, 0, []⟩] ++ [y] ∧ hs (q + 1) = hs q ++ [x] ∧ hs (q + 2) = hs q ++ [x] ++ [y] ∧ μ[(hs q).length]? = some (.bool false))
structure JY (kc : KC) (n : Nat) (N : FS) (ops : List Oper) (B : List AObj) (hs : Nat → List AObj) (T0 E : Tm) (w0 : World) (S0 : SS) (μ0 : List Value) (listed : Array Bool) (a : Act) (w : World) (S : SS) (μ : List Value) (Hc : List AObj) : Prop where
 hd : HY kc ops B hs listed Hc μ
 rel : Rel w S μ Hc
 step : Step n w0 S0 μ0 B w S μ Hc
 len : n ≤ Hc.length
 size : a.tmps.size = N
 nodef : a.defers = N.d
 slot : ∀ t,zxv ops listed t → rep S μ (get E t) (a.tmps.getD t undef)
 start : ∀ t,(∀ (k : Nat) (o : Oper),ops[k]? = some o → o.dst = some t → listed.getD k false = false) → rep S μ (get T0 t) (a.tmps.getD t undef)
theorem Step.longer {w w' : World} {S S' : SS} {μ μ' : List Value} (h : Step H.length w S μ H w' S' μ' H') (hr : Rel w S μ H) (hr' : Rel w' S' μ' H') : H.length ≤ H'.length := by
 cases hl : H.length with
 |zero=>exact Nat.zero_le _
 |succ m =>
  have hm : m < μ.length := by rw [hr.len];omega
  obtain ⟨x',hx',_⟩ := h.objs m _ (by rw [hl];exact Nat.lt_succ_self m) (List.getElem?_eq_getElem hm)
  have := (List.getElem?_eq_some_iff.1 hx').1
  rw [hr'.len] at this
  exact this
theorem zrV {T T' : Tm} {o : Oper} (hw : zLq kc o.op ≠ 0) (h : zrE T T' o) {K : AV → List AObj → Prop} (hs : z0A P G o ⟨H,T⟩ K) : z0A P G o ⟨H,T'⟩ K := by
 obtain ⟨dst,op,ty,pos,af,gd⟩ := o
 have e : ∀ x,x ∈ op.operands.toList → ev G T x = ev G T' x := fun x hx=>zsF h hx
 cases op with
 |alloc t=>exact hs
 |box t x=>simpa [z0A,e x (by simp [Op.operands])] using hs
 |store t x y=>simpa [z0A,e x (by simp [Op.operands]),e y (by simp [Op.operands])] using hs
 |makeFunc fn first caps =>
  have : (first.toList ++ caps.toList).map (ev G T) = (first.toList ++ caps.toList).map (ev G T') := List.map_congr_left fun x hx=>e x (by
   simpa [Op.operands] using hx)
  simp only [z0A] at hs ⊢
  rw [← this];exact hs
 |call c =>
  obtain ⟨callee,args,ts⟩ := c
  cases callee with
  |value x =>
   cases x with
   |func f =>
    have h2 : args.toList.map (ev G T) = args.toList.map (ev G T') := List.map_congr_left fun x hx=>e x (by simp [Op.operands,Call.operands];exact .inr (by simpa using hx))
    simp only [z0A] at hs ⊢
    rw [← h2];exact hs
   |tmp t =>
    have h1 : get T t = get T' t := e (.tmp t) (by simp [Op.operands,Call.operands])
    have h2 : args.toList.map (ev G T) = args.toList.map (ev G T') := List.map_congr_left fun x hx=>e x (by simp [Op.operands,Call.operands];exact .inr (by simpa using hx))
    simp only [z0A] at hs ⊢
    rw [← h1,← h2];exact hs
   |const v=>simp [z0A] at hs
   |global g=>simp [z0A] at hs
  |invoke r m=>simp [z0A] at hs
  |builtin b =>
   by_cases hb : b = .append
   ·subst hb
    obtain ⟨al⟩ := args
    obtain ⟨tl⟩ := ts
    rcases al with _|⟨x,_|⟨y,_|⟨z,r⟩⟩⟩
    ·simp [z0A] at hs
    ·simp [z0A] at hs
    ·rcases tl with _|⟨t,_|⟨t',_|⟨t'',r'⟩⟩⟩
     ·simp [z0A] at hs
     ·simp [z0A] at hs
     ·simpa [z0A,e x (by simp [Op.operands,Call.operands]),e y (by simp [Op.operands,Call.operands])] using hs
     ·simp [z0A] at hs
    ·simp [z0A] at hs
   ·by_cases hmm : b = .max ∨ b = .min
    ·rcases hmm with rfl|rfl
     all_goals
      obtain ⟨al⟩ := args
      rcases al with _|⟨x,_|⟨y,_|⟨z,r⟩⟩⟩
      ·simp [z0A] at hs
      ·simp [z0A] at hs
      ·simpa [z0A,e x (by simp [Op.operands,Call.operands]),e y (by simp [Op.operands,Call.operands])] using hs
      ·simp [z0A] at hs
    rw [not_or] at hmm
    exfalso
    by_cases hl : b = .len
    ·subst hl;simp [zLq,loud] at hw
    ·cases b <;> first|exact hb rfl|exact hl rfl|exact hmm.1 rfl|exact hmm.2 rfl|(simp [z0A] at hs;done)
 |mapUpdate t x y z=>simpa [z0A,e x (by simp [Op.operands]),e y (by simp [Op.operands]),e z (by simp [Op.operands])] using hs
 |makeMap t r =>
  cases r with
  |none=>simpa [z0A] using hs
  |some y=>simp [z0A] at hs
 |_=>simp [zLq,loud] at hw
theorem zvl {Q : Exit → ASt → Prop} {id : Nat} {ops : List Oper} {s : ASt} (hmx : P.follows .mixedOrders = true) (hsh : zaQ ops.toArray = true) (hok : tailY kc ops N = true) (hlk : zzy ops = true) (hn : n ≤ s.H.length)
  (h : zil P G kc ops [] [] [] ops s fun s=>Q .normal s) : AWp P G N n (.region id ops.toArray true) Q s := by
 obtain ⟨B,T⟩ := s
 intro w0 S0 μ0 a0 hrel hfr hG
 have ok := zsK hok
 obtain ⟨vs,hs,hvl,hs0,hend,_,hfacts⟩ := zrB h (fun i=>by simp) (fun x hx=>by cases hx)
 have hget : ∀ (k : Nat) (o : Oper),(ops.toArray)[k]? = some o → ops[k]? = some o := fun k o h=>by simpa using h
 have hvs : ∀ (k : Nat) (o : Oper),ops[k]? = some o → vs[k]? = some (vs.getD k .nil) := fun k o ho=>by
  have : k < vs.length := by rw [hvl];exact (List.getElem?_eq_some_iff.1 ho).1
  simp [List.getD,this]
 have hback : ∀ {k i : Nat},anc ops k i = true → i < k := fun h=>zHo hsh h
 have hfacts : ∀ i o v,ops[i]? = some o → vs[i]? = some v → zL1 P G kc ops (fun H'=>∃ q,q ≤ ops.length ∧ H' = hs q ∧ zx6 kc ops 0 q i ∧ loI kc ops (zMx ops []) i ≤ q) (zLc kc ops [] hs i) (hs i) (zNg T (ops.take i) (vs.take i)) o v (hs (i + 1)) := fun i o v ho hv=>by
  have := hfacts i o v ho hv
  simpa using this
 have hadd : ∀ (q i : Nat),i + q ≤ ops.length → (∀ (k : Nat) (o : Oper),i ≤ k → k < i + q → ops[k]? = some o → zLq kc o.op ≤ 1) → ∃ X,hs (i + q) = hs i ++ X := by
  intro q
  induction q with
  |zero=>intro i _ _;exact ⟨[],by simp⟩
  |succ q ih =>
   intro i hle hno
   have hk : i + q < ops.length := by omega
   have ho : ops[i + q]? = some ops[i + q] := List.getElem?_eq_getElem hk
   have hf := hfacts (i + q) ops[i + q] _ ho (hvs _ _ ho)
   have hq := hno (i + q) ops[i + q] (by omega) (by omega) ho
   obtain ⟨X,hX⟩ := ih i (by omega) fun k o h1 h2=>hno k o h1 (by omega)
   unfold zL1 at hf
   rw [show i + (q + 1) = i + q + 1 by omega]
   split at hf
   ·exact ⟨X,by rw [hf.1,hX]⟩
   ·rcases hf with ⟨_,_,hf⟩|⟨_,_,hf⟩
    ·obtain ⟨Y,hY⟩ := hf (by omega)
     exact ⟨X ++ Y,by rw [hY,hX,List.append_assoc]⟩
    ·exact ⟨X,by rw [hf,hX]⟩
 have hadd' : ∀ (i j : Nat),i ≤ j → j ≤ ops.length → (∀ (k : Nat) (o : Oper),i ≤ k → k < j → ops[k]? = some o → zLq kc o.op ≤ 1) → ∃ X,hs j = hs i ++ X := by
  intro i j hij hj hno
  have := hadd (j - i) i (by omega) fun k o h1 h2=>hno k o h1 (by omega)
  rwa [show i + (j - i) = j by omega] at this
 have hsc : ∀ (q i : Nat),i + q ≤ ops.length → (∀ (k : Nat) (o : Oper),i ≤ k → k < i + q → ops[k]? = some o → zLq kc o.op = 0) → hs (i + q) = hs i := by
  intro q
  induction q with
  |zero=>intro i _ _;rfl
  |succ q ih =>
   intro i hle hno
   have hk : i + q < ops.length := by omega
   have ho : ops[i + q]? = some ops[i + q] := List.getElem?_eq_getElem hk
   have hf := hfacts (i + q) ops[i + q] _ ho (hvs _ _ ho)
   have hq := hno (i + q) ops[i + q] (by omega) (by omega) ho
   have := ih i (by omega) fun k o h1 h2=>hno k o h1 (by omega)
   unfold zL1 at hf
   rw [if_pos hq] at hf
   rw [← this,show i + (q + 1) = i + q + 1 by omega];exact hf.1
 have hsc' : ∀ (i j : Nat),i ≤ j → j ≤ ops.length → (∀ (k : Nat) (o : Oper),i ≤ k → k < j → ops[k]? = some o → zLq kc o.op = 0) → hs j = hs i := by
  intro i j hij hj hno
  have := hsc (j - i) i (by omega) fun k o h1 h2=>hno k o h1 (by omega)
  rwa [show i + (j - i) = j by omega] at this
 have nb : ∀ {b : Bool},(b = true → False) → b = false := fun {b} h=>by cases b with|false=>rfl|true=>exact (h rfl).elim
 have z0 : ∀ {m : Nat},(m ≠ 0 → False) → m = 0 := fun {m} h=>by cases m with|zero=>rfl|succ m=>exact (h (by omega)).elim
 have hE : ∀ (j t : Nat),(∀ o ∈ ops,o.dst ≠ some t) ∨ (∃ (k : Nat) (o : Oper),k < j ∧ ops[k]? = some o ∧ o.dst = some t) → get (zNg T (ops.take j) (vs.take j)) t = get (zNg T ops vs) t := by
  intro j t ht
  rcases ht with hu|⟨k,o,hkj,ho,hd⟩
  ·rw [za3 _ _ _ _ fun o' ho2=>hu o' (List.mem_of_mem_take ho2),za3 _ _ _ _ hu]
  ·have huniq := (ok.dst k t o ho hd).2
   rw [zfW (ops.take j) (vs.take j) T t k o (vs.getD k .nil) (by rw [List.getElem?_take,if_pos hkj];exact ho) (by rw [List.getElem?_take,if_pos hkj];exact hvs k o ho) hd fun q oq hoq e=>?_,
    zfW ops vs T t k o (vs.getD k .nil) ho (hvs k o ho) hd fun q oq hoq e=>huniq q oq hoq e]
   rw [List.getElem?_take] at hoq
   split at hoq
   ·exact huniq q oq hoq e
   ·cases hoq
 refine wp_region_inv (fun listed a w=>∃ S μ Hc,JY kc n N ops B hs T (zNg T ops vs) w0 S0 μ0 listed a w S μ Hc) hmx hsh ?_ ?_ ?_
 ·
  rintro listed a w j o ho hlsz hjf hedges hcl ⟨S,μ,Hc,hJ⟩
  have ho' := hget j o ho
  have hjl : j < ops.length := (List.getElem?_eq_some_iff.1 ho').1
  have hjs : j < listed.size := by rw [hlsz];simpa using hjl
  have hset : ∀ k,k ≠ j → (listed.setIfInBounds j true).getD k false = listed.getD k false := fun k hk=>getD_set_ne false (fun e=>hk e.symm)
  have hself := zfc hjs
  have hafter : ∀ i,anc ops j i = true → listed.getD i false = true := fun i hi=>zps hsh hcl hi fun ok' hk e he hb=>by
   rw [ho'] at hk;injection hk with hk;subst hk
   exact hedges e he hb
  have hafter2 : ∀ (k i : Nat),listed.getD k false = true → anc ops k i = true → listed.getD i false = true := fun k i hl hi=>zps hsh hcl hi fun ok' hk e he hb=>hcl k ok' (by simpa using hk) hl e he hb
  have nl : ∀ (k : Nat),anc ops k j = true → listed.getD k false = false := fun k hk=>nb fun hl=>by
   have := hafter2 k j hl hk
   rw [hjf] at this;cases this
  have hne : ∀ k,listed.getD k false = true → k ≠ j := fun k hl e=>by subst e;rw [hl] at hjf;cases hjf
  have upd : ∀ {S' : SS} {μ' : List Value} {Hc' : List AObj} {u : Value} {w' : World},HY kc ops B hs (listed.setIfInBounds j true) Hc' μ' → Rel w' S' μ' Hc' → Step Hc.length w S μ Hc w' S' μ' Hc' → (∀ d,o.dst = some d → rep S' μ' (vs.getD j .nil) u) →
    JY kc n N ops B hs T (zNg T ops vs) w0 S0 μ0 (listed.setIfInBounds j true) (a.put o.dst u) w' S' μ' Hc' := by
   intro S' μ' Hc' u w' hHD hr' hst' hrep
   have hle : Hc.length ≤ Hc'.length := hst'.longer hJ.rel hr'
   have hext := hst'.toExt hJ.rel
   refine ⟨hHD,hr',hJ.step.trans (hst'.less hJ.len),Nat.le_trans hJ.len hle,?_,?_,fun t ht=>?_,fun t ht=>?_⟩
   ·cases hd : o.dst <;> simp [Act.put,hJ.size]
   ·cases hd : o.dst <;> simp [Act.put,hJ.nodef]
   ·by_cases hdt : o.dst = some t
    ·have hu := ok.dst j t o ho' hdt
     rw [zfW ops vs T t j o (vs.getD j .nil) ho' (hvs j o ho') hdt fun q oq hoq e=>hu.2 q oq hoq e,hdt]
     rw [zoT a t u (by rw [hJ.size];exact hu.1)]
     exact hrep t hdt
    ·have e1 : (a.put o.dst u).tmps.getD t undef = a.tmps.getD t undef := by
      cases hd : o.dst with
      |none=>rfl
      |some d=>exact zid a d t u (fun e=>hdt (by rw [hd,e]))
     rw [e1]
     refine (hJ.slot t ?_).ext hext
     rcases ht with hu|⟨k,ok',hk,hkd,hl⟩
     ·exact .inl hu
     ·have hkj : k ≠ j := by rintro rfl;rw [ho'] at hk;injection hk with hk;subst hk;exact hdt hkd
      rw [hset k hkj] at hl
      exact .inr ⟨k,ok',hk,hkd,hl⟩
   ·have hdt : o.dst ≠ some t := by
     intro e
     have := ht j o ho' e
     rw [hself] at this;cases this
    have e1 : (a.put o.dst u).tmps.getD t undef = a.tmps.getD t undef := by
     cases hd : o.dst with
     |none=>rfl
     |some d=>exact zid a d t u (fun e=>hdt (by rw [hd,e]))
    rw [e1]
    refine (hJ.start t fun k ok' hk hkd=>?_).ext hext
    have hkj : k ≠ j := by rintro rfl;rw [ho'] at hk;injection hk with hk;subst hk;exact hdt hkd
    have := ht k ok' hk hkd
    rwa [hset k hkj] at this
  let L := zuM o ++ (match o.guard with|some (k,_)=>(zm7 ops k).toList|none=>[])
  have hlook : ∀ t ∈ L,rep S μ (get (zNg T (ops.take j) (vs.take j)) t) (a.tmps.getD t undef) := by
   intro t ht
   have h1 := zaV hlk ho'
   have h2 := List.all_eq_true.1 h1 t ht
   rw [Bool.or_eq_true] at h2
   rcases h2 with hu|hp
   ·have hun : ∀ (k : Nat) (ok' : Oper),ops[k]? = some ok' → ok'.dst = some t → anc ops k j = true := by
     intro k ok' hk hd
     have := zaV hu hk
     simpa [hd] using this
    have e : get (zNg T (ops.take j) (vs.take j)) t = get T t := by
     refine za3 _ _ _ _ fun o' ho2 e=>?_
     obtain ⟨k,hk⟩ := List.getElem?_of_mem ho2
     rw [List.getElem?_take] at hk
     split at hk
     ·have := hback (hun k o' hk e)
      omega
     ·cases hk
    rw [e]
    exact hJ.start t fun k ok' hk hd=>nl k (hun k ok' hk hd)
   ·rw [Bool.not_eq_true'] at hp
    unfold zNa at hp
    rw [List.all_eq_false] at hp
    obtain ⟨k,_,hk⟩ := hp
    cases hok : ops[k]? with
    |none=>rw [hok] at hk;exact absurd rfl hk
    |some ok' =>
     rw [hok] at hk
     simp only [Bool.not_eq_true',Bool.not_eq_false,Bool.and_eq_true,decide_eq_true_eq,beq_iff_eq] at hk
     obtain ⟨⟨hkj,hd⟩,han⟩ := hk
     rw [hE j t (.inr ⟨k,ok',hkj,hok,hd⟩)]
     exact hJ.slot t (.inr ⟨k,ok',hok,hd,hafter k han⟩)
  let Tj : Tm := L.map fun t=>(t,get (zNg T (ops.take j) (vs.take j)) t)
  have hTj : ∀ (L : List Nat) (E : Tm) (i : Nat),(i ∈ L → get (L.map fun t=>(t,get E t)) i = get E i) ∧ (i ∉ L → get (L.map fun t=>(t,get E t)) i = .nil) := by
   intro L E i
   induction L with
   |nil=>exact ⟨fun h=>(by cases h),fun _=>rfl⟩
   |cons t L ih =>
    simp only [List.map_cons,get]
    refine ⟨fun h=>?_,fun h=>?_⟩
    ·split
     ·rename_i e;rw [e]
     ·rename_i e;exact ih.1 ((List.mem_cons.1 h).resolve_left fun q=>e q.symm)
    ·rw [if_neg fun e=>h (List.mem_cons.2 (.inl e.symm))]
     exact ih.2 fun q=>h (List.mem_cons_of_mem _ q)
  have hfrj : Fr S μ N Tj a := by
   refine ⟨hJ.size,hJ.nodef,fun i=>?_⟩
   by_cases hi : i ∈ L
   ·show rep S μ (get (L.map fun t=>(t,get _ t)) i) _
    rw [(hTj L _ i).1 hi]
    exact hlook i hi
   ·show rep S μ (get (L.map fun t=>(t,get _ t)) i) _
    rw [(hTj L _ i).2 hi];trivial
  have hGj := hG.ext hJ.step.still
  have hagree : zrE (zNg T (ops.take j) (vs.take j)) Tj o := fun t ht=>((hTj L _ t).1 (List.mem_append_left _ ht)).symm
  have odd_no : ∀ {q k : Nat},zME ops q = true → k < ops.length → anc ops k (q + 1) = true → anc ops k q = true := by
   intro q k ho hk ha
   unfold zME at ho
   rw [Bool.and_eq_true] at ho
   have := zaV ho.2 (List.getElem?_eq_getElem hk)
   rw [ha] at this
   simpa using this
  have below : ∀ (k i : Nat) (ok' oi : Oper),ops[k]? = some ok' → zLq kc ok'.op ≠ 0 → listed.getD k false = true → ops[i]? = some oi → zLq kc oi.op ≠ 0 → i < k → listed.getD i false = true ∨ (k = i + 1 ∧ zME ops i = true) := by
   intro k i ok' oi hk' hw' hl hoi hi hik
   rcases ok.loud i k oi ok' hoi hi hk' hw' hik with q|q
   ·exact .inl (hafter2 k i hl q)
   ·exact .inr q
  have ahead : ∀ (i : Nat) (oi : Oper),zLq kc o.op ≠ 0 → ops[i]? = some oi → zLq kc oi.op ≠ 0 → i < j → listed.getD i false = true ∨ (j = i + 1 ∧ zME ops i = true) := by
   intro i oi hc hoi hi hij
   rcases ok.loud i j oi o hoi hi ho' hc hij with q|q
   ·exact .inl (hafter i q)
   ·exact .inr q
  have behind : ∀ (i : Nat) (oi : Oper),zLq kc o.op ≠ 0 → ops[i]? = some oi → zLq kc oi.op ≠ 0 → j < i → listed.getD i false = false ∨ (i = j + 1 ∧ zME ops j = true) := by
   intro i oi hc hoi hi hji
   rcases ok.loud j i o oi ho' hc hoi hi hji with q|q
   ·exact .inl (nl i q)
   ·exact .inr q
  have hHL : zLq kc o.op ≠ 0 → (∀ (i : Nat) (oi : Oper),ops[i]? = some oi → zLq kc oi.op ≠ 0 → i < j → listed.getD i false = true) → (∀ (i : Nat) (oi : Oper),ops[i]? = some oi → zLq kc oi.op ≠ 0 → j < i → listed.getD i false = false) → Hc = hs j := by
   intro hc hlo hhi
   rcases hJ.hd with ⟨k,ok',hk',hw',hl,hmax,_,e⟩|⟨hnow,e⟩|⟨q,oq,o1,t,x,y,hq,hcq,hq1,hcq1,_,hlq,hlq1,_⟩
   ·have hlt : k < j := by
     rcases Nat.lt_trichotomy k j with q|q|q
     ·exact q
     ·exact absurd q (hne k hl)
     ·rw [hhi k ok' hk' hw' q] at hl;cases hl
    rw [e]
    refine (hsc' (k + 1) j (by omega) (by omega) fun i oi h1 h2 hoi=>z0 fun hi=>?_).symm
    have := hmax i oi hoi hi (hlo i oi hoi hi h2);omega
   ·rw [e,← hs0]
    refine (hsc' 0 j (Nat.zero_le _) (by omega) fun i oi _ h2 hoi=>z0 fun hi=>?_).symm
    have := hnow i oi hoi hi
    rw [hlo i oi hoi hi h2] at this;cases this
   ·exfalso
    have h1 : q ≠ j ∨ q = j := by omega
    rcases Nat.lt_trichotomy q j with e|e|e
    ·rw [hlo q oq hq hcq e] at hlq;cases hlq
    ·subst e
     rw [hhi (q + 1) o1 hq1 hcq1 (by omega)] at hlq1;cases hlq1
    ·rw [hhi (q + 1) o1 hq1 hcq1 (by omega)] at hlq1;cases hlq1
  have hHj : zLq kc o.op = 0 → ∃ X,Hc = zLc kc ops [] hs j ++ X := by
   intro hc0
   unfold zLc
   cases hfr : zju kc ops (zMx ops []) j with
   |true=>exact ⟨Hc,rfl⟩
   |false =>
   show ∃ X,Hc = zMN [] hs (loI kc ops (zMx ops []) j) ++ X
   rw [show zMN [] hs (loI kc ops (zMx ops []) j) = hs (loI kc ops (zMx ops []) j) by simp [zMN]]
   have hlow := zlC (kc := kc) ops j
   have mid : ∀ (k : Nat) (ok' : Oper),ops[k]? = some ok' → zLq kc ok'.op ≠ 0 → listed.getD k false = true → ∀ (i : Nat) (oi : Oper),loI kc ops (zMx ops []) j ≤ i → i < k + 1 → ops[i]? = some oi → zLq kc oi.op ≤ 1 := by
    intro k ok' hk' hw' hl i oi h1 h2 hoi
    rcases Nat.lt_or_ge 1 (zLq kc oi.op) with q|q
    ·exfalso
     have hli : listed.getD i false = true := by
      by_cases e : i = k
      ·rw [e];exact hl
      ·rcases below k i ok' oi hk' hw' hl hoi (by omega) (by omega) with q3|⟨_,q3⟩
       ·exact q3
       ·unfold zME at q3
        rw [Bool.and_eq_true,Bool.and_eq_true] at q3
        obtain ⟨t,et,_⟩ := zoJ hoi q3.1.1
        rw [et] at q
        exact absurd q (by simp [zLq])
     have hij := hne i hli
     rcases Nat.lt_or_ge i j with q2|q2
     ·have ha : anc ops j i = true := by
       have := ztF hfr hoi q hij
       rwa [if_neg (by omega)] at this
      rcases hlow with ⟨e,h3⟩|⟨p,op',hp,e,hop,hcp,hap,h3⟩
      ·rw [h3 i oi q2 hoi (by omega)] at ha;cases ha
      ·rw [h3 i oi (by omega) q2 hoi (by omega)] at ha;cases ha
     ·have ha : anc ops i j = true := by
       have := ztF hfr hoi q hij
       rwa [if_pos (by omega)] at this
      rw [nl i ha] at hli;cases hli
    ·exact q
   rcases hJ.hd with ⟨k,ok',hk',hw',hl,hmax,_,e⟩|⟨hnow,e⟩|⟨q,oq,o1,t,x,y,hq,hcq,hq1,hcq1,hod,hlq,hlq1,hmax,_,e,_,_,_⟩
   ·have hle : loI kc ops (zMx ops []) j ≤ k + 1 := by
     rcases hlow with ⟨e2,_⟩|⟨p,op',hp,e2,hop,hcp,hap,_⟩
     ·omega
     ·have := hmax p op' hop hcp (hafter p hap);omega
    rw [e]
    exact hadd' _ (k + 1) hle (by have := (List.getElem?_eq_some_iff.1 hk').1;omega) (mid k ok' hk' hw' hl)
   ·have : loI kc ops (zMx ops []) j = 0 := by
     rcases hlow with ⟨e2,_⟩|⟨p,op',hp,e2,hop,hcp,hap,_⟩
     ·exact e2
     ·have := hnow p op' hop hcp
      rw [hafter p hap] at this;cases this
    exact ⟨[],by rw [this,e,hs0,List.append_nil]⟩
   ·have hle : loI kc ops (zMx ops []) j ≤ q := by
     rcases hlow with ⟨e2,_⟩|⟨p,op',hp,e2,hop,hcp,hap,_⟩
     ·omega
     ·have h1 := hmax p op' hop hcp (hafter p hap)
      have h2 : p ≠ q := fun e=>by subst e;rw [hafter p hap] at hlq;cases hlq
      have h3 : p ≠ q + 1 := fun e=>by
       subst e
       rw [hafter q (odd_no hod hjl hap)] at hlq;cases hlq
      omega
    obtain ⟨X,hX⟩ := hadd' _ q hle (by have := (List.getElem?_eq_some_iff.1 hq).1;omega) fun i oi h1 h2 hoi=>mid (q + 1) o1 hq1 hcq1 hlq1 i oi h1 (by omega) hoi
    exact ⟨X ++ [⟨0,t,0,[]⟩] ++ [y],by rw [e,hX];simp⟩
  have hfact := hfacts j o (vs.getD j .nil) ho' (hvs j o ho')
  unfold zL1 at hfact
  split at hfact
  case isFalse hw =>
   rcases hfact with ⟨hg,hst,_⟩|⟨hg,hvd,hHk⟩
   rotate_left
   ·
    have hoff : ¬ Region.wanted o (yielded ops.toArray a.tmps) = true := by
     obtain ⟨k,want,t,hgd,ht,hb⟩ := hg
     have htL : t ∈ L := List.mem_append_right _ (by simp only [hgd,ht];simp)
     rcases hb with hb|⟨q,hb⟩
     ·have hy : yielded ops.toArray a.tmps k = some (!want) := za4 hfrj ht (by
       show get (L.map fun t=>(t,get _ t)) t = _
       rw [(hTj L _ t).1 htL];exact hb)
      simp [Region.wanted,hgd,hy]
     ·have hy : yielded ops.toArray a.tmps k = none := zhB hfrj ht (q := q) (by
       show get (L.map fun t=>(t,get _ t)) t = _
       rw [(hTj L _ t).1 htL];exact hb)
      simp [Region.wanted,hgd,hy]
    obtain ⟨_,_,_,hgd,_⟩ := hg
    have hodd : zLn ops j = true → False := fun q=>by
     obtain ⟨_,_,e⟩ := zoJ ho' q
     rw [hgd] at e;cases e
    have hlo : ∀ (i : Nat) (oi : Oper),ops[i]? = some oi → zLq kc oi.op ≠ 0 → i < j → listed.getD i false = true := by
     intro i oi hoi hi hij
     rcases ahead i oi hw hoi hi hij with q|⟨e,hod⟩
     ·exact q
     ·unfold zME at hod
      rw [Bool.and_eq_true,Bool.and_eq_true,← e] at hod
      exact (hodd hod.1.2).elim
    have hhi : ∀ (i : Nat) (oi : Oper),ops[i]? = some oi → zLq kc oi.op ≠ 0 → j < i → listed.getD i false = false := by
     intro i oi hoi hi hji
     rcases behind i oi hw hoi hi hji with q|⟨e,hod⟩
     ·exact q
     ·unfold zME at hod
      rw [Bool.and_eq_true,Bool.and_eq_true] at hod
      exact (hodd hod.1.1).elim
    unfold zu1 wpList
    rw [if_neg hoff]
    refine ⟨rfl,S,μ,Hc,upd (.inl ⟨j,o,ho',hw,hself,fun k' ok' hk' hw' hl'=>?_,fun k' ok' hk' hw' hle=>?_,by rw [hHk];exact hHL hw hlo hhi⟩) hJ.rel (Step.refl _ _ _ _ _) fun _ _=>by rw [hvd];exact zqv _ _⟩
    ·rcases Nat.lt_or_ge j k' with q|q
     ·exfalso
      rw [hset k' (by omega),hhi k' ok' hk' hw' q] at hl';cases hl'
     ·exact q
    ·by_cases e : k' = j
     ·subst e;exact hself
     ·rw [hset k' e];exact hlo k' ok' hk' hw' (by omega)
   have hwant : Region.wanted o (yielded ops.toArray a.tmps) = true := by
    rcases hg with hg|⟨k,want,t,hgd,ht,hb⟩
    ·simp [Region.wanted,hg]
    ·have htL : t ∈ L := List.mem_append_right _ (by simp only [hgd,ht];simp)
     have hy : yielded ops.toArray a.tmps k = some want := za4 hfrj ht (by
      show get (L.map fun t=>(t,get _ t)) t = _
      rw [(hTj L _ t).1 htL];exact hb)
     simp [Region.wanted,hgd,hy]
   unfold zu1 wpList
   rw [if_pos hwant]
   refine .inl ?_
   by_cases hA : (∀ (i : Nat) (oi : Oper),ops[i]? = some oi → zLq kc oi.op ≠ 0 → i < j → listed.getD i false = true) ∧ (∀ (i : Nat) (oi : Oper),ops[i]? = some oi → zLq kc oi.op ≠ 0 → j < i → listed.getD i false = false)
   ·
    rw [← hHL hw hA.1 hA.2] at hst
    have hwp := zfK (zrV hw hagree hst) hJ.rel hfrj hGj (fun e a' w'=>e = .normal ∧ ∃ S μ Hc,JY kc n N ops B hs T (zNg T ops vs) w0 S0 μ0 (listed.setIfInBounds j true) a' w' S μ Hc)
    refine _root_.Go.Proofs.Ytaaogcnjfkgnoaa.Oper.wp_next hwp ?_
    rintro a' w' ⟨d,u,H',S',μ',⟨rfl,rfl⟩,rfl,hrep,hr',hst',_⟩
    refine ⟨rfl,S',μ',_,upd (.inl ⟨j,o,ho',hw,hself,fun k' ok' hk' hw' hl'=>?_,fun k' ok' hk' hw' hle=>?_,rfl⟩) hr' hst' fun _ _=>hrep⟩
    ·rcases Nat.lt_or_ge j k' with q|q
     ·exfalso
      rw [hset k' (by omega),hA.2 k' ok' hk' hw' q] at hl';cases hl'
     ·exact q
    ·by_cases e : k' = j
     ·subst e;exact hself
     ·rw [hset k' e];exact hA.1 k' ok' hk' hw' (by omega)
   have hal : ∀ {p : Nat} {op : Oper},ops[p]? = some op → zLn ops p = true → ∃ t c,op.op = .alloc t ∧ zpm P t = some c ∧ vs.getD p .nil = OP (hs p).length 0 ∧ hs (p + 1) = hs p ++ [⟨1,t,0,c⟩] := by
    intro p op hp hal
    obtain ⟨t,et,eg⟩ := zoJ hp hal
    have hf := hfacts p op _ hp (hvs p op hp)
    unfold zL1 at hf
    rw [if_neg (by rw [et];simp [zLq])] at hf
    have hf : z0A P G op ⟨hs p,zNg T (ops.take p) (vs.take p)⟩ (fun d H'=>d = vs.getD p .nil ∧ H' = hs (p + 1)) := by
     rcases hf with ⟨_,hf,_⟩|⟨⟨_,_,_,hg,_⟩,_⟩
     ·exact hf
     ·rw [eg] at hg;cases hg
    unfold z0A at hf
    rw [et] at hf
    dsimp only at hf
    cases hz : zpm P t with
    |none=>rw [hz] at hf;exact hf.elim
    |some c =>
     rw [hz] at hf
     exact ⟨t,c,et,hz,hf.1.symm,hf.2.symm⟩
   by_cases hB : ∀ (i : Nat) (oi : Oper),ops[i]? = some oi → zLq kc oi.op ≠ 0 → i < j → listed.getD i false = true
   ·
    have : ∃ (i : Nat) (oi : Oper),ops[i]? = some oi ∧ zLq kc oi.op ≠ 0 ∧ j < i ∧ listed.getD i false = true := by
     refine Classical.byContradiction fun q=>hA ⟨hB,fun i oi h1 h2 h3=>nb fun h4=>q ⟨i,oi,h1,h2,h3,h4⟩⟩
    obtain ⟨i,oi,hoi,hci,hji,hli⟩ := this
    rcases behind i oi hw hoi hci hji with q|⟨rfl,hod⟩
    ·rw [hli] at q;cases q
    rcases hJ.hd with ⟨k,ok',hk',hw',hl,hmax,hall,e⟩|⟨hnow,e⟩|⟨q,oq,o1,t,x,y,hq,hcq,hq1,hcq1,hod',hlq,hlq1,hmax,hlow,e,ex,ey,hμ⟩
    ·have := hall j o ho' hw (by have := hmax _ oi hoi hci hli;omega)
     rw [hjf] at this;cases this
    ·rw [hnow _ oi hoi hci] at hli;cases hli
    ·have hqj : q = j := by
      have h1 := hmax _ oi hoi hci hli
      rcases Nat.lt_or_ge j q with h2|h2
      ·have := hlow j o ho' hw h2
       rw [hjf] at this;cases this
      ·rcases Nat.lt_or_ge q j with h3|h3
       ·rw [hB q oq hq hcq h3] at hlq;cases hlq
       ·omega
     subst hqj
     rw [ho'] at hq;injection hq with hq;subst hq
     unfold zME at hod
     rw [Bool.and_eq_true,Bool.and_eq_true] at hod
     obtain ⟨t0,c0,et,hz,hv,hx⟩ := hal ho' hod.1.1
     rw [ex] at hx
     have hxe : x = ⟨1,t0,0,c0⟩ := by simpa using hx
     have hHq : Hc[(hs q).length]? = some ⟨0,t,0,[]⟩ := by rw [e];simp
     refine _root_.Go.Proofs.Ytaaogcnjfkgnoaa.Oper.wp_next (zum (K := fun d H'=>d = OP (hs q).length 0 ∧ H' = Hc.set (hs q).length ⟨1,t0,0,c0⟩) hJ.rel et hz hμ hHq rfl ⟨rfl,rfl⟩) ?_
     rintro a' w' ⟨d,u,H',S',μ',⟨rfl,rfl⟩,rfl,hrep,hr',hst',_⟩
     refine ⟨rfl,S',μ',_,upd (.inl ⟨q + 1,oi,hoi,hci,by rw [hset _ (by omega)];exact hli,fun k' ok' hk' hw' hl'=>?_,fun k' ok' hk' hw' hle=>?_,?_⟩) hr' hst' fun _ _=>by rw [hv];exact hrep⟩
     ·by_cases e : k' = q
      ·omega
      ·rw [hset k' e] at hl'
       exact hmax k' ok' hk' hw' hl'
     ·by_cases e : k' = q
      ·subst e;exact hself
      ·rw [hset k' e]
       by_cases e2 : k' = q + 1
       ·subst e2;exact hli
       ·exact hB k' ok' hk' hw' (by omega)
     ·rw [ey,e,hxe]
      simp
   ·
    have : ∃ (i : Nat) (oi : Oper),ops[i]? = some oi ∧ zLq kc oi.op ≠ 0 ∧ i < j ∧ listed.getD i false = false := by
     refine Classical.byContradiction fun q=>hB fun i oi h1 h2 h3=>?_
     cases h4 : listed.getD i false with
     |true=>rfl
     |false=>exact absurd ⟨i,oi,h1,h2,h3,h4⟩ q
    obtain ⟨q,oq,hq,hcq,hqj,hlq⟩ := this
    rcases ahead q oq hw hq hcq hqj with h|⟨rfl,hod⟩
    ·rw [hlq] at h;cases h
    have hbel : ∀ (i : Nat) (oi : Oper),ops[i]? = some oi → zLq kc oi.op ≠ 0 → i < q → listed.getD i false = true := by
     intro i oi h1 h2 h3
     rcases ahead i oi hw h1 h2 (by omega) with h|⟨h,_⟩
     ·exact h
     ·omega
    have habo : ∀ (i : Nat) (oi : Oper),ops[i]? = some oi → zLq kc oi.op ≠ 0 → listed.getD i false = true → i ≤ q := by
     intro i oi h1 h2 h3
     rcases Nat.lt_or_ge q i with h4|h4
     ·exfalso
      rcases below i q oi oq h1 h2 h3 hq hcq h4 with h|⟨h,_⟩
      ·rw [h] at hlq;cases hlq
      ·subst h;rw [h3] at hjf;cases hjf
     ·exact h4
    have hHq : Hc = hs q := by
     rcases hJ.hd with ⟨k,ok',hk',hw',hl,hmax,hall,e⟩|⟨hnow,e⟩|⟨q',oq',o1,t,x,y,hq',hcq',hq1,hcq1,hod',hlq',hlq1,hmax,hlow,e,ex,ey,hμ⟩
     ·have hk1 : k < q := by
       have h1 := habo k ok' hk' hw' hl
       rcases Nat.lt_or_ge k q with h|h
       ·exact h
       ·have : k = q := by omega
        subst this;rw [hl] at hlq;cases hlq
      rw [e]
      refine (hsc' (k + 1) q (by omega) (by omega) fun i oi h1 h2 hoi=>z0 fun hi=>?_).symm
      have := hmax i oi hoi hi (hbel i oi hoi hi h2);omega
     ·rw [e,← hs0]
      refine (hsc' 0 q (Nat.zero_le _) (by omega) fun i oi _ h2 hoi=>z0 fun hi=>?_).symm
      have := hnow i oi hoi hi
      rw [hbel i oi hoi hi h2] at this;cases this
     ·exfalso
      have h1 := habo (q' + 1) o1 hq1 hcq1 hlq1
      rw [hbel q' oq' hq' hcq' (by omega)] at hlq';cases hlq'
    have hod2 := hod
    unfold zME at hod2
    rw [Bool.and_eq_true,Bool.and_eq_true] at hod2
    obtain ⟨t0,c0,et0,hz0,hv0,hx0⟩ := hal hq hod2.1.1
    obtain ⟨t1,c1,et1,hz1,hv1,hx1⟩ := hal ho' hod2.1.2
    obtain ⟨hrv,hsv⟩ := hJ.rel.void t0
    refine _root_.Go.Proofs.Ytaaogcnjfkgnoaa.Oper.wp_next (zuv hrv et1 hz1 (Q := fun e a' w'=>e = .normal ∧ ∃ S μ Hc,JY kc n N ops B hs T (zNg T ops vs) w0 S0 μ0 (listed.setIfInBounds (q + 1) true) a' w' S μ Hc)) ?_
    rintro a' w' ⟨u,μ',rfl,hrep,hr',hst',z,rfl⟩
    have hμ' : (μ ++ [.bool false] ++ [z])[(hs q).length]? = some (.bool false) := by
     rw [← hHq,← hJ.rel.len]
     simp
    refine ⟨rfl,S,_,_,upd (.inr (.inr ⟨q,oq,o,t0,⟨1,t0,0,c0⟩,⟨1,t1,0,c1⟩,hq,hcq,ho',hw,hod,by rw [hset q (by omega)];exact hlq,hself,fun k' ok' hk' hw' hl'=>?_,fun k' ok' hk' hw' hlt=>?_,by rw [hHq],hx0,by rw [hx1,hx0],hμ'⟩)) hr' (hsv.trans (hst'.less (by simp))) fun _ _=>by
     rw [hv1,hx0,← hHq]
     simpa using hrep⟩
    ·by_cases e : k' = q + 1
     ·omega
     ·rw [hset k' e] at hl'
      have := habo k' ok' hk' hw' hl';omega
    ·rw [hset k' (by omega)]
     exact hbel k' ok' hk' hw' hlt
  case isTrue hna =>
    obtain ⟨hk,hfact⟩ := hfact
    have hHDq : HY kc ops B hs (listed.setIfInBounds j true) Hc μ := by
     have f : ∀ (k : Nat) (ok' : Oper),ops[k]? = some ok' → zLq kc ok'.op ≠ 0 → (listed.setIfInBounds j true).getD k false = listed.getD k false := by
      intro k ok' hk' hq
      refine hset k ?_
      rintro rfl
      rw [ho'] at hk';injection hk' with hk';subst hk'
      exact hq hna
     rcases hJ.hd with ⟨k,ok',hk',hw',hl,hmax,hall,e⟩|⟨hnos,e⟩|⟨q,oq,o1,t,x,y,hq,hcq,hq1,hcq1,hod,hlq,hlq1,hmax,hlow,r⟩
     ·exact .inl ⟨k,ok',hk',hw',by rw [f k ok' hk' hw'];exact hl,fun k2 o2 h1 h2 h3=>hmax k2 o2 h1 h2 (by rw [← f k2 o2 h1 h2];exact h3),fun k2 o2 h1 h2 h3=>by rw [f k2 o2 h1 h2];exact hall k2 o2 h1 h2 h3,e⟩
     ·exact .inr (.inl ⟨fun k2 o2 h1 h2=>by rw [f k2 o2 h1 h2];exact hnos k2 o2 h1 h2,e⟩)
     ·exact .inr (.inr ⟨q,oq,o1,t,x,y,hq,hcq,hq1,hcq1,hod,by rw [f q oq hq hcq];exact hlq,by rw [f _ o1 hq1 hcq1];exact hlq1,fun k2 o2 h1 h2 h3=>hmax k2 o2 h1 h2 (by rw [← f k2 o2 h1 h2];exact h3),fun k2 o2 h1 h2 h3=>by rw [f k2 o2 h1 h2];exact hlow k2 o2 h1 h2 h3,r⟩)
    have hdoH : ∀ (hw : Region.wanted o (yielded ops.toArray a.tmps) = true),z3I P G o ⟨Hc,zNg T (ops.take j) (vs.take j)⟩ (· = vs.getD j .nil) → zu1 P ops.toArray o a w (fun a' w'=>∃ S μ Hc,JY kc n N ops B hs T (zNg T ops vs) w0 S0 μ0 (listed.setIfInBounds j true) a' w' S μ Hc) := by
     intro hw hst
     have hst' := zn6 hagree hst
     unfold zu1 wpList
     rw [if_pos hw]
     refine .inl ?_
     unfold z3I at hst'
     split at hst'
     ·rename_i f args ts hop
      obtain ⟨X,hX,hargs,hXv⟩ := hst'
      subst hXv
      unfold Oper.wp
      rw [zlE hX.1 hop rfl]
      have hc := zwd hX hargs hJ.rel hGj (vs := args.toList.map a.eval) (by rw [List.length_map,List.length_map,List.length_map]) (fun i d v hd hv=>by
       rw [List.getElem?_map,List.getElem?_map] at hd
       rw [List.getElem?_map] at hv
       cases hx : args.toList[i]? with
       |none=>rw [hx] at hd;cases hd
       |some x =>
        rw [hx] at hd hv
        simp only [Option.map_some,Option.some.injEq] at hd hv
        subst hd hv
        exact (hfrj.ev hGj x).toRo hJ.rel)
      have e : (args.toList.map a.eval).toArray = args.map a.eval := by rw [← Array.toList_map,Array.toArray_toList]
      rw [e] at hc
      refine hc.mono fun e w' ⟨v,S',he,hr',hrep,hst2,hbel⟩=>?_
      subst he
      exact ⟨rfl,S',μ,Hc,upd hHDq hr' hst2 fun _ _=>hrep⟩
     ·obtain ⟨hq,hst'⟩ := hst'
      have hpost := zfK hst' hJ.rel hfrj hGj (fun e a' w'=>e = .normal ∧ ∃ S μ Hc,JY kc n N ops B hs T (zNg T ops vs) w0 S0 μ0 (listed.setIfInBounds j true) a' w' S μ Hc)
      refine _root_.Go.Proofs.Ytaaogcnjfkgnoaa.Oper.wp_next hpost ?_
      rintro a' w' ⟨d,u,H',S',μ',⟨rfl,rfl⟩,rfl,hrep,hr',hst2,hqq⟩
      obtain ⟨_,rfl,_⟩ := hqq hq
      exact ⟨rfl,S',_,_,upd hHDq hr' hst2 fun _ _=>hrep⟩
    have hdo : ∀ (hw : Region.wanted o (yielded ops.toArray a.tmps) = true),z3I P G o ⟨zLc kc ops [] hs j,zNg T (ops.take j) (vs.take j)⟩ (· = vs.getD j .nil) → zu1 P ops.toArray o a w (fun a' w'=>∃ S μ Hc,JY kc n N ops B hs T (zNg T ops vs) w0 S0 μ0 (listed.setIfInBounds j true) a' w' S μ Hc) := by
     intro hw hst0
     obtain ⟨X,hX⟩ := hHj hna
     exact hdoH hw (by rw [hX];exact zr4 hst0)
    rcases hfact with hfact|⟨lt,lx,hlo,hlg,hlf⟩
    rotate_left
    ·
     have notB : ∀ (i : Nat) (oi : Oper),ops[i]? = some oi → listed.getD i false = true → anc ops i j = false := fun i oi hoi hli=>nb fun ha=>by
      have := hafter2 i j hli ha
      rw [hjf] at this;cases this
     have lowL : ∀ q,(∀ (k : Nat) (oi : Oper),ops[k]? = some oi → zLq kc oi.op ≠ 0 → listed.getD k false = true → k < q) → loI kc ops (zMx ops []) j ≤ q := fun q hmx=>by
      rcases zlC (kc := kc) ops j with ⟨e2,_⟩|⟨p,op',hp,e2,hop,hcp,hap,_⟩
      ·omega
      ·have := hmx p op' hop hcp (hafter p hap);omega
     obtain ⟨q,X,hq,hX,hnB,hlw⟩ : ∃ q X,q ≤ ops.length ∧ Hc = hs q ++ X ∧ zx6 kc ops 0 q j ∧ loI kc ops (zMx ops []) j ≤ q := by
      rcases hJ.hd with ⟨k,ok',hk',hw',hl,hmax,hall,e⟩|⟨hnow,e⟩|⟨q,oq,o1,t,x,y,hq,hcq,hq1,hcq1,hod,hlq,hlq1,hmax,hlow,e,_,_,_⟩
      ·refine ⟨k + 1,[],by have := (List.getElem?_eq_some_iff.1 hk').1;omega,by rw [e,List.append_nil],fun i oi hoi hci _ hik=>notB i oi hoi (hall i oi hoi hci (by omega)),lowL _ fun k2 o2 h1 h2 h3=>by have := hmax k2 o2 h1 h2 h3;omega⟩
      ·exact ⟨0,[],Nat.zero_le _,by rw [e,hs0,List.append_nil],fun i oi hoi hci _ hik=>by omega,lowL _ fun k2 o2 h1 h2 h3=>by rw [hnow k2 o2 h1 h2] at h3;cases h3⟩
      ·refine ⟨q,[⟨0,t,0,[]⟩] ++ [y],by have := (List.getElem?_eq_some_iff.1 hq).1;omega,by rw [e,List.append_assoc],fun i oi hoi hci _ hik=>notB i oi hoi (hlow i oi hoi hci hik),?_⟩
       rcases zlC (kc := kc) ops j with ⟨e2,_⟩|⟨p,op',hp,e2,hop,hcp,hap,_⟩
       ·omega
       ·have h1 := hmax p op' hop hcp (hafter p hap)
        have h2 : p ≠ q := fun e=>by subst e;rw [hafter p hap] at hlq;cases hlq
        have h3 : p ≠ q + 1 := fun e=>by
         subst e
         rw [hafter q (odd_no hod hjl hap)] at hlq;cases hlq
        omega
     refine hdoH ?_ ?_
     ·rcases hlg with hg|⟨k,want,t,hgd,ht,hb⟩
      ·simp [Region.wanted,hg]
      ·have htL : t ∈ L := List.mem_append_right _ (by simp only [hgd,ht];simp)
       have hy : yielded ops.toArray a.tmps k = some want := za4 hfrj ht (by
        show get (L.map fun t=>(t,get _ t)) t = _
        rw [(hTj L _ t).1 htL];exact hb)
       simp [Region.wanted,hgd,hy]
     rw [hX]
     refine zr4 ?_
     have this : zjK (z1T P lt) (hs q) (ev G (zNg T (ops.take j) (vs.take j)) lx) (· = vs.getD j .nil) := hlf (hs q) ⟨q,hq,rfl,hnB,hlw⟩
     obtain ⟨dst,op,ty,pos,af,gd⟩ := o
     dsimp only at hlo
     subst hlo
     refine ⟨rfl,?_⟩
     rw [zBP]
     exact zcx (fun d e=>⟨rfl,e⟩) this
    unfold zq7 at hfact
    split at hfact
    ·rename_i hgd
     exact hdo (by simp [Region.wanted,hgd]) hfact
    ·rename_i k want hgd
     obtain ⟨t,ht,⟨b,hb,hyes,hno⟩|⟨⟨q,hb⟩,hno⟩⟩ := hfact
     ·have htL : t ∈ L := List.mem_append_right _ (by simp only [hgd,ht];simp)
      have hy : yielded ops.toArray a.tmps k = some b := za4 hfrj ht (by
       show get (L.map fun t=>(t,get _ t)) t = _
       rw [(hTj L _ t).1 htL];exact hb)
      by_cases e : b = want
      ·exact hdo (by simp [Region.wanted,hgd,hy,e]) (hyes e)
      ·unfold zu1 wpList
       rw [if_neg (by simp [Region.wanted,hgd,hy,e])]
       exact ⟨rfl,S,μ,Hc,upd hHDq hJ.rel (Step.refl _ _ _ _ _) fun _ _=>by rw [hno e];exact zqv _ _⟩
     ·have htL : t ∈ L := List.mem_append_right _ (by simp only [hgd,ht];simp)
      have hy : yielded ops.toArray a.tmps k = none := zhB hfrj ht (q := q) (by
       show get (L.map fun t=>(t,get _ t)) t = _
       rw [(hTj L _ t).1 htL];exact hb)
      unfold zu1 wpList
      rw [if_neg (by simp [Region.wanted,hgd,hy])]
      exact ⟨rfl,S,μ,Hc,upd hHDq hJ.rel (Step.refl _ _ _ _ _) fun _ _=>by rw [hno];exact zqv _ _⟩
 ·
  rintro listed a w hall ⟨S,μ,Hc,hJ⟩
  have hall' : ∀ (k : Nat) (o : Oper),ops[k]? = some o → listed.getD k false = true := fun k o ho=>hall k (by simpa using (List.getElem?_eq_some_iff.1 ho).1)
  have hHc : Hc = hs ops.length := by
   rcases hJ.hd with ⟨k,ok',hk',hw',hl,hmax,_,e⟩|⟨hnos,e⟩|⟨q,oq,o1,t,x,y,hq,hcq,hq1,hcq1,hod,hlq,_⟩
   ·rw [e]
    refine (hsc' (k + 1) ops.length (by have := (List.getElem?_eq_some_iff.1 hk').1;omega) (Nat.le_refl _) fun i oi h1 h2 hoi=>z0 fun hi=>?_).symm
    have := hmax i oi hoi hi (hall' i oi hoi);omega
   ·rw [e,← hs0]
    refine (hsc' 0 ops.length (Nat.zero_le _) (Nat.le_refl _) fun i oi h1 h2 hoi=>z0 fun hi=>?_).symm
    have := hnos i oi hoi hi;rw [hall' i oi hoi] at this;cases this
   ·rw [hall' q oq hq] at hlq;cases hlq
  subst hHc
  refine ⟨⟨hs ops.length,zNg T ops vs⟩,S,μ,hend,hJ.rel,⟨hJ.size,hJ.nodef,fun i=>hJ.slot i ?_⟩,hJ.step⟩
  by_cases hi : ∃ (k : Nat) (o : Oper),ops[k]? = some o ∧ o.dst = some i
  ·obtain ⟨k,o,ho,hd⟩ := hi
   exact .inr ⟨k,o,ho,hd,hall' k o ho⟩
  ·refine .inl fun o ho e=>?_
   obtain ⟨k,hk⟩ := List.getElem?_of_mem ho
   exact hi ⟨k,o,hk,e⟩
 ·
  intro listed hl
  obtain ⟨r,st⟩ := hrel.grow (w' := w0.drew) ((Below.refl _ _).drew) (fun _ _ _ q=>q) (fun _ _ _ q=>.inl q) (fun b j d q hb=>by have := hrel.still_lt q;omega)
  refine ⟨S0,μ0,B, .inr (.inl ⟨fun k o _ _=>hl k,rfl⟩),r,st.less hn,hn,hfr.size,hfr.nodef,fun t ht=>?_,fun t _=>hfr.slot t⟩
  rcases ht with hu|⟨k,o,_,_,h⟩
  ·rw [za3 _ _ _ _ hu];exact hfr.slot t
  ·rw [hl k] at h;cases h
end
end Go.Proofs.Ytaaogcnjfkgnoaa

namespace Go.Proofs.Ytaaogcnjfkgnoaa
open Go.RowKit
section
variable {R : Type}
abbrev RO := Option (AV × List AObj)
def z0C (b : Bool) (x : Option R) : Option R := match b with|true=>x|false=>none
theorem z05 {b : Bool} {x : Option R} {r : R} (h : z0C b x = some r) : b = true ∧ x = some r := by
 cases b with
 |true=>exact ⟨rfl,h⟩
 |false=>cases h
theorem zcp {x : Option R} : z0C true x = x := rfl
theorem zxR {x : Option R} : z0C false x = none := rfl
def zLl (l : List AV) (i : Nat) (K : AV → Option R) : Option R := match l[i]? with|some d=>K d|none=>none
theorem ztX {l : List AV} {i : Nat} {K : AV → Option R} {r : R} (h : zLl l i K = some r) : nth l i fun d=>K d = some r := by
 unfold zLl at h
 split at h
 ·rename_i d hd;exact ⟨d,hd,h⟩
 ·cases h
def z2Q (H : List AObj) (i : Nat) (K : AObj → Option R) : Option R := match H[i]? with|some d=>K d|none=>none
theorem zmp {H : List AObj} {i : Nat} {K : AObj → Option R} {r : R} (h : z2Q H i K = some r) : zMZ H i fun d=>K d = some r := by
 unfold z2Q at h
 split at h
 ·rename_i d hd;exact ⟨d,hd,h⟩
 ·cases h
def zKO (op : BinOp) (k : IntKind) (a : Int) (k' : IntKind) (b : Int) (K : AV → Option R) : Option R :=
 match op with
 |.add=>z0C (decide (k = k')) (K (V (.int k (k.wrap (a + b)))))
 |.sub=>z0C (decide (k = k')) (K (V (.int k (k.wrap (a - b)))))
 |.mul=>z0C (decide (k = k')) (K (V (.int k (k.wrap (a * b)))))
 |.quo=>z0C (decide (k = k')) (z0C (decide (¬ b = 0)) (K (V (.int k (k.wrap (a.tdiv b))))))
 |.rem=>z0C (decide (k = k')) (z0C (decide (¬ b = 0)) (K (V (.int k (a.tmod b)))))
 |.and=>z0C (decide (k = k')) (K (V (.int k (bits .and k a b))))
 |.or=>z0C (decide (k = k')) (K (V (.int k (bits .or k a b))))
 |.xor=>z0C (decide (k = k')) (K (V (.int k (bits .xor k a b))))
 |.andNot=>z0C (decide (k = k')) (K (V (.int k (bits .andNot k a b))))
 |.shl=>z0C (decide (0 ≤ b)) (K (V (.int k (k.wrap (a * 2 ^ (min b.toNat k.bits))))))
 |.shr=>z0C (decide (0 ≤ b)) (K (V (.int k (a.fdiv (2 ^ (min b.toNat k.bits))))))
 |.eql=>z0C (decide (k = k')) (K (V (.bool (decide (a = b)))))
 |.neq=>z0C (decide (k = k')) (K (V (.bool (!decide (a = b)))))
 |.lss=>z0C (decide (k = k')) (K (V (.bool (decide (a < b)))))
 |.leq=>z0C (decide (k = k')) (K (V (.bool (decide (a ≤ b)))))
 |.gtr=>z0C (decide (k = k')) (K (V (.bool (decide (b < a)))))
 |.geq=>z0C (decide (k = k')) (K (V (.bool (decide (b ≤ a)))))
theorem zBL {op : BinOp} {k k' : IntKind} {a b : Int} {K : AV → Option R} {r : R} (h : zKO op k a k' b K = some r) : zKY op k a k' b fun d=>K d = some r := by
 have e1 : (a == b) = decide (a = b) := rfl
 have e2 : (a != b) = !decide (a = b) := rfl
 cases op <;> simp only [zKO,zKY,e1,e2] at h ⊢ <;> obtain ⟨h1,h2⟩ := z05 h <;> first
  |exact ⟨of_decide_eq_true h1,h2⟩
  |(obtain ⟨h3,h4⟩ := z05 h2;exact ⟨of_decide_eq_true h1,of_decide_eq_true h3,h4⟩)
def zLS (op : BinOp) (a b : ByteArray) (K : AV → Option R) : Option R :=
 match op with
 |.add=>z0C (decide (((a.size + b.size : Nat) : Int) ≤ 9223372036854775807)) (K (V (.string ⟨(a.data.toList ++ b.data.toList).toArray⟩)))
 |.eql=>K (V (.bool (decide (a.data.toList = b.data.toList))))
 |.neq=>K (V (.bool (!decide (a.data.toList = b.data.toList))))
 |.lss=>K (V (.bool (Op.bytesLess a.data.toList b.data.toList)))
 |.leq=>K (V (.bool (Op.bytesLess a.data.toList b.data.toList || decide (a.data.toList = b.data.toList))))
 |.gtr=>K (V (.bool (!(Op.bytesLess a.data.toList b.data.toList || decide (a.data.toList = b.data.toList)))))
 |.geq=>K (V (.bool (!Op.bytesLess a.data.toList b.data.toList)))
 |_=>none
theorem zqq (a : ByteArray) : a.toList = a.data.toList := by
 obtain ⟨⟨l⟩⟩ := a
 exact zyh
theorem zEL (a b : ByteArray) : a ++ b = ⟨(a.data.toList ++ b.data.toList).toArray⟩ := by
 apply ByteArray.ext
 simp [ByteArray.data_append]
theorem zEz {op : BinOp} {a b : ByteArray} {K : AV → Option R} {r : R} (h : zLS op a b K = some r) : zNw op a b fun d=>K d = some r := by
 have e1 : (a.data.toList == b.data.toList) = decide (a.data.toList = b.data.toList) := by rw [Bool.eq_iff_iff];simp
 cases op <;> simp only [zLS,zNw,zqq,zEL,e1] at h ⊢ <;> first|exact h|(obtain ⟨h1,h2⟩ := z05 h;exact ⟨of_decide_eq_true h1,h2⟩)|(cases h)
end
end Go.Proofs.Ytaaogcnjfkgnoaa

namespace Go.Proofs.Ytaaogcnjfkgnoaa
open Go.RowKit
section
variable {R : Type} {P : Program} {G : Gl}
def z7K (k : Nat) (l : List AV) (o : Nat) (K : AV → Option R) : Option R :=
 match k with
 |0=>none
 |1=>zLl l o K
 |k + 2=>z0C (decide (o + k ≤ l.length)) (K (.agg ((l.drop o).take k)))
theorem zbP {k : Nat} {l : List AV} {o : Nat} {K : AV → Option R} {r : R} (h : z7K k l o K = some r) : z6R k l o fun d=>K d = some r := by
 unfold z6R
 match k,h with
 |1,h=>rw [if_pos rfl];exact ztX h
 |k + 2,h =>
  rw [if_neg (by omega)]
  obtain ⟨h1,h2⟩ := z05 h
  exact ⟨by omega,by simpa using h1,h2⟩
def zjw (ob : AObj) (K : List AV → Option R) : Option R := match ob.k with
 |1=>K ob.c
 |4=>z0C (decide (0 < ob.c.length)) (K (zN0 ob.c))
 |_=>none
theorem zvF {ob : AObj} {K : List AV → Option R} {r : R} (h : zjw ob K = some r) : zjr ob fun l=>K l = some r := by
 unfold zjw at h
 unfold zjr
 split at h
 ·rename_i e;rw [e];exact h
 ·rename_i e;rw [e];obtain ⟨h1,h2⟩ := z05 h;exact ⟨of_decide_eq_true h1,h2⟩
 ·cases h
def z04 (k : Nat) (H : List AObj) (a : AV) (K : AV → Option R) : Option R :=
 match a with
 |.ptr (.agg cs)=>z0C (decide (k = cs.length + 2)) (K (.agg cs))
 |.ptr d=>z0C (decide (k = 1)) (K d)
 |.held (.inr (.inl (i,o)))=>z2Q H i fun ob=>zjw ob fun l=>z7K k l o K
 |_=>none
theorem zma {k : Nat} {H : List AObj} {a : AV} {K : AV → Option R} {r : R} (h : z04 k H a K = some r) : zjK k H a fun d=>K d = some r := by
 unfold z04 at h
 unfold zjK
 split at h
 ·obtain ⟨h1,h2⟩ := z05 h;exact ⟨of_decide_eq_true h1,h2⟩
 ·rename_i d hne
  obtain ⟨h1,h2⟩ := z05 h
  split
  ·rename_i e;injection e with e;subst e;exact absurd rfl (hne _)
  ·rename_i d' _ e;injection e with e;subst e;exact ⟨of_decide_eq_true h1,h2⟩
  ·rename_i e;cases e
  ·rename_i e1 e2;exact absurd rfl (e1 _)
 ·obtain ⟨ob,h1,h2⟩ := zmp h
  exact ⟨ob,h1,zjv (zvF h2) fun l q=>zbP q⟩
 ·cases h
def zKS (ob : AObj) (k o : Nat) (x : AV) (K : AObj → Option R) : Option R := z0C (decide (¬ k = 0) && decide ((cellsOf x).length = zMH k) && (cellsOf x).all zN7) (match ob.k with
 |1=>z0C (decide (o + zMH k ≤ ob.c.length)) (K { ob with c := z09 ob.c o (cellsOf x) })
 |4=>z0C (decide (0 < ob.z) && decide (zMH k = ob.z) && decide (o % ob.z = 0) && decide (o / ob.z < ob.c.length)) (K { ob with c := ob.c.set (o / ob.z) x })
 |_=>none)
theorem zE8 {ob : AObj} {k o : Nat} {x : AV} {K : AObj → Option R} {r : R} (h : zKS ob k o x K = some r) : zN8 ob k o x fun d=>K d = some r := by
 obtain ⟨kk,te,z,c⟩ := ob
 obtain ⟨h1,h2⟩ := z05 h
 simp only [Bool.and_eq_true,decide_eq_true_eq] at h1
 refine ⟨h1.1.1,h1.1.2,h1.2,?_⟩
 dsimp only at h2 ⊢
 split at h2
 ·obtain ⟨h3,h4⟩ := z05 h2;exact ⟨of_decide_eq_true h3,h4⟩
 ·obtain ⟨h3,h4⟩ := z05 h2
  simp only [Bool.and_eq_true,decide_eq_true_eq] at h3
  exact ⟨h3.1.1.1,h3.1.1.2,h3.1.2,h3.2,h4⟩
 ·cases h2
def z0I (k : Nat) (H : List AObj) (a x : AV) (K : List AObj → Option R) : Option R :=
 match a with
 |.held (.inr (.inl (i,o)))=>z2Q H i fun ob=>zKS ob k o x fun ob'=>K (H.set i ob')
 |_=>none
theorem zrz {k : Nat} {H : List AObj} {a x : AV} {K : List AObj → Option R} {r : R} (h : z0I k H a x K = some r) : zpz k H a x fun d=>K d = some r := by
 unfold z0I at h
 unfold zpz
 split at h
 ·obtain ⟨ob,h1,h2⟩ := zmp h
  exact ⟨ob,h1,zri (zE8 h2) fun _ q=>q⟩
 ·cases h
def z02 (fk : Option (Nat × Nat)) (a : AV) (K : AV → Option R) : Option R :=
 match fk with
 |some (off,k)=>match a with
  |.ptr (.agg cs)=>z7K k cs off fun d=>K (.ptr d)
  |.held (.inr (.inl (i,o)))=>K (OP i (o + off))
  |_=>none
 |none=>none
theorem zur {fk : Option (Nat × Nat)} {a : AV} {K : AV → Option R} {r : R} (h : z02 fk a K = some r) : zm6 fk a fun d=>K d = some r := by
 unfold z02 at h
 unfold zm6
 split at h
 ·split at h
  ·exact zbP h
  ·exact h
  ·cases h
 ·cases h
def zpE (fk : Option (Nat × Nat)) (a : AV) (K : AV → Option R) : Option R :=
 match fk with
 |some (off,k)=>match a with
  |.agg cs=>z7K k cs off K
  |_=>none
 |none=>none
theorem zsB {fk : Option (Nat × Nat)} {a : AV} {K : AV → Option R} {r : R} (h : zpE fk a K = some r) : zfj fk a fun d=>K d = some r := by
 unfold zpE at h
 unfold zfj
 split at h
 ·split at h
  ·exact zbP h
  ·cases h
 ·cases h
def zbK (H : List AObj) (x : AV) (K : List AV → Option R) : Option R :=
 match x with
 |.slice es []=>K es
 |.held (.inr (.inr (i,n)))=>z2Q H i fun o=>z0C (decide (o.k = 2) && decide (n = o.c.length)) (K o.c)
 |.held (.inl (.slice none 0 0))=>K []
 |.slice _ [.held (.inl (.bool _))]=>K []
 |_=>none
theorem zlg {H : List AObj} {x : AV} {K : List AV → Option R} {r : R} (h : zbK H x K = some r) : z8K H x fun d=>K d = some r := by
 unfold zbK at h
 unfold z8K
 split at h
 ·exact h
 ·obtain ⟨ob,h1,h2⟩ := zmp h
  obtain ⟨h3,h4⟩ := z05 h2
  simp only [Bool.and_eq_true,decide_eq_true_eq] at h3
  exact ⟨ob,h1,h3.1,h3.2,h4⟩
 ·exact h
 ·exact h
 ·cases h
def z3H (ek : Nat) (H : List AObj) (x ix : AV) (K : AV → Option R) : Option R :=
 match ix with
 |.held (.inl (.int k i))=>z0C (decide (0 ≤ i)) (match x with
  |.slice _ [.held (.inr (.inl (q,n)))]=>z0C (decide (i < n)) (z2Q H q fun ob=>z0C (decide (ob.k = 4) && decide (ob.z = zMH ek) && decide (n = ob.c.length)) (K (OP q (i.toNat * zMH ek))))
  |x=>zbK H x fun es=>zLl es i.toNat fun d=>z0C (decide ((cellsOf d).length = zMH ek)) (K (.ptr d)))
 |_=>none
theorem zz3 {ek : Nat} {H : List AObj} {x ix : AV} {K : AV → Option R} {r : R} (h : z3H ek H x ix K = some r) : zfE ek H x ix fun d=>K d = some r := by
 unfold z3H at h
 unfold zfE
 split at h
 ·obtain ⟨h1,h2⟩ := z05 h
  refine ⟨of_decide_eq_true h1,?_⟩
  split at h2
  ·obtain ⟨a1,a2⟩ := z05 h2
   obtain ⟨ob,a3,a4⟩ := zmp a2
   obtain ⟨a5,a6⟩ := z05 a4
   simp only [Bool.and_eq_true,decide_eq_true_eq] at a5
   exact ⟨of_decide_eq_true a1,ob,a3,a5.1.1,a5.1.2,a5.2,a6⟩
  rename_i hne
  split
  ·exact (hne _ _ _ rfl).elim
  refine z3m (zlg h2) fun es q=>?_
  obtain ⟨d,h3,h4⟩ := ztX q
  obtain ⟨h5,h6⟩ := z05 h4
  exact ⟨d,h3,of_decide_eq_true h5,h6⟩
 ·cases h
def zx3 (n ek : Nat) (x ix : AV) (K : AV → Option R) : Option R :=
 match ix with
 |.held (.inl (.int _ i))=>z0C (decide (0 ≤ i) && decide (i < n)) (match x with
  |.ptr (.agg cs)=>z7K ek cs (i.toNat * zMH ek) fun d=>K (.ptr d)
  |.held (.inr (.inl (j,q)))=>K (OP j (q + i.toNat * zMH ek))
  |_=>none)
 |_=>none
def zG9 (st : Option (TypeId × Nat)) (at_ : Option (Nat × Nat)) (H : List AObj) (x ix : AV) (K : AV → Option R) : Option R :=
 match st with
 |some (_,ek)=>z3H ek H x ix K
 |none=>match at_ with
  |some (n,ek)=>zx3 n ek x ix K
  |none=>none
theorem zyO {t : TypeId} {H : List AObj} {x ix : AV} {K : AV → Option R} {r : R} (h : zG9 (zeD P t) (zl1 P t) H x ix K = some r) : zed P t H x ix fun d=>K d = some r := by
 unfold zG9 at h
 unfold zed
 generalize zeD P t = st at h ⊢
 generalize zl1 P t = at_ at h ⊢
 rcases st with _|⟨e,ek⟩
 rotate_left
 ·exact zz3 h
 ·rcases at_ with _|⟨m,ek⟩
  rotate_left
  ·dsimp only at h ⊢
   unfold zx3 at h
   split at h
   ·obtain ⟨h1,h2⟩ := z05 h
    simp only [Bool.and_eq_true,decide_eq_true_eq] at h1
    refine ⟨h1.1,h1.2,?_⟩
    split at h2
    ·exact zbP h2
    ·exact h2
    ·cases h2
   ·cases h
  ·cases h
def zLZ (isS isL : Bool) (H : List AObj) (x : AV) (K : AV → Option R) : Option R :=
 match x with
 |.held (.inl (.string s))=>z0C isS (K (V (.int .i64 s.data.toList.length)))
 |.slice _ [.held (.inr (.inl (_,n)))]=>z0C isL (K (V (.int .i64 n)))
 |.held (.inr (.inr (_,n)))=>z0C isL (K (V (.int .i64 n)))
 |x=>z0C isL (zbK H x fun es=>K (V (.int .i64 es.length)))
def z8A (P : Program) (t : TypeId) : Bool := match P.underlying t with|some .string=>true|_=>false
theorem zb6 {t : TypeId} (h : z8A P t = true) : P.underlying t = some .string := by
 unfold z8A at h
 split at h
 ·assumption
 ·cases h
def zmQ (P : Program) (t : TypeId) : Bool := match P.underlying t with|some .bool=>true|_=>false
theorem zt5 {t : TypeId} (h : zmQ P t = true) : P.underlying t = some .bool := by
 unfold zmQ at h
 split at h
 ·assumption
 ·cases h
theorem lenE_ok {t : TypeId} {H : List AObj} {x : AV} {K : AV → Option R} {r : R} (h : zLZ  (z8A    P t) (zeD    P t).isSome H x K = some r) : zNC  P t H x fun d => K d = some r := by
  unfold zLZ  at h
  unfold zNC 
  split at h
  · rename_i s
    obtain ⟨h1, h2⟩ := z05        h
    exact ⟨zb6       h1, by have e : s.size = s.data.toList.length := rfl
                            rw [e]; exact h2⟩
  · exact z05        h
  · exact z05        h
  · rename_i x hne hne2 hne3
    obtain ⟨h1, h2⟩ := z05        h
    split
    · rename_i s; exact absurd rfl (hne s)
    · exact (hne2 _ _ _ rfl).elim
    · exact (hne3 _ _ rfl).elim
    · exact ⟨h1, zlg       h2⟩
def zs3 (z : Nat) (es : List AV) : Bool := es.all fun d=>decide ((cellsOf d).length = z)
theorem zql {z : Nat} {es : List AV} (h : zs3 z es = true) : allC z es := fun d hd=>by
 have := List.all_eq_true.1 h d hd
 exact of_decide_eq_true this
def zNh (at_ : Option (TypeId × Nat)) (H : List AObj) (x y : AV) (K : AV → List AObj → Option R) : Option R :=
 match at_ with
 |some (e,z)=>zbK H y fun es=>z0C (zs3 z es) (match x with
  |.held (.inl (.slice none 0 0))=>z0C (decide (es.length ≤ 34359738368)) (K (OW H.length es.length) (H ++ [⟨2,e,z,es⟩]))
  |.slice _ [.held (.inl (.bool _))]=>z0C (decide (es.length ≤ 34359738368)) (K (OW H.length es.length) (H ++ [⟨2,e,z,es⟩]))
  |.held (.inr (.inr (i,n)))=>z2Q H i fun ob=>z0C (decide (ob.k = 2) && decide (ob.e = e) && decide (ob.z = z) && decide (n = ob.c.length) && decide (n + es.length ≤ 34359738368)) (K (OW i (n + es.length)) (H.set i { ob with c := ob.c ++ es }))
  |_=>none)
 |none=>none
theorem zy1 {t : TypeId} {H : List AObj} {x y : AV} {K : AV → List AObj → Option R} {r : R} (h : zNh (zKT P t) H x y K = some r) : zMB P t H x y fun d H'=>K d H' = some r := by
 unfold zNh at h
 unfold zMB
 generalize zKT P t = st at h ⊢
 rcases st with _|⟨e,z⟩
 rotate_left
 ·refine z3m (zlg h) fun es q=>?_
  obtain ⟨h1,h2⟩ := z05 q
  refine ⟨zql h1,?_⟩
  split at h2
  ·obtain ⟨h3,h4⟩ := z05 h2
   exact ⟨of_decide_eq_true h3,h4⟩
  ·obtain ⟨h3,h4⟩ := z05 h2
   exact ⟨of_decide_eq_true h3,h4⟩
  ·obtain ⟨ob,h3,h4⟩ := zmp h2
   obtain ⟨h5,h6⟩ := z05 h4
   simp only [Bool.and_eq_true,decide_eq_true_eq] at h5
   exact ⟨ob,h3,h5.1.1.1.1,h5.1.1.1.2,h5.1.1.2,h5.1.2,h5.2,h6⟩
  ·cases h2
 ·cases h
def zxA (at_ : Option (TypeId × Nat)) (H : List AObj) (x y : AV) (K : AV → List AObj → Option R) : Option R := match y with
 |.held (.inl (.string q))=>zNh at_ H x (SL (zNu q)) K
 |_=>none
theorem zzq {t : TypeId} {H : List AObj} {x y : AV} {K : AV → List AObj → Option R} {r : R} (h : zxA (zKT P t) H x y K = some r) : zwT P t H x y fun d H'=>K d H' = some r := by
 unfold zxA at h
 unfold zwT
 split at h
 ·exact zy1 h
 ·cases h
abbrev zHa (same isS : Bool) (at_ : Option (TypeId × Nat)) (H : List AObj) (x y : AV) (K : AV → List AObj → Option R) : Option R := match same with
 |true=>zNh at_ H x y K
 |false=>z0C isS (zxA at_ H x y K)
def zMn (x : Option AV) (d : Int) (K : Int → Option R) : Option R :=
 match x with
 |none=>K d
 |some (.held (.inl (.int _ i)))=>K i
 |_=>none
theorem zqX {x : Option AV} {d : Int} {K : Int → Option R} {r : R} (h : zMn x d K = some r) : asI x d fun i=>K i = some r := by
 unfold zMn at h
 unfold asI
 split at h
 ·exact h
 ·exact h
 ·cases h
def zhk (isS : Bool) (st : Option (TypeId × Nat)) (H : List AObj) (x : AV) (lo hi : Option AV) (K : AV → Option R) : Option R :=
 match x with
 |.held (.inl (.string s))=>z0C isS (zMn lo 0 fun l=>zMn hi s.data.toList.length fun h=>z0C (decide (0 ≤ l) && decide (l ≤ h) && decide (h ≤ s.data.toList.length)) (K (V (.string ⟨((s.data.toList.take h.toNat).drop l.toNat).toArray⟩))))
 |x=>match st with
  |some (_,ek)=>zbK H x fun es=>z0C (zs3 (zMH ek) es) (zMn lo 0 fun l=>zMn hi es.length fun h=>z0C (decide (0 ≤ l) && decide (l ≤ h) && decide (h ≤ es.length)) (K (SL (zL8 es l h))))
  |none=>none
theorem zBq (s : ByteArray) (l h : Nat) : s.extract l h = ⟨((s.data.toList.take h).drop l).toArray⟩ := by
 obtain ⟨⟨q⟩⟩ := s
 rw [zCz]
 show ByteArray.mk _ = ByteArray.mk ((q.take h).drop l).toArray
 rw [List.drop_take]
theorem zvh {t : TypeId} {H : List AObj} {x : AV} {lo hi : Option AV} {K : AV → Option R} {r : R} (h : zhk (z8A P t) (zeD P t) H x lo hi K = some r) : zkW P t H x lo hi fun d=>K d = some r := by
 unfold zhk at h
 unfold zkW
 split at h
 ·rename_i s
  obtain ⟨h1,h2⟩ := z05 h
  refine ⟨zb6 h1,z8Z (zqX h2) fun l hl=>z8Z (zqX hl) fun q hq=>?_⟩
  obtain ⟨h3,h4⟩ := z05 hq
  simp only [Bool.and_eq_true,decide_eq_true_eq] at h3
  refine ⟨h3.1.1,h3.1.2,h3.2,?_⟩
  rw [zBq];exact h4
 ·rename_i x hne
  split
  ·rename_i s;exact absurd rfl (hne s)
  ·generalize zeD P t = st at h ⊢
   rcases st with _|⟨e,ek⟩
   rotate_left
   ·refine z3m (zlg h) fun es q=>?_
    obtain ⟨h1,h2⟩ := z05 q
    refine ⟨zql h1,z8Z (zqX h2) fun l hl=>z8Z (zqX hl) fun q hq=>?_⟩
    obtain ⟨h3,h4⟩ := z05 hq
    simp only [Bool.and_eq_true,decide_eq_true_eq] at h3
    exact ⟨h3.1.1,h3.1.2,h3.2,h4⟩
   ·cases h
def zA8 (isS : Bool) (at_ : Option (Nat × Nat)) (x ix : AV) (K : AV → Option R) : Option R :=
 match ix with
 |.held (.inl (.int _ i))=>(match x with
  |.held (.inl (.string s))=>z0C (isS && decide (0 ≤ i) && decide (i < s.data.toList.length)) (K (V (.int .u8 ((s.data.toList.getD i.toNat 0).toNat : Int))))
  |.agg cs=>(match at_ with
   |some (n,ek)=>z0C (decide (0 ≤ i) && decide (i < n)) (z7K ek cs (i.toNat * zMH ek) K)
   |none=>none)
  |_=>none)
 |_=>none
theorem zzw {t : TypeId} {x ix : AV} {K : AV → Option R} {r : R} (h : zA8 (z8A P t) (zl1 P t) x ix K = some r) : zfC P t x ix fun d=>K d = some r := by
 unfold zA8 at h
 unfold zfC
 split at h
 ·split at h
  ·rename_i s
   obtain ⟨h1,h2⟩ := z05 h
   simp only [Bool.and_eq_true,decide_eq_true_eq] at h1
   exact ⟨zb6 h1.1.1,h1.1.2,h1.2,h2⟩
  ·generalize zl1 P t = at_ at h ⊢
   rcases at_ with _|⟨m,ek⟩
   rotate_left
   ·obtain ⟨h1,h2⟩ := z05 h
    simp only [Bool.and_eq_true,decide_eq_true_eq] at h1
    exact ⟨h1.1,h1.2,zbP h2⟩
   ·cases h
  ·cases h
 ·cases h
def zMC (x : AV) (K : AV → Option R) : Option R := match x with
 |.held (.inr (.inl (i,q)))=>K (OP i q)
 |.ptr d=>K (.ptr d)
 |_=>none
theorem zDA {x : AV} {K : AV → Option R} {r : R} (h : zMC x K = some r) : zMO x fun d=>K d = some r := by
 unfold zMC at h
 unfold zMO
 split at h
 ·exact h
 ·exact h
 ·cases h
def zsa (isS : Bool) (dk : Option IntKind) (srcOk isB isT : Bool) (x : AV) (K : AV → Option R) : Option R := match x with
 |.held (.inl (.int _ n))=>z0C srcOk (match dk with|some k=>K (V (.int k (k.wrap n)))|none=>none)
 |.held (.inl (.string s))=>(match isT with|true=>z0C (decide (s.size ≤ 34359738368)) (K (SL (zNu s)))|false=>z0C isS (K (V (.string s))))
 |.slice es []=>z0C isB (match zgA es with|some l=>K (V (.string ⟨l.toArray⟩))|none=>none)
 |_=>none
theorem zzY {src dst : TypeId} {x : AV} {K : AV → Option R} {r : R} (h : zsa (z8A P src && z8A P dst) (zMu P dst) (P.underlying src).isSome (zKX P src && z8A P dst) (z8A P src && zKX P dst) x K = some r) : zs9 P src dst x fun d=>K d = some r := by
 unfold zsa at h
 unfold zs9
 split at h
 ·obtain ⟨h1,h2⟩ := z05 h
  refine ⟨h1,?_⟩
  generalize zMu P dst = dk at h2 ⊢
  rcases dk with _|k
  ·cases h2
  ·exact h2
 ·cases ht : z8A P src && zKX P dst with
  |true =>
   rw [ht] at h
   rw [Bool.and_eq_true] at ht
   obtain ⟨h1,h2⟩ := z05 (show z0C (decide _) _ = _ from h)
   exact .inr ⟨zb6 ht.1,ht.2,of_decide_eq_true h1,h2⟩
  |false =>
   rw [ht] at h
   obtain ⟨h1,h2⟩ := z05 (show z0C _ _ = _ from h)
   rw [Bool.and_eq_true] at h1
   exact .inl ⟨zb6 h1.1,zb6 h1.2,h2⟩
 ·obtain ⟨h1,h2⟩ := z05 h
  rw [Bool.and_eq_true] at h1
  refine ⟨h1.1,zb6 h1.2,?_⟩
  split at h2
  ·rename_i l hl
   rw [hl]
   exact h2
  ·cases h2
 ·cases h
def zrP : AV → Option Bool
 |.held (.inl (.bool b))=>some b
 |_=>none
theorem zs7 {x : AV} {b : Bool} (h : zrP x = some b) : x = V (.bool b) := by
 unfold zrP at h
 split at h
 ·injection h with h;subst h;rfl
 ·cases h
abbrev zzX (x : AV) (K : Bool → Option R) : Option R := Option.rec (motive := fun _=>Option R) none K (zrP x)
theorem zpk {x : AV} {K : Bool → Option R} {r : R} (h : zzX x K = some r) : ∃ b,x = V (.bool b) ∧ K b = some r := by
 cases hb : zrP x with
 |none=>rw [show zzX x K = Option.rec (motive := fun _=>Option R) none K (zrP x) from rfl,hb] at h;cases h
 |some b=>rw [show zzX x K = Option.rec (motive := fun _=>Option R) none K (zrP x) from rfl,hb] at h;exact ⟨b,zs7 hb,h⟩
abbrev zr6 (x : AV) (A B : Option R) : Option R := zzX x fun b=>Bool.rec (motive := fun _=>Option R) B A b
theorem zoW {x : AV} {A B : Option R} {r : R} (h : zr6 x A B = some r) : (x = V (.bool true) ∧ A = some r) ∨ (x = V (.bool false) ∧ B = some r) := by
 obtain ⟨b,h1,h2⟩ := zpk h
 cases b with
 |true=>exact .inl ⟨h1,h2⟩
 |false=>exact .inr ⟨h1,h2⟩
def unE (op : UnOp) (x : AV) (K : AV → Option R) : Option R :=
 match op with
 |.not=>zzX x fun b=>K (V (.bool (!b)))
 |.neg=>match x with
  |.held (.inl (.int k n))=>K (V (.int k (k.wrap (0 - n))))
  |_=>none
 |.xor=>match x with
  |.held (.inl (.int k n))=>K (V (.int k (bits .xor k (if k.signed then -1 else k.max) n)))
  |_=>none
 |.plus=>none
theorem zGU {op : UnOp} {x : AV} {K : AV → Option R} {r : R} (h : unE op x K = some r) : aUn op x fun d=>K d = some r := by
 cases op with
 |not =>
  obtain ⟨b,rfl,h⟩ := zpk (show zzX x (fun b=>K (V (.bool (!b)))) = some r from h)
  exact h
 |neg =>
  simp only [unE] at h
  unfold aUn
  split at h
  ·exact h
  ·cases h
 |xor =>
  simp only [unE] at h
  unfold aUn
  split at h
  ·exact h
  ·cases h
 |plus=>cases h
def zH2 (c x y : AV) (K : AV → Option R) : Option R := zr6 c (K x) (K y)
theorem zAg {c x y : AV} {K : AV → Option R} {r : R} (h : zH2 c x y K = some r) : zug c x y fun d=>K d = some r := by
 rcases zoW (show zr6 c (K x) (K y) = some r from h) with ⟨rfl,h⟩|⟨rfl,h⟩
 ·exact h
 ·exact h
def zLC (x : AV) (i : Nat) (K : AV → Option R) : Option R := match x with
 |.iface _ (.agg ds)=>zLl ds i K
 |_=>none
theorem zE1 {x : AV} {i : Nat} {K : AV → Option R} {r : R} (h : zLC x i K = some r) : zah x i fun d=>K d = some r := by
 unfold zLC at h
 unfold zah
 split at h
 ·exact ztX h
 ·cases h
def z1F (pl : Option (List (Nat × Nat))) (z : Option (List AV)) (ps : List (Nat × AV)) (K : AV → Option R) : Option R :=
 match pl,z with
 |some pl,some z=>(match aFill (pl[·]?) ps z with|some cs=>K (.agg cs)|none=>none)
 |_,_=>none
theorem zuL {t : TypeId} {ps : List (Nat × AV)} {K : AV → Option R} {r : R} (h : z1F (zpj P t) (zpm P t) ps K = some r) : zlS P t ps fun d=>K d = some r := by
 unfold z1F at h
 unfold zlS
 split at h
 ·rename_i h1 h2
  split at h
  ·rename_i h3;simp only [h1,h2,h3];exact h
  ·cases h
 ·cases h
def z0O (at_ : Option (TypeId × Nat)) (n : Nat) (ps : List (Nat × AV)) (K : AV → Option R) : Option R :=
 match at_ with
 |some (_,z)=>z0C (decide (ps.map (·.1) = List.range n) && zs3 z (ps.map (·.2)) && (ps.map (·.2)).all zvt && decide (n * z ≤ 16777216)) (K (bsV (ps.map (·.2))))
 |none=>none
theorem ztG {t : TypeId} {n : Nat} {ps : List (Nat × AV)} {K : AV → Option R} {r : R} (h : z0O (zKT P t) n ps K = some r) : zfa P t n ps fun d=>K d = some r := by
 unfold z0O at h
 unfold zfa
 generalize zKT P t = st at h ⊢
 rcases st with _|⟨e,z⟩
 rotate_left
 ·obtain ⟨h1,h2⟩ := z05 h
  simp only [Bool.and_eq_true,decide_eq_true_eq] at h1
  exact ⟨h1.1.1.1,zql h1.1.1.2,h1.1.2,h1.2,h2⟩
 ·cases h
def z2f (z : Option (List AV)) (t : TypeId) (H : List AObj) (K : AV → List AObj → Option R) : Option R := match z with
 |some c=>K (OP H.length 0) (H ++ [⟨1,t,0,c⟩])
 |none=>none
def zN2 (t : TypeId) (H : List AObj) (x : AV) (K : AV → List AObj → Option R) : Option R :=
 z0C ((cellsOf x).all zN7) (K (OP H.length 0) (H ++ [⟨1,t,0,cellsOf x⟩]))
end
end Go.Proofs.Ytaaogcnjfkgnoaa

namespace Go.Proofs.Ytaaogcnjfkgnoaa
open Go.RowKit
inductive CK|b|i (k : IntKind)|s
deriving DecidableEq
def zKW : CK → Value → Bool
 |.b, .bool _=>true
 |.i k, .int k' _=>decide (k' = k)
 |.s, .string _=>true
 |_,_=>false
def zFb : Value → Value → Bool
 |.bool a, .bool b=>decide (a = b)
 |.int _ a, .int _ b=>decide (a = b)
 |.string a, .string b=>decide (a.data.toList = b.data.toList)
 |_,_=>false
def ztn (P : Program) (F : TypeId → Option (List CK)) : List Field → Nat → Option (List CK)
 |[],_=>some []
 | f :: r, o => if f.name == "_" || !(f.offset == o) then none else match F f.type with
  |some ks=>if P.cellsOf f.type == ks.length then (ztn P F r (o + ks.length)).map (ks ++ ·) else none
  |none=>none
def zvG (P : Program) : Nat → TypeId → Option (List CK)
 |0,_=>none
 |d + 1,t=>match P.underlying t with
  |some .bool=>some [.b]
  |some (.int k)=>some [.i k]
  |some .string=>some [.s]
  |some (.struct fs)=>if P.stoodInHeld t then none else ztn P (zvG P d) fs.toList 0
  |_=>none
def znk : List CK → List Value → Bool
 |[],[]=>true
 |k :: ks,v :: vs=>zKW k v && znk ks vs
 |_,_=>false
def zdQ : List Value → List Value → Bool
 |[],[]=>true
 |u :: us,v :: vs=>zFb u v && zdQ us vs
 |_,_=>false
theorem zBh {u : Value} (h : zKW .b u = true) : ∃ a,u = .bool a := by
 cases u <;> simp only [zKW,Bool.false_eq_true] at h
 exact ⟨_,rfl⟩
theorem zBU {k : IntKind} {u : Value} (h : zKW (.i k) u = true) : ∃ a,u = .int k a := by
 cases u <;> simp only [zKW,Bool.false_eq_true,decide_eq_true_eq] at h
 subst h
 exact ⟨_,rfl⟩
theorem zCR {u : Value} (h : zKW .s u = true) : ∃ a,u = .string a := by
 cases u <;> simp only [zKW,Bool.false_eq_true] at h
 exact ⟨_,rfl⟩
theorem zfN : ∀ {ks : List CK} {vs : List Value},znk ks vs = true → vs.length = ks.length
 |[],[],_=>rfl
 |k :: ks,v :: vs,h=>by
  simp only [znk,Bool.and_eq_true] at h
  simp [zfN h.2]
 |[],_ :: _,h=>by cases h
 |_ :: _,[],h=>by cases h
theorem znF : ∀ {ks js : List CK} {vs : List Value},znk (ks ++ js) vs = true → znk ks (vs.take ks.length) = true ∧ znk js (vs.drop ks.length) = true
 |[],js,vs,h=>⟨rfl,by simpa using h⟩
 |k :: ks,js,v :: vs,h=>by
  simp only [List.cons_append,znk,Bool.and_eq_true] at h
  have := znF h.2
  simp only [List.length_cons,List.take_succ_cons,List.drop_succ_cons,znk,Bool.and_eq_true]
  exact ⟨⟨h.1,this.1⟩,this.2⟩
 |k :: ks,js,[],h=>by cases h
theorem zpB : ∀ {n : Nat} {us vs : List Value},us.length = vs.length → zdQ us vs = (zdQ (us.take n) (vs.take n) && zdQ (us.drop n) (vs.drop n))
 |0,us,vs,h=>by simp [zdQ]
 |n + 1,[],[],h=>by simp [zdQ]
 |n + 1,u :: us,v :: vs,h=>by
  simp only [zdQ,List.take_succ_cons,List.drop_succ_cons,Bool.and_assoc]
  rw [zpB (n := n) (by simpa using h)]
 |n + 1,[],v :: vs,h=>by simp at h
 |n + 1,u :: us,[],h=>by simp at h
section
variable {P : Program} (w : World)
def zNn (P : Program) (t : TypeId) (vs : List Value) : Option Value := match P.underlying t with
 |some (.struct _)=>some (.agg vs.toArray)
 |_=>vs[0]?
theorem zr8 {d : Nat} {t : TypeId} {ks : List CK} (h : zvG P d t = some ks) {xs : Array Value} {o : Nat} (hc : P.cellsOf t = ks.length) (hf : znk ks ((xs.toList.drop o).take ks.length) = true) :
  ∃ v,zNn P t ((xs.toList.drop o).take ks.length) = some v ∧ (part t xs o).run P w = .ok v w := by
 cases d with
 |zero=>simp [zvG] at h
 |succ d =>
  have sc : ∀ k : CK,ks = [k] → P.plainKey t = true → (∀ fs,P.underlying t ≠ some (.struct fs)) → ∃ v,zNn P t ((xs.toList.drop o).take ks.length) = some v ∧ (part t xs o).run P w = .ok v w := by
   intro k hk hp hns
   subst hk
   have hl := zfN hf
   simp only [List.length_cons,List.length_nil,Nat.zero_add] at hl ⊢
   obtain ⟨v,hv⟩ := List.length_eq_one_iff.1 hl
   refine ⟨v,?_,run_part_plain w hp (getElem?_of_chunk hv)⟩
   unfold zNn
   split
   ·rename_i fs e;exact absurd e (hns fs)
   ·rw [hv];rfl
  unfold zvG at h
  split at h
  ·rename_i e;exact sc _ (Option.some.inj h).symm (by simp [Program.plainKey,e]) (by simp [e])
  ·rename_i e;exact sc _ (Option.some.inj h).symm (by simp [Program.plainKey,e]) (by simp [e])
  ·rename_i e;exact sc _ (Option.some.inj h).symm (by simp [Program.plainKey,e]) (by simp [e])
  ·rename_i fs e
   obtain ⟨i,hi⟩ := info_of_underlying e
   refine ⟨.agg (xs.extract o (o + P.cellsOf t)),?_,?_⟩
   ·simp only [zNn,e]
    congr 2
    rw [hc]
    apply Array.ext'
    simp [List.extract]
   ·simp [part,isAgg,run_underlying e,run_sizeOf w hi]
  ·cases h
theorem zp3 : ∀ (d D : Nat) (t : TypeId) (ks : List CK),zvG P d t = some ks → d ≤ D → ∀ (w : World) (us vs : List Value) (x y : Value),znk ks us = true → znk ks vs = true → zNn P t us = some x → zNn P t vs = some y →
  (Op.equalIn D t x y).run P w = .ok (zdQ us vs) w
 |0,_,_,_,h,_,_,_,_,_,_,_,_,_,_=>by simp [zvG] at h
 |d + 1,0,t,ks,h,hD,_,_,_,_,_,_,_,_,_=>by omega
 |d + 1,D + 1,t,ks,h,hD,w,us,vs,x,y,hu,hv,hx,hy=>by
  have one : ∀ {k : CK} {us : List Value},znk [k] us = true → ∃ u,us = [u] ∧ zKW k u = true := by
   intro k us h
   match us,h with
   |[u],h=>exact ⟨u,rfl,by simpa [znk] using h⟩
   |[],h=>cases h
   |u :: v :: r,h=>simp [znk] at h
  unfold zvG at h
  split at h
  ·rename_i e
   obtain rfl := (Option.some.inj h).symm
   obtain ⟨u,rfl,fu⟩ := one hu
   obtain ⟨v,rfl,fv⟩ := one hv
   simp only [zNn,e,List.getElem?_cons_zero,Option.some.injEq] at hx hy
   subst hx hy
   obtain ⟨a,rfl⟩ := zBh fu
   obtain ⟨b,rfl⟩ := zBh fv
   rw [run_equalIn_bool w D t a b e]
   have : (a == b) = decide (a = b) := by rw [Bool.eq_iff_iff];simp
   simp [zdQ,zFb,this]
  ·rename_i k e
   obtain rfl := (Option.some.inj h).symm
   obtain ⟨u,rfl,fu⟩ := one hu
   obtain ⟨v,rfl,fv⟩ := one hv
   simp only [zNn,e,List.getElem?_cons_zero,Option.some.injEq] at hx hy
   subst hx hy
   obtain ⟨a,rfl⟩ := zBU fu
   obtain ⟨b,rfl⟩ := zBU fv
   rw [run_equalIn_int w D t k k a b e]
   have : (a == b) = decide (a = b) := by rw [Bool.eq_iff_iff];simp
   simp [zdQ,zFb,this]
  ·rename_i e
   obtain rfl := (Option.some.inj h).symm
   obtain ⟨u,rfl,fu⟩ := one hu
   obtain ⟨v,rfl,fv⟩ := one hv
   simp only [zNn,e,List.getElem?_cons_zero,Option.some.injEq] at hx hy
   subst hx hy
   obtain ⟨a,rfl⟩ := zCR fu
   obtain ⟨b,rfl⟩ := zCR fv
   rw [run_equalIn_string w D t a b e]
   have : (a.toList == b.toList) = decide (a.data.toList = b.data.toList) := by rw [zqq,zqq,Bool.eq_iff_iff];simp
   simp [zdQ,zFb,this]
  ·rename_i fs e
   split at h
   ·cases h
   rename_i hst
   have hst : P.stoodInHeld t = false := by simpa using hst
   have hfs : P.fieldsOf t = fs := by simp [Program.fieldsOf,e]
   simp only [zNn,e,Option.some.injEq] at hx hy
   subst hx hy
   rw [run_equalIn_struct w D t us.toArray vs.toArray (by rw [hfs];exact e) hst,hfs]
   have fields : ∀ (l : List Field) (o : Nat) (ks : List CK),ztn P (zvG P d) l o = some ks → znk ks (us.drop o) = true → znk ks (vs.drop o) = true →
     (Op.eqFields D us.toArray vs.toArray l).run P w = .ok (zdQ (us.drop o) (vs.drop o)) w := by
    intro l
    induction l with
    |nil =>
     intro o ks h1 h2 h3
     simp only [ztn,Option.some.injEq] at h1
     subst h1
     have e1 : us.drop o = [] := List.length_eq_zero_iff.1 (by simpa using zfN h2)
     have e2 : vs.drop o = [] := List.length_eq_zero_iff.1 (by simpa using zfN h3)
     rw [e1,e2]
     simp [Op.eqFields,zdQ]
    |cons f r ih =>
     intro o ks h1 h2 h3
     simp only [ztn] at h1
     split at h1
     ·cases h1
     rename_i hno
     have hno : ¬ f.name = "_" ∧ f.offset = o := by simpa using hno
     obtain ⟨hname,hoff⟩ := hno
     split at h1
     rotate_left
     ·cases h1
     rename_i k1 hk1
     split at h1
     rotate_left
     ·cases h1
     rename_i hcell
     have hcell : P.cellsOf f.type = k1.length := by simpa using hcell
     rw [Option.map_eq_some_iff] at h1
     obtain ⟨k2,hk2,rfl⟩ := h1
     obtain ⟨a1,a2⟩ := znF h2
     obtain ⟨b1,b2⟩ := znF h3
     rw [List.drop_drop] at a2 b2
     obtain ⟨x,vx,px⟩ := zr8 w hk1 (xs := us.toArray) (o := o) hcell (by simpa using a1)
     obtain ⟨y,vy,py⟩ := zr8 w hk1 (xs := vs.toArray) (o := o) hcell (by simpa using b1)
     have hq := zp3 d D f.type k1 hk1 (by omega) w _ _ x y a1 b1 (by simpa using vx) (by simpa using vy)
     have hl : (us.drop o).length = (vs.drop o).length := by rw [zfN h2,zfN h3]
     rw [zpB (n := k1.length) hl,List.drop_drop,List.drop_drop]
     simp only [Op.eqFields,hname,ne_eq,not_false_eq_true,if_true,Sem.run_bind,hoff,px,py,hq,Result.andThen_ok]
     cases hs : zdQ ((us.drop o).take k1.length) ((vs.drop o).take k1.length) with
     |false=>simp
     |true=>simpa using ih _ _ hk2 a2 b2
   have := fields fs.toList 0 ks h (by simpa using hu) (by simpa using hv)
   simpa using this
  ·cases h
end
end Go.Proofs.Ytaaogcnjfkgnoaa

namespace Go.Proofs.Ytaaogcnjfkgnoaa
open Go.RowKit
def zrM : List AV → Option (List Value)
 |[]=>some []
 |.held (.inl v) :: r=>(match zrM r with|some vs=>some (v :: vs)|none=>none)
 |_=>none
theorem zfZ : ∀ {xs : List AV} {us : List Value},zrM xs = some us → xs = us.map fun u=>V u
 |[],us,h=>by cases h;rfl
 |x :: r,us,h=>by
  unfold zrM at h
  split at h
  ·rename_i e;cases e
  ·rename_i v r' e
   injection e with e1 e2;subst e1 e2
   split at h
   ·rename_i vs hv;cases h;rw [zfZ hv];rfl
   ·cases h
  ·cases h
def zN1 (P : Program) (t : TypeId) : Option (List CK) := if P.eqGuardType P.depth t then none else match P.underlying t with|some (.struct _)=>zvG P 20 t|_=>none
inductive Ent
 |tell (g : List AV → RO)
 |keep (g : List AV → List AObj → RO)
 |add (g : List AV → Nat → RO)
 |pan (g : List AV → List AObj → RO)
abbrev Env := List (FuncId × Ent)
def zaL (P : Program) (G : Gl) (E : Env) : Prop := ∀ f e,(f,e) ∈ E → match e with
 |.tell g=>∀ args X H',g args = some (X,H') → ACp P G f args X
 |.keep g=>∀ args H X H',g args H = some (X,H') → AC P G f args H (Is X H')
 |.add g=>∀ args H X Y,g args H.length = some (X,Y) → AC P G f args H (Is X (H ++ Y))
 |.pan g=>∀ args H X H',g args H = some (X,H') → ACx P G f args H (Is X H')
def zj9 : Env → FuncId → Option Ent
 |[],_=>none
 |(g,e) :: r,f=>if f = g then some e else zj9 r f
def kcE (E : Env) : KC := fun f=>match zj9 E f with
 |some (.keep _)=>2
 |some (.pan _)=>2
 |some (.add _)=>1
 |_=>0
theorem findE_mem : ∀ {E : Env} {f : FuncId} {e : Ent}, zj9   E f = some e → (f, e) ∈ E
  | (g, e') :: r, f, e, h => by
    unfold zj9   at h
    split at h
    · rename_i q; subst q; cases h; exact List.mem_cons_self ..
    · exact List.mem_cons_of_mem _ (findE_mem h)
section
variable {R : Type} {P : Program} {G : Gl} {E : Env} {N : FS} {n : Nat}
def zLK (ks : Option (List CK)) (op : BinOp) (xs ys : List AV) (K : AV → Option R) : Option R :=
 match ks,zrM xs,zrM ys with
 |some ks,some us,some vs=>z0C (znk ks us && znk ks vs) (match op with
  |.eql=>K (V (.bool (zdQ us vs)))
  |.neq=>K (V (.bool (!zdQ us vs)))
  |_=>none)
 |_,_,_=>none
def zAM (P : Program) (t : TypeId) : Bool := match P.underlying t with|some (.slice _)=>true|_=>false
theorem zzO {t : TypeId} (h : zAM P t = true) : ∃ e,P.underlying t = some (.slice e) := by
 unfold zAM at h
 split at h
 ·exact ⟨_,by assumption⟩
 ·cases h
def zMe (ks : Option (List CK)) (isB sl : Bool) (op : BinOp) (x y : AV) (K : AV → Option R) : Option R :=
 match x,y with
 |.agg xs, .agg ys=>zLK ks op xs ys K
 |.held (.inl (.int k a)), .held (.inl (.int k' b))=>zKO op k a k' b K
 |.held (.inl (.string a)), .held (.inl (.string b))=>zLS op a b K
 |.held (.inl (.bool a)), .held (.inl (.bool b))=>z0C isB (match op with|.eql=>K (V (.bool (decide (a = b))))|.neq=>K (V (.bool (!decide (a = b))))|_=>none)
 |.slice (_ :: _) [], .held (.inl (.slice none 0 0))=>z0C sl (match op with|.eql=>K (V (.bool false))|.neq=>K (V (.bool true))|_=>none)
 |_,_=>none
theorem zty {t : TypeId} {ks : List CK} (h : zN1 P t = some ks) {us vs : List Value} (hu : znk ks us = true) (hv : znk ks vs = true) : zFy P t .eql us vs (zdQ us vs) ∧ zFy P t .neq us vs (!zdQ us vs) := by
 unfold zN1 at h
 split at h
 ·cases h
 rename_i hg
 have hg : P.eqGuardType P.depth t = false := by simpa using hg
 split at h <;> try (cases h;done)
 rename_i fs e
 have key : ∀ w : World,(Op.equalIn Op.maxDepth t (.agg us.toArray) (.agg vs.toArray)).run P w = .ok (zdQ us vs) w := fun w =>
  zp3 20 Op.maxDepth t ks h (by decide) w us vs _ _ hu hv (by simp [zNn,e]) (by simp [zNn,e])
 constructor
 ·intro ox oy w
  simp only [Sem.run_bind,run_eqGuard_agg _ _ _ _ _ _ _ hg,Result.andThen_ok]
  simp only [binOp,Op.equal,Sem.run_bind,key,Result.andThen_ok]
  rfl
 ·intro ox oy w
  simp only [Sem.run_bind,run_eqGuard_agg _ _ _ _ _ _ _ hg,Result.andThen_ok]
  simp only [binOp,Op.equal,Sem.run_bind,key,Result.andThen_ok]
  rfl
theorem zB1 {t : TypeId} {op : BinOp} {x y : AV} {K : AV → Option R} {r : R} (h : zMe (zN1 P t) (zmQ P t) (zAM P t) op x y K = some r) : zMc P t op x y fun d=>K d = some r := by
 unfold zMe at h
 unfold zMc
 split at h
 ·rename_i xs ys
  unfold zLK at h
  split at h
  ·rename_i ks us vs h1 h2 h3
   obtain ⟨h4,h5⟩ := z05 h
   rw [Bool.and_eq_true] at h4
   obtain ⟨e1,e2⟩ := zty h1 h4.1 h4.2
   split at h5
   ·exact ⟨us,vs,_,zfZ h2,zfZ h3,e1,h5⟩
   ·exact ⟨us,vs,_,zfZ h2,zfZ h3,e2,h5⟩
   ·cases h5
  ·cases h
 ·exact zBL h
 ·exact zEz h
 ·obtain ⟨h1,h2⟩ := z05 h
  refine ⟨zt5 h1,?_⟩
  split at h2
  ·exact h2
  ·exact h2
  ·cases h2
 ·obtain ⟨h1,h2⟩ := z05 h
  refine ⟨zzO h1,?_⟩
  split at h2
  ·exact h2
  ·exact h2
  ·cases h2
 ·cases h
def zs2 (P : Program) (t : TypeId) : Bool := match P.underlying t with|some (.pointer _)=>true|_=>false
theorem zr9 {t : TypeId} (h : zs2 P t = true) : P.underlying t = some (.pointer (P.pointee t)) := by
 unfold zs2 at h
 unfold Program.pointee
 split at h
 ·rename_i e;rw [e]
 ·cases h
def zNi (op : BinOp) (x y : AV) (K : AV → Option R) : Option R :=
 match x,y with
 |.held (.inr (.inl _)), .held (.inl (.pointer none))=>(match op with|.eql=>K (V (.bool false))|.neq=>K (V (.bool true))|_=>none)
 |.held (.inl (.pointer none)), .held (.inl (.pointer none))=>(match op with|.eql=>K (V (.bool true))|.neq=>K (V (.bool false))|_=>none)
 |_,_=>none
theorem zBc {t : TypeId} (ht : zs2 P t = true) {op : BinOp} {x y : AV} {K : AV → Option R} {r : R} (h : zNi op x y K = some r) : zMc P t op x y fun d=>K d = some r := by
 unfold zNi at h
 unfold zMc
 split at h
 ·refine ⟨zr9 ht,?_⟩
  split at h
  ·exact h
  ·exact h
  ·cases h
 ·refine ⟨zr9 ht,?_⟩
  split at h
  ·exact h
  ·exact h
  ·cases h
 ·cases h
def zF7 (p : Bool) (ks : Option (List CK)) (isB sl : Bool) (op : BinOp) (x y : AV) (K : AV → Option R) : Option R := match p with|true=>zNi op x y K|false=>zMe ks isB sl op x y K
theorem zzG {t : TypeId} {op : BinOp} {x y : AV} {K : AV → Option R} {r : R} (h : zF7 (zs2 P t) (zN1 P t) (zmQ P t) (zAM P t) op x y K = some r) : zMc P t op x y fun d=>K d = some r := by
 unfold zF7 at h
 split at h
 ·rename_i ht;exact zBc ht h
 ·exact zB1 h
def z1D (m : RO) (args : List AV) (K : AV → Option R) : Option R := z0C (args.all (ltT 0)) (match m with|some (X,_)=>K X|none=>none)
def z4O (m : RO) (K : AV → List AObj → Option R) : Option R := match m with|some (X,H')=>K X H'|none=>none
def zNA (m : RO) (H : List AObj) (K : AV → List AObj → Option R) : Option R := match m with|some (X,Y)=>K X (H ++ Y)|none=>none
def zq4 (e : Option Ent) (args : List AV) (H : List AObj) (K : AV → List AObj → Option R) : Option R :=
 match e with
 |some (.tell g)=>z1D (g args) args fun X=>K X H
 |some (.keep g)=>z4O (g args H) K
 |some (.add g)=>zNA (g args H.length) H K
 |_=>none
theorem znE (hE : zaL P G E) {f : FuncId} {args : List AV} {H : List AObj} {K : AV → List AObj → Option R} {r : R} (h : zq4 (zj9 E f) args H K = some r) : AC P G f args H fun d H'=>K d H' = some r := by
 unfold zq4 at h
 split at h
 ·rename_i g hg
  obtain ⟨h1,h2⟩ := z05 h
  split at h2
  ·rename_i X H' hx
   exact zvB (hE _ _ (findE_mem hg) _ _ _ hx) h1 h2
  ·cases h2
 ·rename_i g hg
  unfold z4O at h
  split at h
  ·rename_i X H' hx
   exact zoD (hE _ _ (findE_mem hg) _ _ _ _ hx) h
  ·cases h
 ·rename_i g hg
  unfold zNA at h
  split at h
  ·rename_i X Y hx
   exact zoD (hE _ _ (findE_mem hg) _ _ _ _ hx) h
  ·cases h
 ·cases h
def zul (e : Option Ent) (args : List AV) (K : AV → Option R) : Option R :=
 match e with
 |some (.tell g)=>z1D (g args) args K
 |_=>none
theorem zuq (hE : zaL P G E) {f : FuncId} {args : List AV} {K : AV → Option R} {r : R} (h : zul (zj9 E f) args K = some r) : zFd P G f args fun d=>K d = some r := by
 unfold zul at h
 split at h
 ·rename_i g hg
  obtain ⟨h1,h2⟩ := z05 h
  split at h2
  ·rename_i X H' hx
   exact ⟨X,hE _ _ (findE_mem hg) _ _ _ hx,h1,h2⟩
  ·cases h2
 ·cases h
def zfn (E : Env) (x : AV) (args : List AV) (H : List AObj) (K : AV → List AObj → Option R) : Option R :=
 match x with
 |.slice caps [.held (.inl (.func (.func f) _ _)), .held (.inr (.inl (k,_)))]=>zq4 (zj9 E f) ((caps.take k ++ args ++ caps.drop k).map (ro H)) H K
 |.held (.inl (.func (.func f) ⟨[]⟩ ⟨[]⟩))=>zq4 (zj9 E f) (args.map (ro H)) H K
 |_=>none
theorem zvq (hE : zaL P G E) {x : AV} {args : List AV} {H : List AObj} {K : AV → List AObj → Option R} {r : R} (h : zfn E x args H K = some r) : zpU P G x args H fun d H'=>K d H' = some r := by
 unfold zfn at h
 unfold zpU
 split at h
 ·exact znE hE h
 ·exact znE hE h
 ·cases h
def mmE (mx : Bool) (x y : AV) (K : AV → Option R) : Option R := match x,y with
 |.held (.inl (.int k a)), .held (.inl (.int k' b))=>z0C (decide (k = k')) (K (V (.int k (if mx = true then (if b > a then b else a) else (if b < a then b else a)))))
 |_,_=>none
theorem zBG {mx : Bool} {x y : AV} {K : AV → Option R} {r : R} (h : mmE mx x y K = some r) : aMM mx x y fun d=>K d = some r := by
 unfold mmE at h
 unfold aMM
 split at h
 ·obtain ⟨h1,h2⟩ := z05 h
  exact ⟨of_decide_eq_true h1,h2⟩
 ·cases h
def zuk (P : Program) (t : TypeId) (H : List AObj) (m x : AV) (ok : Bool) (K : AV → Option R) : Option R :=
 @dite _ (∃ d,LookP P t H m x ok d) (Classical.propDecidable _) (fun h=>K h.choose) (fun _=>none)
theorem zzW {t : TypeId} {H : List AObj} {m x : AV} {ok : Bool} {K : AV → Option R} {r : R} (h : zuk P t H m x ok K = some r) : zFD P t H m x ok fun d=>K d = some r := by
 unfold zuk at h
 split at h
 ·rename_i hh;exact ⟨_,hh.choose_spec,h⟩
 ·cases h
theorem zxg {t : TypeId} {H : List AObj} {m x d : AV} {ok : Bool} {K : AV → Option R} (h : LookP P t H m x ok d) : zuk P t H m x ok K = K d := by
 have hh : ∃ d,LookP P t H m x ok d := ⟨d,h⟩
 unfold zuk
 rw [dif_pos hh,hh.choose_spec.det h]
def zue (P : Program) (t : TypeId) (H : List AObj) (m x y : AV) (K : List AObj → Option R) : Option R :=
 @dite _ (∃ H',PutP P t H m x y H') (Classical.propDecidable _) (fun h=>K h.choose) (fun _=>none)
theorem zst {t : TypeId} {H : List AObj} {m x y : AV} {K : List AObj → Option R} {r : R} (h : zue P t H m x y K = some r) : zLT P t H m x y fun d=>K d = some r := by
 unfold zue at h
 split at h
 ·rename_i hh;exact ⟨_,hh.choose_spec,h⟩
 ·cases h
theorem zwI {t : TypeId} {H H' : List AObj} {m x y : AV} {K : List AObj → Option R} (h : PutP P t H m x y H') : zue P t H m x y K = K H' := by
 have hh : ∃ d,PutP P t H m x y d := ⟨H',h⟩
 unfold zue
 rw [dif_pos hh,hh.choose_spec.det h]
def zMo (P : Program) (t : TypeId) : Option (TypeId × TypeId) := match P.underlying t with|some (.map k e)=>some (k,e)|_=>none
def zuj (kt : Option (TypeId × TypeId)) (H : List AObj) (K : AV → List AObj → Option R) : Option R := match kt with|some (k,e)=>K (MP H.length) (H ++ [⟨5,k,e,[]⟩])|none=>none
theorem zyf {t : TypeId} {H : List AObj} {K : AV → List AObj → Option R} {r : R} (h : zuj (zMo P t) H K = some r) : zAO P t H fun d H'=>K d H' = some r := by
 unfold zuj zMo at h
 unfold zAO
 split at h
 ·rename_i k e hk
  split at hk
  ·rename_i k' e' hu;rw [hu];cases hk;exact h
  ·cases hk
 ·cases h
def zoY (P : Program) (G : Gl) (E : Env) (o : Oper) (s : ASt) (K : AV → List AObj → Option R) : Option R :=
 match o.op with
 |.move x=>K (ev G s.T x) s.H
 |.assign x=>K (ev G s.T x) s.H
 |.pick c x y=>zH2 (ev G s.T c) (ev G s.T x) (ev G s.T y) fun r=>K r s.H
 |.binOp op t x y _=>zF7 (zs2 P t) (zN1 P t) (zmQ P t) (zAM P t) op (ev G s.T x) (ev G s.T y) fun r=>K r s.H
 |.unOp op _ x=>unE op (ev G s.T x) fun r=>K r s.H
 |.alloc t=>z2f (zpm P t) t s.H K
 |.box t x=>zN2 t s.H (ev G s.T x) K
 |.build t ps=>z1F (zpj P t) (zpm P t) (ps.toList.map fun p=>(p.1,ev G s.T p.2)) fun r=>K r s.H
 |.buildSlice t n ps=>z0O (zKT P t) n (ps.toList.map fun p=>(p.1,ev G s.T p.2)) fun r=>K r s.H
 |.load t x=>z04 (z1T P t) s.H (ev G s.T x) fun r=>K r s.H
 |.store t x y=>z0I (z1T P t) s.H (ev G s.T x) (ev G s.T y) fun H'=>K .nil H'
 |.nilCheck x=>zMC (ev G s.T x) fun r=>K r s.H
 |.convert src dst x=>zsa (z8A P src && z8A P dst) (zMu P dst) (P.underlying src).isSome (zKX P src && z8A P dst) (z8A P src && zKX P dst) (ro s.H (ev G s.T x)) fun r=>K r s.H
 |.extract x i=>zLC (ev G s.T x) i fun r=>K r s.H
 |.fieldAddr t x f=>z02 (zmw P t f) (ev G s.T x) fun r=>K r s.H
 |.field t x f=>zpE (zmw P t f) (ev G s.T x) fun r=>K r s.H
 |.indexAddr t x y=>zG9 (zeD P t) (zl1 P t) s.H (ev G s.T x) (ev G s.T y) fun r=>K r s.H
 |.index t x y=>zA8 (z8A P t) (zl1 P t) (ev G s.T x) (ev G s.T y) fun r=>K r s.H
 |.slice t x lo hi none=>zhk (z8A P t) (zeD P t) s.H (ev G s.T x) (lo.map (ev G s.T)) (hi.map (ev G s.T)) fun r=>K r s.H
 |.call { callee := .value (.func f),args := args,argTypes := _ }=>zq4 (zj9 E f) (roF f s.H (args.toList.map (ev G s.T))) s.H K
 |.makeFunc fn first caps=>z0C (((first.toList ++ caps.toList).map (ev G s.T)).all zLj) (K (CL fn first.toList.length ((first.toList ++ caps.toList).map (ev G s.T))) s.H)
 |.call { callee := .value (.tmp t),args := args,argTypes := _ }=>zfn E (get s.T t) (args.toList.map (ev G s.T)) s.H K
 |.call { callee := .builtin .len,args := ⟨[x]⟩,argTypes := ⟨[t]⟩ }=>zLZ (z8A P t) (zeD P t).isSome s.H (ev G s.T x) fun r=>K r s.H
 |.call { callee := .builtin .append,args := ⟨[x,y]⟩,argTypes := ⟨[t,t']⟩ }=>zHa (decide (t' = t)) (z8A P t') (zKT P t) s.H (ev G s.T x) (ev G s.T y) K
 |.call { callee := .builtin .max,args := ⟨[x,y]⟩,argTypes := _ }=>mmE true (ev G s.T x) (ev G s.T y) fun r=>K r s.H
 |.call { callee := .builtin .min,args := ⟨[x,y]⟩,argTypes := _ }=>mmE false (ev G s.T x) (ev G s.T y) fun r=>K r s.H
 |.lookup t x y ok=>zuk P t s.H (ev G s.T x) (ev G s.T y) ok fun r=>K r s.H
 |.mapUpdate t x y z=>zue P t s.H (ev G s.T x) (ev G s.T y) (ev G s.T z) fun H'=>K .nil H'
 |.makeMap t none=>zuj (zMo P t) s.H K
 |_=>none
theorem zk7 (hE : zaL P G E) {o : Oper} {s : ASt} {K : AV → List AObj → Option R} {r : R} (h : zoY P G E o s K = some r) : z0A P G o s fun d H'=>K d H' = some r := by
 obtain ⟨dst,op,ty,pos,af,gd⟩ := o
 unfold zoY at h
 unfold z0A
 dsimp only at h ⊢
 split at h
 ·exact h
 ·exact h
 ·exact zAg h
 ·exact zzG h
 ·exact zGU h
 ·rename_i t
  unfold z2f at h
  dsimp only
  split at h
  ·rename_i hc;rw [hc];exact h
  ·cases h
 ·exact z05 h
 ·exact zuL h
 ·exact ztG h
 ·exact zma h
 ·exact zrz h
 ·exact zDA h
 ·exact zzY h
 ·exact zE1 h
 ·exact zur h
 ·exact zsB h
 ·exact zyO h
 ·exact zzw h
 ·exact zvh h
 ·exact znE hE h
 ·exact z05 h
 ·exact zvq hE h
 ·exact lenE_ok h
 ·rename_i t t'
  show (if t' = t then _ else _)
  by_cases e : t' = t
  ·rw [if_pos e]
   rw [decide_eq_true e] at h
   exact zy1 h
  ·rw [if_neg e]
   rw [decide_eq_false e] at h
   obtain ⟨h1,h2⟩ := z05 (show z0C _ _ = _ from h)
   exact ⟨zb6 h1,zzq h2⟩
 ·exact zBG h
 ·exact zBG h
 ·exact zzW h
 ·exact zst h
 ·exact zyf h
 ·cases h
end
end Go.Proofs.Ytaaogcnjfkgnoaa

namespace Go.Proofs.Ytaaogcnjfkgnoaa
open Go.RowKit
section
variable {R : Type} {P : Program} {G : Gl} {E : Env} {N : FS} {n : Nat} {o : Oper} {H : List AObj} {T T' : Tm}
def TEq (T T' : Tm) : Prop := ∀ i,get T i = get T' i
theorem TEq.refl (T : Tm) : TEq T T := fun _=>rfl
theorem TEq.set (h : TEq T T') (H H' : List AObj) (K : List AObj) (d : Option Tmp) (v : AV) : TEq (ASt.set ⟨H,T⟩ K d v).T (ASt.set ⟨H',T'⟩ K d v).T := by
 cases d with
 |none=>exact h
 |some d =>
  intro i
  show get ((d,v) :: T) i = get ((d,v) :: T') i
  simp only [_root_.Go.Proofs.Ytaaogcnjfkgnoaa.get]
  split
  ·rfl
  ·exact h i
theorem TEq.lit (h : TEq T T') {t : Nat} {v : AV} (hv : get T t = v) : TEq T ((t,v) :: T') := by
 intro i
 simp only [_root_.Go.Proofs.Ytaaogcnjfkgnoaa.get]
 split
 ·rename_i e;subst e;exact hv
 ·exact h i
theorem zcy (h : TEq T T') {K : AV → List AObj → Prop} (hs : z0A P G o ⟨H,T'⟩ K) : z0A P G o ⟨H,T⟩ K := by
 have hg : get T = get T' := funext h
 have he : ev G T = ev G T' := by
  funext x
  cases x <;> simp only [ev,hg]
 unfold z0A at hs ⊢
 dsimp only at hs ⊢
 rw [he,hg]
 exact hs
theorem zvR (h : TEq T T') {K : AV → Prop} (hs : z3I P G o ⟨H,T'⟩ K) : z3I P G o ⟨H,T⟩ K :=
 zn6 (fun t _=>(h t).symm) hs
theorem AWp.text {c : Code} {Q : Exit → ASt → Prop} (h : TEq T T') (k : AWp P G N n c Q ⟨H,T'⟩) : AWp P G N n c Q ⟨H,T⟩ := by
 intro w S μ a hr hf hg
 exact k w S μ a hr ⟨hf.size,hf.nodef,fun i=>by rw [← h i];exact hf.slot i⟩ hg
theorem AWp.forget {c : Code} {Q : Exit → ASt → Prop} (h : ∀ i,get T' i = get T i ∨ get T' i = .nil) (k : AWp P G N n c Q ⟨H,T'⟩) : AWp P G N n c Q ⟨H,T⟩ := by
 intro w S μ a hr hf hg
 refine k w S μ a hr ⟨hf.size,hf.nodef,fun i=>?_⟩ hg
 rcases h i with e|e
 ·rw [e];exact hf.slot i
 ·rw [e];exact zp6 _ _ _
theorem AWp.len {c : Code} {Q : Exit → ASt → Prop} {s : ASt} (h : AWp P G N n c Q s) (hn : n ≤ s.H.length) : AWp P G N n c (fun e s'=>Q e s' ∧ n ≤ s'.H.length) s := by
 intro w S μ a hr hf hg
 refine wp_mono (h w S μ a hr hf hg) ?_
 rintro e a' w' ⟨s',S',μ',hq,hr',hf',hst⟩
 refine ⟨s',S',μ',⟨hq,?_⟩,hr',hf',hst⟩
 rw [← hr'.len]
 cases n with
 |zero=>exact Nat.zero_le _
 |succ m =>
  have hm : m < μ.length := by rw [hr.len];omega
  obtain ⟨x',hx',_⟩ := hst.objs m _ (Nat.lt_succ_self m) (List.getElem?_eq_getElem hm)
  exact (List.getElem?_eq_some_iff.1 hx').1
def z0o (x : AV) (A B : Option R) : Option R := zr6 x A B
def zmy (P : Program) (G : Gl) (E : Env) (D : Bool) (o : Oper) (s : ASt) (K : AV → List AObj → Option R) : Option R :=
 match D with
 |false=>zoY P G E o s K
 |true=>match o.op with
  |.call { callee := .value (.func f),args := args,argTypes := _ }=>zul (zj9 E f) ((args.toList.map (ev G s.T)).map (ro s.H)) fun r=>K r s.H
  |_=>zoY P G E o s K
def skO (sk : List Nat) : Option Tmp → List Nat|some d=>sk.filter fun i=>i != d|none=>sk
def skN (sk : List Nat) : Option Tmp → List Nat|some d=>d :: sk|none=>sk
def runE (P : Program) (G : Gl) (E : Env) (D : Bool) (ops : List Oper) : List Nat → List Oper → ASt → (ASt → Option R) → Option R
  | _, [], s, K => K s
  | sk, o :: r, s, K => match o.guard with
    | none => zmy   P G E D o s fun d H => runE P G E D ops (skO sk o.dst) r (s.set H o.dst d) K
    | some (j, want) => match zm7   ops j with
      | some t => match sk.contains t with
        | true => runE P G E D ops (skN sk o.dst) r (s.set s.H o.dst UD) K
        | false => z0o   (get s.T t)
          (match want with
            | true => zmy   P G E D o ⟨s.H, (t, V (.bool true)) :: s.T⟩ fun d H => runE P G E D ops (skO sk o.dst) r (ASt.set ⟨s.H, (t, V (.bool true)) :: s.T⟩ H o.dst d) K
            | false => runE P G E D ops (skN sk o.dst) r (ASt.set ⟨s.H, (t, V (.bool true)) :: s.T⟩ s.H o.dst UD) K)
          (match want with
            | false => zmy   P G E D o ⟨s.H, (t, V (.bool false)) :: s.T⟩ fun d H => runE P G E D ops (skO sk o.dst) r (ASt.set ⟨s.H, (t, V (.bool false)) :: s.T⟩ H o.dst d) K
            | true => runE P G E D ops (skN sk o.dst) r (ASt.set ⟨s.H, (t, V (.bool false)) :: s.T⟩ s.H o.dst UD) K)
      | none => none
def zCu (P : Program) (G : Gl) (E : Env) (o : Oper) (s : ASt) (K : AV → List AObj → Option R) : Option R :=
 match o.op with
 |.alloc t=>(match zpm P t with|some c=>K (OP s.H.length 0) [⟨1,t,0,c⟩]|none=>none)
 |.call { callee := .value (.func f),args := args,argTypes := _ }=>(match zj9 E f with
  |some (.add g)=>(match g (roF f s.H (args.toList.map (ev G s.T))) s.H.length with|some (X,Y)=>K X Y|none=>none)
  |_=>none)
 |_=>none
def eqE (d d' : AV) (K : Option R) : Option R := by
 classical exact if d' = d then K else none
theorem zyQ {d : AV} {K : Option R} : eqE d d K = K := by
 unfold eqE
 exact if_pos rfl
theorem zsy {d d' : AV} {K : Option R} {r : R} (h : eqE d d' K = some r) : d' = d ∧ K = some r := by
 unfold eqE at h
 split at h
 ·rename_i e;exact ⟨e,h⟩
 ·cases h
def zMI (n k : Nat) (a d : AV) : List (Nat × List AObj) → Option R → Option R
 |[],K=>K
 |p :: r,K=>match Nat.ble n p.1 with|true=>z04 k p.2 a fun d'=>eqE d d' (zMI n k a d r K)|false=>zMI n k a d r K
def zL0 (H : List AObj) : List OpI → Option R → Option R
 |[],K=>K
 |x :: r,K=>z04 x.2.1 H x.2.2.1 fun d'=>eqE x.2.2.2 d' (zL0 H r K)
theorem oldE_some {n k : Nat} {a d : AV} {K : Option R} {r : R} : ∀ {l : List (Nat × List AObj)}, zMI  n k a d l K = some r → (∀ p ∈ l, n ≤ p.1 → zoO   p.2 (k, a, d)) ∧ K = some r
  | [], h => ⟨fun H q => (by cases q), h⟩
  | (q, H) :: l, h => by
    unfold zMI  at h
    cases hb : Nat.ble n q with
    | true =>
      rw [show Nat.ble n (q, H).1 = true from hb] at h
      have h1 := zma      h
      obtain ⟨d', h2, h3⟩ := zdy       h1
      obtain ⟨rfl, h4⟩ := zsy      h3
      obtain ⟨h5, h6⟩ := oldE_some h4
      refine ⟨fun p hp _ => ?_, h6⟩
      rcases List.mem_cons.1 hp with rfl | hp
      · exact h2
      · exact h5 p hp (by assumption)
    | false =>
      rw [show Nat.ble n (q, H).1 = false from hb] at h
      obtain ⟨h5, h6⟩ := oldE_some h
      refine ⟨fun p hp hle => ?_, h6⟩
      rcases List.mem_cons.1 hp with rfl | hp
      · rw [Nat.ble_eq_true_of_le hle] at hb; cases hb
      · exact h5 p hp hle
theorem zos {H : List AObj} {K : Option R} {r : R} : ∀ {l : List OpI},zL0 H l K = some r → (∀ x ∈ l,zoO H x.2) ∧ K = some r
 |[],h=>⟨fun H q=>(by cases q),h⟩
 |x :: l,h=>by
  unfold zL0 at h
  have h1 := zma h
  obtain ⟨d',h2,h3⟩ := zdy h1
  obtain ⟨e,h4⟩ := zsy h3
  obtain ⟨h5,h6⟩ := zos h4
  refine ⟨fun y q=>?_,h6⟩
  rcases List.mem_cons.1 q with rfl|q
  ·rw [e] at h2;exact h2
  ·exact h5 y q
def runD (P : Program) (G : Gl) (E : Env) (ops : List Oper) : List Nat → List (List AObj) → List (Nat × List AObj) → List OpI → List Oper → ASt → (ASt → Option R) → Option R
  | _, _, _, _, [], s, K => K s
  | sk, acc, old, opn, o :: r, s, K => match zLq  (kcE E) o.op with
    | 0 => (match o.guard with
      | none => (match zmP   (zju   (kcE E) ops (zMx  ops []) acc.length) o with
        | some (t2, x) => z04   (z1T   P t2) s.H (ev G s.T x) fun d => zMI  (loI (kcE E) ops (zMx  ops []) acc.length) (z1T   P t2) (ev G s.T x) d old (runD P G E ops (skO sk o.dst) (acc ++ [s.H]) old ((acc.length, z1T   P t2, ev G s.T x, d) :: opn) r (s.set s.H o.dst d) K)
        | none => zmy   P G E true o ⟨zNz  (kcE E) ops (zMx  ops []) (acc ++ [s.H]) acc.length, s.T⟩ fun d _ => runD P G E ops (skO sk o.dst) (acc ++ [s.H]) old opn r (s.set s.H o.dst d) K)
      | some (j, want) => match zm7   ops j with
        | some t => match sk.contains t with
          | true => runD P G E ops (skN sk o.dst) (acc ++ [s.H]) old opn r (s.set s.H o.dst UD) K
          | false => z0o   (get s.T t)
              (match want with
                | true => (match zmP   (zju   (kcE E) ops (zMx  ops []) acc.length) o with
        | some (t2, x) => z04   (z1T   P t2) s.H (ev G ((t, V (.bool true)) :: s.T) x) fun d => zMI  (loI (kcE E) ops (zMx  ops []) acc.length) (z1T   P t2) (ev G ((t, V (.bool true)) :: s.T) x) d old (runD P G E ops (skO sk o.dst) (acc ++ [s.H]) old ((acc.length, z1T   P t2, ev G ((t, V (.bool true)) :: s.T) x, d) :: opn) r (ASt.set ⟨s.H, (t, V (.bool true)) :: s.T⟩ s.H o.dst d) K)
        | none => zmy   P G E true o ⟨zNz  (kcE E) ops (zMx  ops []) (acc ++ [s.H]) acc.length, ((t, V (.bool true)) :: s.T)⟩ fun d _ => runD P G E ops (skO sk o.dst) (acc ++ [s.H]) old opn r (ASt.set ⟨s.H, (t, V (.bool true)) :: s.T⟩ s.H o.dst d) K)
                | false => runD P G E ops (skN sk o.dst) (acc ++ [s.H]) old opn r (ASt.set ⟨s.H, (t, V (.bool true)) :: s.T⟩ s.H o.dst UD) K)
              (match want with
                | false => (match zmP   (zju   (kcE E) ops (zMx  ops []) acc.length) o with
        | some (t2, x) => z04   (z1T   P t2) s.H (ev G ((t, V (.bool false)) :: s.T) x) fun d => zMI  (loI (kcE E) ops (zMx  ops []) acc.length) (z1T   P t2) (ev G ((t, V (.bool false)) :: s.T) x) d old (runD P G E ops (skO sk o.dst) (acc ++ [s.H]) old ((acc.length, z1T   P t2, ev G ((t, V (.bool false)) :: s.T) x, d) :: opn) r (ASt.set ⟨s.H, (t, V (.bool false)) :: s.T⟩ s.H o.dst d) K)
        | none => zmy   P G E true o ⟨zNz  (kcE E) ops (zMx  ops []) (acc ++ [s.H]) acc.length, ((t, V (.bool false)) :: s.T)⟩ fun d _ => runD P G E ops (skO sk o.dst) (acc ++ [s.H]) old opn r (ASt.set ⟨s.H, (t, V (.bool false)) :: s.T⟩ s.H o.dst d) K)
                | true => runD P G E ops (skN sk o.dst) (acc ++ [s.H]) old opn r (ASt.set ⟨s.H, (t, V (.bool false)) :: s.T⟩ s.H o.dst UD) K)
        | none => none)
    | 1 => (match o.guard with | none => zCu   P G E o s fun d Y => zL0  (s.H ++ Y) (zhO   (zMx  ops []) acc.length opn) (runD P G E ops (skO sk o.dst) (acc ++ [s.H]) ((acc.length, s.H) :: old) (zhO   (zMx  ops []) acc.length opn) r (s.set (s.H ++ Y) o.dst d) K) | some _ => none)
    | _ => (match o.guard with
      | none => zoY   P G E o s fun d H' => zL0  H' (zhO   (zMx  ops []) acc.length opn) (runD P G E ops (skO sk o.dst) (acc ++ [s.H]) ((acc.length, s.H) :: old) (zhO   (zMx  ops []) acc.length opn) r (s.set H' o.dst d) K)
      | some (j, want) => match zm7   ops j with
        | some t => match sk.contains t with
          | true => runD P G E ops (skN sk o.dst) (acc ++ [s.H]) old opn r (s.set s.H o.dst UD) K
          | false => z0o   (get s.T t)
              (match want with
                | true => zoY   P G E o ⟨s.H, (t, V (.bool true)) :: s.T⟩ fun d H' => zL0  H' (zhO   (zMx  ops []) acc.length opn) (runD P G E ops (skO sk o.dst) (acc ++ [s.H]) ((acc.length, s.H) :: old) (zhO   (zMx  ops []) acc.length opn) r (ASt.set ⟨s.H, (t, V (.bool true)) :: s.T⟩ H' o.dst d) K)
                | false => runD P G E ops (skN sk o.dst) (acc ++ [s.H]) old opn r (ASt.set ⟨s.H, (t, V (.bool true)) :: s.T⟩ s.H o.dst UD) K)
              (match want with
                | false => zoY   P G E o ⟨s.H, (t, V (.bool false)) :: s.T⟩ fun d H' => zL0  H' (zhO   (zMx  ops []) acc.length opn) (runD P G E ops (skO sk o.dst) (acc ++ [s.H]) ((acc.length, s.H) :: old) (zhO   (zMx  ops []) acc.length opn) r (ASt.set ⟨s.H, (t, V (.bool false)) :: s.T⟩ H' o.dst d) K)
                | true => runD P G E ops (skN sk o.dst) (acc ++ [s.H]) old opn r (ASt.set ⟨s.H, (t, V (.bool false)) :: s.T⟩ s.H o.dst UD) K)
        | none => none)
theorem zf8 {x : AV} {A B : Option R} {r : R} (h : z0o x A B = some r) : (x = V (.bool true) ∧ A = some r) ∨ (x = V (.bool false) ∧ B = some r) := zoW h
def Aft (K : ASt → Option R) (r : R) (s1 : ASt) : Prop := ∃ T2,TEq s1.T T2 ∧ K ⟨s1.H,T2⟩ = some r
def SkOk (sk : List Nat) (T : Tm) : Prop := ∀ t ∈ sk,get T t = UD
theorem SkOk.nil {T : Tm} : SkOk [] T := fun t h=>by cases h
theorem SkOk.out {sk : List Nat} {T : Tm} (h : SkOk sk T) (H H' : List AObj) (dst : Option Tmp) (v : AV) : SkOk (skO sk dst) (ASt.set ⟨H,T⟩ H' dst v).T := by
 intro t ht
 cases dst with
 |none=>exact h t ht
 |some d =>
  simp only [skO,List.mem_filter,bne_iff_ne] at ht
  exact (z9r T d t v ht.2).trans (h t ht.1)
theorem SkOk.skip {sk : List Nat} {T : Tm} (h : SkOk sk T) (H H' : List AObj) (dst : Option Tmp) : SkOk (skN sk dst) (ASt.set ⟨H,T⟩ H' dst UD).T := by
 intro t ht
 cases dst with
 |none=>exact h t ht
 |some d =>
  by_cases e : t = d
  ·subst e;exact zfg T t UD
  ·simp only [skN,List.mem_cons,e,false_or] at ht
   exact (z9r T d t UD e).trans (h t ht)
theorem zir (hE : zaL P G E) {ops : List Oper} {K : ASt → Option R} {r : R} : ∀ {l : List Oper} {sk : List Nat} {H : List AObj} {T T' : Tm},TEq T T' → SkOk sk T → runE P G E false ops sk l ⟨H,T'⟩ K = some r → zbL P G ops l ⟨H,T⟩ (Aft K r)
 |[],sk,H,T,T',ht,hk,h=>⟨T',ht,h⟩
 |o :: l,sk,H,T,T',ht,hk,h=>by
  unfold runE at h
  unfold zbL
  split at h
  ·rename_i hg
   simp only [hg]
   refine zcy ht ?_
   refine z5i (fun d H' q=>?_) (zk7 (o := o) (s := ⟨H,T'⟩) (K := fun d H'=>runE P G E false ops (skO sk o.dst) l (ASt.set ⟨H,T'⟩ H' o.dst d) K) hE h)
   exact zir hE (ht.set H H H' o.dst d) (hk.out H H' o.dst d) q
  ·rename_i j want hg
   simp only [hg]
   split at h
   rotate_left
   ·cases h
   rename_i t hd
   simp only [hd]
   split at h
   ·rename_i hc
    rw [show get (⟨H,T⟩ : ASt).T t = UD from hk t (by simpa using hc)]
    exact zir hE (ht.set H H H o.dst UD) (hk.skip H H o.dst) h
   rcases zf8 h with ⟨h1,h2⟩|⟨h1,h2⟩
   ·rw [show get (⟨H,T⟩ : ASt).T t = V (.bool true) from (ht t).trans h1]
    cases want with
    |true =>
     refine ⟨fun _=>?_,fun q=>by cases q⟩
     have hl := ht.lit ((ht t).trans h1)
     refine zcy hl ?_
     refine z5i (fun d H' q=>?_) (zk7 (o := o) (s := ⟨H,(t,V (.bool true)) :: T'⟩) (K := fun d H'=>runE P G E false ops (skO sk o.dst) l (ASt.set ⟨H,(t,V (.bool true)) :: T'⟩ H' o.dst d) K) hE h2)
     exact zir hE (hl.set H H H' o.dst d) (hk.out H H' o.dst d) q
    |false =>
     refine ⟨fun q=>(by cases q),fun _=>?_⟩
     exact zir hE ((ht.lit ((ht t).trans h1)).set H H H o.dst UD) (hk.skip H H o.dst) h2
   ·rw [show get (⟨H,T⟩ : ASt).T t = V (.bool false) from (ht t).trans h1]
    cases want with
    |false =>
     refine ⟨fun _=>?_,fun q=>by cases q⟩
     have hl := ht.lit ((ht t).trans h1)
     refine zcy hl ?_
     refine z5i (fun d H' q=>?_) (zk7 (o := o) (s := ⟨H,(t,V (.bool false)) :: T'⟩) (K := fun d H'=>runE P G E false ops (skO sk o.dst) l (ASt.set ⟨H,(t,V (.bool false)) :: T'⟩ H' o.dst d) K) hE h2)
     exact zir hE (hl.set H H H' o.dst d) (hk.out H H' o.dst d) q
    |true =>
     refine ⟨fun q=>(by cases q),fun _=>?_⟩
     exact zir hE ((ht.lit ((ht t).trans h1)).set H H H o.dst UD) (hk.skip H H o.dst) h2
end
end Go.Proofs.Ytaaogcnjfkgnoaa

