/-
  Texts laid together, part 2 of 7: laws of a walk over data, contracts of functions, each whole by itself.
-/
import Derived.Test.YtaaogcnjfkgnoaaMga
import Derived.ProofKit
import Derived.OpenShut
import Derived.ShutString
import Derived.ChangeOld
import Derived.Deep.Slices
import Derived.DeepKeys
set_option maxRecDepth 100000
set_option linter.unusedVariables false
set_option linter.unusedSimpArgs false
namespace Go.Proofs.Ytaaogcnjfkgnoaa
open Go.RowKit
section
variable {P : Program} {G : Gl} {N : FS} {n : Nat} {s s' : ASt} {H H' : List AObj} {T : Tm}
def callD (P : Program) (G : Gl) (f : FuncId) (args : List AV) (K : AV → Prop) : Prop := ∃ X,ACp P G f args X ∧ args.all (ltT 0) = true ∧ K X
def stepD (P : Program) (G : Gl) (o : Oper) (s : ASt) (K : AV → Prop) : Prop :=
 match o.op with
 |.call { callee := .value (.func f),args := args,argTypes := _ }=>callD P G f ((args.toList.map (ev G s.T)).map (ro s.H)) K
 |_=>loud o.op = false ∧ z0w P G o s fun d H'=>H' = s.H ∧ K d
theorem zrc {l : List AV} {i : Nat} {K : AV → Prop} (h : nth l i K) : ∃ d,nth l i (· = d) ∧ K d := by obtain ⟨d,h1,h2⟩ := h;exact ⟨d,⟨d,h1,rfl⟩,h2⟩
theorem zbV {k : Nat} {l : List AV} {i : Nat} {K : AV → Prop} (h : z7X k l i K) : ∃ d,z7X k l i (· = d) ∧ K d := by
 unfold z7X at h ⊢
 by_cases h1 : k = 1
 ·simp only [if_pos h1] at h ⊢;exact zrc h
 ·simp only [if_neg h1] at h ⊢;exact ⟨_,⟨h.1,h.2.1,rfl⟩,h.2.2⟩
theorem z5X {k : Nat} {l : List AV} {i : Nat} {K K' : AV → Prop} (h : z7X k l i K) (q : ∀ d,K d → K' d) : z7X k l i K' := by
 unfold z7X at h ⊢
 by_cases h1 : k = 1
 ·simp only [if_pos h1] at h ⊢;obtain ⟨d,h2,h3⟩ := h;exact ⟨d,h2,q d h3⟩
 ·simp only [if_neg h1] at h ⊢;exact ⟨h.1,h.2.1,q _ h.2.2⟩
theorem zgX {x : AV} {K : List AV → Prop} (h : z9l H x K) : ∃ es,z9l H x (· = es) ∧ K es := by
 unfold z9l at h ⊢
 split at h
 ·exact ⟨_,rfl,h⟩
 ·obtain ⟨o,h1,h2,h3,h4⟩ := h;exact ⟨_,⟨o,h1,h2,h3,rfl⟩,h4⟩
 ·exact ⟨_,rfl,h⟩
 ·exact ⟨_,rfl,h⟩
 ·exact h.elim
theorem z4z {x : AV} {K K' : List AV → Prop} (h : z9l H x K) (q : ∀ d,K d → K' d) : z9l H x K' := by
 unfold z9l at h ⊢
 split at h
 ·exact q _ h
 ·obtain ⟨o,h1,h2,h3,h4⟩ := h;exact ⟨o,h1,h2,h3,q _ h4⟩
 ·exact q _ h
 ·exact q _ h
 ·exact h.elim
theorem zne {x : Option AV} {d : Int} {K : Int → Prop} (h : asI x d K) : ∃ i,asI x d (· = i) ∧ K i := by
 unfold asI at h ⊢
 split at h
 ·exact ⟨_,rfl,h⟩
 ·exact ⟨_,rfl,h⟩
 ·exact h.elim
theorem z9B {x : Option AV} {d : Int} {K K' : Int → Prop} (h : asI x d K) (q : ∀ d,K d → K' d) : asI x d K' := by
 unfold asI at h ⊢
 split at h
 ·exact q _ h
 ·exact q _ h
 ·exact h.elim
theorem zsF {op : BinOp} {k k' : IntKind} {a b : Int} {K : AV → Prop} (h : aInt op k a k' b K) : ∃ d,aInt op k a k' b (· = d) ∧ K d := by
 cases op <;> simp only [aInt] at h ⊢ <;> first|exact ⟨_,⟨h.1,h.2.1,rfl⟩,h.2.2⟩|exact ⟨_,⟨h.1,rfl⟩,h.2⟩
theorem zsc {op : BinOp} {a b : ByteArray} {K : AV → Prop} (h : aStr op a b K) : ∃ d,aStr op a b (· = d) ∧ K d := by
 cases op <;> simp only [aStr] at h ⊢ <;> first|exact h.elim|exact ⟨_,⟨h.1,rfl⟩,h.2⟩|exact ⟨_,rfl,h⟩
theorem ztw {t : TypeId} {op : BinOp} {x y : AV} {K : AV → Prop} (h : aBin P t op x y K) : ∃ d,aBin P t op x y (· = d) ∧ K d := by
 unfold aBin at h ⊢
 split at h
 ·obtain ⟨us,vs,b,h1,h2,h3,h4⟩ := h
  exact ⟨_,⟨us,vs,b,h1,h2,h3,rfl⟩,h4⟩
 ·exact zsF h
 ·exact zsc h
 ·obtain ⟨hu,h⟩ := h
  cases op <;> simp only at h ⊢ <;> first|exact h.elim|exact ⟨_,⟨hu,rfl⟩,h⟩
 ·obtain ⟨hu,h⟩ := h
  cases op <;> simp only at h ⊢ <;> first|exact h.elim|exact ⟨_,⟨hu,rfl⟩,h⟩
 ·obtain ⟨hu,h⟩ := h
  cases op <;> simp only at h ⊢ <;> first|exact h.elim|exact ⟨_,⟨hu,rfl⟩,h⟩
 ·obtain ⟨hu,h⟩ := h
  cases op <;> simp only at h ⊢ <;> first|exact h.elim|exact ⟨_,⟨hu,rfl⟩,h⟩
 ·exact h.elim
theorem zvv {op : UnOp} {x : AV} {K : AV → Prop} (h : aUn op x K) : ∃ d,aUn op x (· = d) ∧ K d := by
 unfold aUn at h ⊢
 split at h <;> first|exact h.elim|exact ⟨_,rfl,h⟩
theorem zpH {x y z : AV} {K : AV → Prop} (h : aPick x y z K) : ∃ d,aPick x y z (· = d) ∧ K d := by
 unfold aPick at h ⊢
 split at h <;> first|exact h.elim|exact ⟨_,rfl,h⟩
theorem zmb {x : AV} {i : Nat} {K : AV → Prop} (h : zae x i K) : ∃ d,zae x i (· = d) ∧ K d := by
 unfold zae at h ⊢
 split at h
 ·exact zrc h
 ·exact h.elim
theorem zpu {ob : AObj} {K : List AV → Prop} (h : zgt ob K) : ∃ l,(∀ K' : List AV → Prop,K' l → zgt ob K') ∧ K l := by
 unfold zgt at h
 split at h
 ·rename_i e;exact ⟨_,fun K' q=>(by unfold zgt;rw [e];exact q),h⟩
 ·rename_i e;exact ⟨_,fun K' q=>(by unfold zgt;rw [e];exact ⟨h.1,q⟩),h.2⟩
 ·exact h.elim
theorem zc9 {k : Nat} {x : AV} {K : AV → Prop} (h : aLoad k H x K) : ∃ d,aLoad k H x (· = d) ∧ K d := by
 unfold aLoad at h ⊢
 split at h
 ·exact ⟨_,⟨h.1,rfl⟩,h.2⟩
 ·exact ⟨_,⟨h.1,rfl⟩,h.2⟩
 ·obtain ⟨ob,h1,h2⟩ := h
  obtain ⟨l,h3,h4⟩ := zpu h2
  obtain ⟨d,h5,h6⟩ := zbV h4
  exact ⟨d,⟨ob,h1,h3 _ h5⟩,h6⟩
 ·exact h.elim
theorem zow {f : Option (Nat × Nat)} {x : AV} {K : AV → Prop} (h : zis f x K) : ∃ d,zis f x (· = d) ∧ K d := by
 unfold zis at h ⊢
 split at h
 ·split at h
  ·obtain ⟨d,h4,h5⟩ := zbV h
   exact ⟨_,z5X h4 fun d e=>by rw [e],h5⟩
  ·exact ⟨_,rfl,h⟩
  ·exact h.elim
 ·exact h.elim
theorem znt {f : Option (Nat × Nat)} {x : AV} {K : AV → Prop} (h : zed f x K) : ∃ d,zed f x (· = d) ∧ K d := by
 unfold zed at h ⊢
 split at h
 ·split at h
  ·exact zbV h
  ·exact h.elim
 ·exact h.elim
theorem znO {ek : Nat} {x y : AV} {K : AV → Prop} (h : ze9 ek H x y K) : ∃ d,ze9 ek H x y (· = d) ∧ K d := by
 unfold ze9 at h ⊢
 split at h
 ·obtain ⟨h0,h1⟩ := h
  split at h1
  ·obtain ⟨a1,ob,a2,a3,a4,a5,a6⟩ := h1
   exact ⟨_,⟨h0,a1,ob,a2,a3,a4,a5,rfl⟩,a6⟩
  ·rename_i hne
   obtain ⟨es,h2,d,h3,h4,h5⟩ := zgX h1
   exact ⟨_,⟨h0,z4z h2 fun es' e=>by subst e;exact ⟨d,h3,h4,rfl⟩⟩,h5⟩
 ·exact h.elim
theorem znn {t : TypeId} {x y : AV} {K : AV → Prop} (h : zcU P t H x y K) : ∃ d,zcU P t H x y (· = d) ∧ K d := by
 unfold zcU at h ⊢
 split at h
 ·exact znO h
 ·split at h
  ·split at h
   ·obtain ⟨h0,h1,h2⟩ := h
    split at h2
    ·obtain ⟨d,h4,h5⟩ := zbV h2
     exact ⟨_,⟨h0,h1,z5X h4 fun d e=>by rw [e]⟩,h5⟩
    ·exact ⟨_,⟨h0,h1,rfl⟩,h2⟩
    ·exact h2.elim
   ·exact h.elim
  ·exact h.elim
theorem znw {t : TypeId} {x y : AV} {K : AV → Prop} (h : zdY P t x y K) : ∃ d,zdY P t x y (· = d) ∧ K d := by
 unfold zdY at h ⊢
 split at h
 ·split at h
  ·exact ⟨_,⟨h.1,h.2.1,h.2.2.1,rfl⟩,h.2.2.2⟩
  ·split at h
   ·obtain ⟨h0,h1,h2⟩ := h
    obtain ⟨d,h4,h5⟩ := zbV h2
    exact ⟨_,⟨h0,h1,h4⟩,h5⟩
   ·exact h.elim
  ·exact h.elim
 ·exact h.elim
theorem zo0 {t : TypeId} {x : AV} {lo hi : Option AV} {K : AV → Prop} (h : zhH P t H x lo hi K) : ∃ d,zhH P t H x lo hi (· = d) ∧ K d := by
 unfold zhH at h ⊢
 split at h
 ·obtain ⟨hu,h⟩ := h
  obtain ⟨l,h1,h⟩ := zne h
  obtain ⟨k,h2,c0,c1,c2,h⟩ := zne h
  exact ⟨_,⟨hu,z9B h1 fun l' e=>by subst e;exact z9B h2 fun k' e=>by subst e;exact ⟨c0,c1,c2,rfl⟩⟩,h⟩
 ·split at h
  ·obtain ⟨es,h0,hall,h⟩ := zgX h
   obtain ⟨l,h1,h⟩ := zne h
   obtain ⟨k,h2,c0,c1,c2,h⟩ := zne h
   exact ⟨_,z4z h0 fun es' e=>by subst e;exact ⟨hall,z9B h1 fun l' e=>by subst e;exact z9B h2 fun k' e=>by subst e;exact ⟨c0,c1,c2,rfl⟩⟩,h⟩
  ·exact h.elim
theorem ztD {t : TypeId} {x : AV} {K : AV → Prop} (h : aLen P t H x K) : ∃ d,aLen P t H x (· = d) ∧ K d := by
 unfold aLen at h ⊢
 split at h
 ·exact ⟨_,⟨h.1,rfl⟩,h.2⟩
 ·exact ⟨_,⟨h.1,rfl⟩,h.2⟩
 ·exact ⟨_,⟨h.1,rfl⟩,h.2⟩
 ·obtain ⟨es,h1,h2⟩ := zgX h.2
  exact ⟨_,⟨h.1,z4z h1 fun es' e=>by subst e;rfl⟩,h2⟩
theorem zsB {x : AV} {K : AV → Prop} (h : aNil x K) : ∃ d,aNil x (· = d) ∧ K d := by
 unfold aNil at h ⊢
 split at h <;> first|exact h.elim|exact ⟨_,rfl,h⟩
theorem zpK {t t' : TypeId} {x : AV} {K : AV → Prop} (h : aConv P t t' x K) : ∃ d,aConv P t t' x (· = d) ∧ K d := by
 unfold aConv at h ⊢
 split at h
 ·obtain ⟨h1,h⟩ := h
  split at h
  ·exact ⟨_,⟨h1,rfl⟩,h⟩
  ·exact h.elim
 ·rcases h with h|h
  ·exact ⟨_, .inl ⟨h.1,h.2.1,rfl⟩,h.2.2⟩
  ·exact ⟨_, .inr ⟨h.1,h.2.1,h.2.2.1,rfl⟩,h.2.2.2⟩
 ·obtain ⟨h1,h2,h⟩ := h
  split at h
  ·exact ⟨_,⟨h1,h2,rfl⟩,h⟩
  ·exact h.elim
 ·exact h.elim
theorem zp3 {t : TypeId} {ps : List (Nat × AV)} {K : AV → Prop} (h : zin P t ps K) : ∃ d,zin P t ps (· = d) ∧ K d := by
 unfold zin at h ⊢
 split at h
 ·split at h
  ·exact ⟨_,rfl,h⟩
  ·exact h.elim
 ·exact h.elim
theorem znE {t : TypeId} {m : Nat} {ps : List (Nat × AV)} {K : AV → Prop} (h : zdU P t m ps K) : ∃ d,zdU P t m ps (· = d) ∧ K d := by
 unfold zdU at h ⊢
 split at h
 ·exact ⟨_,⟨h.1,h.2.1,h.2.2.1,h.2.2.2.1,rfl⟩,h.2.2.2.2⟩
 ·exact h.elim
theorem zo5 {o : Oper} (hq : loud o.op = false) {K : AV → Prop} (h : z0w P G o s fun d H'=>H' = s.H ∧ K d) : ∃ d,z0w P G o s (fun x H'=>H' = s.H ∧ x = d) ∧ K d := by
 unfold z0w at h ⊢
 split at h
 ·exact ⟨_,⟨rfl,rfl⟩,h.2⟩
 ·exact ⟨_,⟨rfl,rfl⟩,h.2⟩
 ·obtain ⟨d,h1,_,h2⟩ := zpH h;exact ⟨d,by simpa using h1,h2⟩
 ·obtain ⟨d,h1,_,h2⟩ := ztw h;exact ⟨d,by simpa using h1,h2⟩
 ·obtain ⟨d,h1,_,h2⟩ := zvv h;exact ⟨d,by simpa using h1,h2⟩
 ·rename_i ho;rw [ho] at hq;cases hq
 ·rename_i ho;rw [ho] at hq;cases hq
 ·obtain ⟨d,h1,_,h2⟩ := zp3 h;exact ⟨d,by simpa using h1,h2⟩
 ·obtain ⟨d,h1,_,h2⟩ := znE h;exact ⟨d,by simpa using h1,h2⟩
 ·obtain ⟨d,h1,_,h2⟩ := zc9 h;exact ⟨d,by simpa using h1,h2⟩
 ·rename_i ho;rw [ho] at hq;cases hq
 ·obtain ⟨d,h1,_,h2⟩ := zsB h;exact ⟨d,by simpa using h1,h2⟩
 ·obtain ⟨d,h1,_,h2⟩ := zpK h;exact ⟨d,by simpa using h1,h2⟩
 ·obtain ⟨d,h1,_,h2⟩ := zmb h;exact ⟨d,by simpa using h1,h2⟩
 ·obtain ⟨d,h1,_,h2⟩ := zow h;exact ⟨d,by simpa using h1,h2⟩
 ·obtain ⟨d,h1,_,h2⟩ := znt h;exact ⟨d,by simpa using h1,h2⟩
 ·obtain ⟨d,h1,_,h2⟩ := znn h;exact ⟨d,by simpa using h1,h2⟩
 ·obtain ⟨d,h1,_,h2⟩ := znw h;exact ⟨d,by simpa using h1,h2⟩
 ·obtain ⟨d,h1,_,h2⟩ := zo0 h;exact ⟨d,by simpa using h1,h2⟩
 ·rename_i ho;rw [ho] at hq;cases hq
 ·rename_i ho;rw [ho] at hq;cases hq
 ·rename_i ho;rw [ho] at hq;cases hq
 ·obtain ⟨d,h1,_,h2⟩ := ztD h;exact ⟨d,by simpa using h1,h2⟩
 ·rename_i ho;rw [ho] at hq;cases hq
 ·rename_i ho;rw [ho] at hq;cases hq
 ·rename_i ho;rw [ho] at hq;cases hq
 ·obtain ⟨d,h1,_,h2⟩ := h;exact ⟨d,⟨d,h1,rfl,rfl⟩,h2⟩
 ·rename_i ho;rw [ho] at hq;cases hq
 ·rename_i ho;rw [ho] at hq;cases hq
 ·exact h.elim
theorem zn3 {o : Oper} {K : AV → Prop} (h : stepD P G o s K) : ∃ d,stepD P G o s (· = d) ∧ K d := by
 unfold stepD at h ⊢
 split at h
 ·obtain ⟨X,h1,h2,h3⟩ := h;exact ⟨X,⟨X,h1,h2,rfl⟩,h3⟩
 ·obtain ⟨hq,h⟩ := h
  obtain ⟨d,h1,h2⟩ := zo5 hq h
  exact ⟨d,⟨hq,h1⟩,h2⟩
def zqF (o : Oper) : List Nat := (o.op.operands.toList.filterMap fun x=>match x with|.tmp t=>some t|_=>none)
def zmK (T T' : Tm) (o : Oper) : Prop := ∀ t ∈ zqF o,get T t = get T' t
theorem zpo {T T' : Tm} {o : Oper} (h : zmK T T' o) {x : Operand} (hx : x ∈ o.op.operands.toList) : ev G T x = ev G T' x := by
 cases x with
 |tmp t=>exact h t (List.mem_filterMap.2 ⟨.tmp t,hx,rfl⟩)
 |const v=>rfl
 |global g=>rfl
 |func f=>rfl
theorem zk7 {H : List AObj} {T T' : Tm} {o : Oper} (h : zmK T T' o) {K : AV → Prop} (hs : stepD P G o ⟨H,T⟩ K) : stepD P G o ⟨H,T'⟩ K := by
 obtain ⟨dst,op,ty,pos,af,gd⟩ := o
 have e : ∀ x,x ∈ op.operands.toList → ev G T x = ev G T' x := fun x hx=>zpo h hx
 cases op with
 |move x=>simpa [stepD,z0w,loud,e x (by simp [Op.operands])] using hs
 |assign x=>simpa [stepD,z0w,loud,e x (by simp [Op.operands])] using hs
 |pick x y z=>simpa [stepD,z0w,loud,e x (by simp [Op.operands]),e y (by simp [Op.operands]),e z (by simp [Op.operands])] using hs
 |binOp b t x y t'=>simpa [stepD,z0w,loud,e x (by simp [Op.operands]),e y (by simp [Op.operands])] using hs
 |unOp b t x=>simpa [stepD,z0w,loud,e x (by simp [Op.operands])] using hs
 |alloc t=>simp [stepD,loud] at hs
 |box t x=>simp [stepD,loud] at hs
 |store t x y=>simp [stepD,loud] at hs
 |build t ps =>
  have : (ps.toList.map fun p=>(p.1,ev G T p.2)) = ps.toList.map fun p=>(p.1,ev G T' p.2) := List.map_congr_left fun p hp=>by
   rw [e p.2 (by simp only [Op.operands,List.mem_map];exact ⟨p,hp,rfl⟩)]
  simpa [stepD,z0w,loud,this] using hs
 |buildSlice t m ps =>
  have : (ps.toList.map fun p=>(p.1,ev G T p.2)) = ps.toList.map fun p=>(p.1,ev G T' p.2) := List.map_congr_left fun p hp=>by
   rw [e p.2 (by simp only [Op.operands,List.mem_map];exact ⟨p,hp,rfl⟩)]
  simpa [stepD,z0w,loud,this] using hs
 |load t x=>simpa [stepD,z0w,loud,e x (by simp [Op.operands])] using hs
 |nilCheck x=>simpa [stepD,z0w,loud,e x (by simp [Op.operands])] using hs
 |lookup t x y ok=>simpa [stepD,z0w,loud,e x (by simp [Op.operands]),e y (by simp [Op.operands])] using hs
 |convert a b x=>simpa [stepD,z0w,loud,e x (by simp [Op.operands])] using hs
 |extract x i=>simpa [stepD,z0w,loud,e x (by simp [Op.operands])] using hs
 |fieldAddr t x i=>simpa [stepD,z0w,loud,e x (by simp [Op.operands])] using hs
 |field t x i=>simpa [stepD,z0w,loud,e x (by simp [Op.operands])] using hs
 |indexAddr t x y=>simpa [stepD,z0w,loud,e x (by simp [Op.operands]),e y (by simp [Op.operands])] using hs
 |index t x y=>simpa [stepD,z0w,loud,e x (by simp [Op.operands]),e y (by simp [Op.operands])] using hs
 |slice t x lo hi mx =>
  have e1 : lo.map (ev G T) = lo.map (ev G T') := by cases lo with|none=>rfl|some y=>simp [e y (by simp [Op.operands])]
  have e2 : hi.map (ev G T) = hi.map (ev G T') := by cases hi with|none=>rfl|some y=>simp [e y (by simp [Op.operands])]
  cases mx with
  |none=>simpa [stepD,z0w,loud,e x (by simp [Op.operands]),e1,e2] using hs
  |some y=>simp [stepD,z0w,loud] at hs
 |call c =>
  obtain ⟨callee,args,ts⟩ := c
  cases callee with
  |value x =>
   cases x with
   |func f =>
    have : args.toList.map (ev G T) = args.toList.map (ev G T') := List.map_congr_left fun x hx=>e x (by simp [Op.operands,Call.operands];exact .inr (by simpa using hx))
    simpa [stepD,this] using hs
   |tmp t=>simp [stepD,loud] at hs
   |const v=>simp [stepD,loud] at hs
   |global g=>simp [stepD,loud] at hs
  |invoke r m=>simp [stepD,loud] at hs
  |builtin b =>
   by_cases hb : b = .len
   ·subst hb
    obtain ⟨al⟩ := args
    obtain ⟨tl⟩ := ts
    rcases al with _|⟨x,_|⟨y,r⟩⟩
    ·simp [stepD,z0w,loud] at hs
    ·rcases tl with _|⟨t,_|⟨t',r'⟩⟩
     ·simp [stepD,z0w,loud] at hs
     ·simpa [stepD,z0w,loud,e x (by simp [Op.operands,Call.operands])] using hs
     ·simp [stepD,z0w,loud] at hs
    ·simp [stepD,z0w,loud] at hs
   ·exfalso
    obtain ⟨hq,_⟩ := (show loud (.call ⟨.builtin b,args,ts⟩) = false ∧ _ from by simpa [stepD] using hs)
    cases b <;> first|exact hb rfl|cases hq
 |_=>simp [stepD,z0w,loud] at hs
end
end Go.Proofs.Ytaaogcnjfkgnoaa

namespace Go.Proofs.Ytaaogcnjfkgnoaa
open Go.RowKit
section
variable {P : Program} {G : Gl} {N : FS} {n : Nat} {s : ASt} {H : List AObj} {T : Tm} {w w0 w' : World} {S S0 S1 S2 : SS} {μ : List Value}
structure Good (w0 : World) (S0 : SS) (μ : List Value) (H : List AObj) (w : World) (S : SS) : Prop where
 rel : Rel w S μ H
 step : Step H.length w0 S0 μ H w S μ H
theorem Good.gr (h : Good w0 S0 μ H w S) (hg : Gr w w') : Good w0 S0 μ H w' S := by
 obtain ⟨r,st⟩ := h.rel.grow hg (fun _ _ _ q=>q) (fun _ _ _ q=>.inl q) (fun b j d q hb=>by have := h.rel.still_lt q;omega)
 exact ⟨r,h.step.trans st⟩
theorem Good.ext (h : Good w0 S0 μ H w S) : Ext S0 μ S μ := ⟨h.step.still,fun i x hx=>⟨x,hx, .inl rfl⟩⟩
def Reads (w0 : World) (S0 : SS) (μ : List Value) (H : List AObj) (d : AV) (v : Value) (w : World) : Prop := ∃ S,Good w0 S0 μ H w S ∧ rep S μ d v
theorem Reads.gr {d : AV} {v : Value} (h : Reads w0 S0 μ H d v w) (hg : Gr w w') : Reads w0 S0 μ H d v w' := by obtain ⟨S,h1,h2⟩ := h;exact ⟨S,h1.gr hg,h2⟩
def envs : Tm → List Oper → List AV → Tm
 |T,o :: l,v :: vs=>envs (ASt.set ⟨[],T⟩ [] o.dst v).T l vs
 |T,_,_=>T
def zm5 (P : Program) (G : Gl) (ops : List Oper) (H : List AObj) (T : Tm) (o : Oper) (v : AV) : Prop :=
 match o.guard with
 |none=>stepD P G o ⟨H,T⟩ (· = v)
 |some (j,want)=>∃ t,dstAt ops j = some t ∧ ((∃ b,get T t = V (.bool b) ∧ (b = want → stepD P G o ⟨H,T⟩ (· = v)) ∧ (b ≠ want → v = UD)) ∨ ((∃ q,get T t = .iface q (.agg [])) ∧ v = UD))
theorem zlZ (T : Tm) (i : Nat) (v : AV) : get (ASt.set ⟨[],T⟩ [] (some i) v).T i = v := ze3 T i v
theorem zl0 (T : Tm) (d : Option Tmp) (k : Nat) (v : AV) (h : d ≠ some k) : get (ASt.set ⟨[],T⟩ [] d v).T k = get T k := by
 cases d with
 |none=>rfl
 |some i=>exact za2 T i k v (fun e=>h (by rw [e]))
theorem za9 : ∀ (l : List Oper) (vs : List AV) (T : Tm) (t : Nat),(∀ o ∈ l,o.dst ≠ some t) → get (envs T l vs) t = get T t
 |[],vs,T,t,_=>by cases vs <;> rfl
 |o :: l,[],T,t,_=>rfl
 |o :: l,v :: vs,T,t,h=>by
  simp only [envs]
  rw [za9 l vs _ t fun o' ho'=>h o' (List.mem_cons_of_mem _ ho')]
  exact zl0 T o.dst t v (h o (List.mem_cons_self ..))
theorem zet : ∀ (l : List Oper) (vs : List AV) (T : Tm) (t k : Nat) (o : Oper) (v : AV),l[k]? = some o → vs[k]? = some v → o.dst = some t → (∀ m o',l[m]? = some o' → o'.dst = some t → m = k) → get (envs T l vs) t = v
 |[],vs,T,t,k,o,v,ho,_,_,_=>by simp at ho
 |_ :: _,[],T,t,k,o,v,_,hv,_,_=>by simp at hv
 |o1 :: l,v1 :: vs,T,t,k,o,v,ho,hv,hd,hu=>by
  simp only [envs]
  rcases k with _|k
  ·simp at ho hv;subst ho hv
   rw [za9 l vs _ t fun o' ho' e=>?_,hd]
   ·exact zlZ T t v1
   ·obtain ⟨m,hm⟩ := List.getElem?_of_mem ho'
    have := hu (m + 1) o' (by simpa using hm) e
    omega
  ·simp only [List.getElem?_cons_succ] at ho hv
   exact zet l vs _ t k o v ho hv hd fun m o' hm e=>by have := hu (m + 1) o' (by simpa using hm) e;omega
end
end Go.Proofs.Ytaaogcnjfkgnoaa

namespace Go.Proofs.Ytaaogcnjfkgnoaa
open Go.RowKit
section
variable {P : Program} {ops : Array Oper}
def zaZ (ops : Array Oper) : Bool := (List.range ops.size).all fun k=>((ops[k]?).map fun ok=>ok.after.all fun e=>!Region.binds .any e || decide (e.on < k)).getD true
theorem zcz (h : zaZ ops = true) {k : Nat} {ok : Oper} (hk : ops[k]? = some ok) : ∀ e ∈ ok.after,Region.binds .any e = true → e.on < k := by
 intro e he hb
 have h1 := List.all_eq_true.1 h k (List.mem_range.2 (Array.getElem?_eq_some_iff.1 hk).1)
 rw [hk] at h1
 simp only [Option.map_some,Option.getD_some] at h1
 rw [Array.all_eq_true_iff_forall_mem] at h1
 have := h1 e he
 simpa [hb] using this
def zq8 (ops : Array Oper) (listed : Array Bool) : Prop := ∀ (k : Nat) (ok : Oper),ops[k]? = some ok → listed.getD k false = true → ∀ e ∈ ok.after,Region.binds .any e = true → listed.getD e.on false = true
def Leads (P : Program) (ops : Array Oper) (o : Oper) (a : Act) (w : World) (J : Act → World → Prop) : Prop := wpList P ops (fun e a' w'=>e = .normal ∧ J a' w') [o] a w
theorem zll {o : Oper} {j : Nat} (hj : ops[j]? = some o) {a : Act} {w : World} {J : Act → World → Prop} {K : Act → World → Prop} {Q : Exit → Act → World → Prop}
  (h : Leads P ops o a w J) (hK : ∀ a' w',J a' w' → K a' w') : wpOp P ops Q j K a w := by
 unfold wpOp
 rw [hj]
 unfold Leads wpList at h
 simp only
 split
 ·rename_i hw
  rw [if_pos hw] at h
  rcases h with h|⟨_,_,_,h,_⟩
  ·exact .inl (Oper.wp_mono2 (fun a' w' hh=>hK _ _ hh.2) (fun e a' w' hne hh=>absurd hh.1 hne) h)
  ·cases h
 ·rename_i hw
  rw [if_neg hw] at h
  exact hK _ _ h.2
theorem wpAny_of_inv {J : Array Bool → Act → World → Prop} {Q : Exit → Act → World → Prop} (hsh : zaZ       ops = true)
    (hop : ∀ listed a w j o, ops[j]? = some o → listed.size = ops.size → listed.getD j false = false → (∀ e ∈ o.after, Region.binds .any e = true → listed.getD e.on false = true) → zq8    ops listed → J listed a w →
      Leads P ops o a w (J (listed.setIfInBounds j true)))
    (hend : ∀ listed a w, (∀ k, k < ops.size → listed.getD k false = true) → J listed a w → Q .normal a w) :
    ∀ (fuel : Nat) (listed : Array Bool) (a : Act) (w : World), listed.size = ops.size → zq8    ops listed → J listed a w → ((List.range ops.size).filter fun i => !listed.getD i false).length ≤ fuel → wpAny P .any ops Q fuel listed a w := by
  have hfin : ∀ (listed : Array Bool) (a : Act) (w : World), listed.size = ops.size → J listed a w → Region.ready .any ops listed = [] → Q .normal a w := by
    intro listed a w hs hI hr
    refine hend listed a w ?_ hI
    have hall : ∀ n k, k < n → k < ops.size → listed.getD k false = true := by
      intro n
      induction n with
      | zero => intro k hk; omega
      | succ n ih =>
        intro k hk hks
        cases hl : listed.getD k false with
        | true => rfl
        | false =>
          exfalso
          have hk' : ops[k]? = some ops[k] := Array.getElem?_eq_getElem hks
          have : k ∈ Region.ready .any ops listed := by
            rw [mem_ready]
            refine ⟨?_, _, hk', fun e he hb => ?_⟩
            · have hkl : k < listed.size := by rw [hs]; exact hks
              simp only [Array.getD_eq_getD_getElem?, Array.getElem?_eq_getElem hkl, Option.getD_some] at hl ⊢; exact hl
            · have he2 := zcz            hsh hk' e he hb
              exact ih e.on (by omega) (by omega)
          rw [hr] at this; cases this
    exact fun k hk => hall (k + 1) k (by omega) hk
  intro fuel
  induction fuel with
  | zero =>
    intro listed a w hs _ hI hlen
    have hr : Region.ready .any ops listed = [] := by
      apply List.eq_nil_iff_forall_not_mem.2
      intro j hj
      obtain ⟨h1, o, ho, _⟩ := mem_ready.1 hj
      have hjl : j < ops.size := (Array.getElem?_eq_some_iff.1 ho).1
      have h0 : (List.range ops.size).filter (fun i => !listed.getD i false) = [] := List.eq_nil_of_length_eq_zero (by omega)
      have : j ∈ (List.range ops.size).filter (fun i => !listed.getD i false) := by
        rw [List.mem_filter]; refine ⟨List.mem_range.2 hjl, ?_⟩
        rw [zc3                (by rw [hs]; exact hjl) h1]; rfl
      rw [h0] at this; cases this
    exact ⟨hr, hfin _ _ _ hs hI hr⟩
  | succ fuel ih =>
    intro listed a w hs hcl hI hlen
    refine ⟨hfin _ _ _ hs hI, fun j hj => ?_⟩
    obtain ⟨h1, o, ho, hedges⟩ := mem_ready.1 hj
    have hjl : j < ops.size := (Array.getElem?_eq_some_iff.1 ho).1
    have hjs : j < listed.size := by rw [hs]; exact hjl
    have hjf := zc3                hjs h1
    have hset : ∀ k, k ≠ j → (listed.setIfInBounds j true).getD k false = listed.getD k false := fun k hk => getD_set_ne false (fun e => hk e.symm)
    refine zll           ho (hop listed a w j o ho hs hjf (fun e he hb => hedges e he hb) hcl hI) fun a' w' hJ => ih _ _ _ (by simp [hs]) ?_ hJ ?_
    · intro k ok hk hl e he hb
      have mono : ∀ m, listed.getD m false = true → (listed.setIfInBounds j true).getD m false = true := fun m hm => getD_set_true hm
      by_cases hkj : k = j
      · subst hkj
        rw [ho] at hk; injection hk with hk; subst hk
        exact mono _ (hedges e he hb)
      · rw [hset k hkj] at hl
        exact mono _ (hcl k ok hk hl e he hb)
    · refine Nat.le_of_lt_succ (Nat.lt_of_lt_of_le (zmJ       (List.mem_range.2 hjl) (by rw [hjf]; rfl) (by rw [zea           hjs]; rfl) fun x hx => ?_) hlen)
      by_cases hxj : x = j
      · subst hxj; rw [zea           hjs] at hx; cases hx
      · rwa [getD_set_ne false (fun e => hxj e.symm)] at hx
theorem wp_region_inv {id : Nat} {a0 : Act} {w0 : World} {Q : Exit → Act → World → Prop} (J : Array Bool → Act → World → Prop) (hm : P.follows .mixedOrders = true) (hsh : zaZ       ops = true)
    (hop : ∀ listed a w j o, ops[j]? = some o → listed.size = ops.size → listed.getD j false = false → (∀ e ∈ o.after, Region.binds .any e = true → listed.getD e.on false = true) → zq8    ops listed → J listed a w →
      Leads P ops o a w (J (listed.setIfInBounds j true)))
    (hend : ∀ listed a w, (∀ k, k < ops.size → listed.getD k false = true) → J listed a w → Q .normal a w)
    (h0 : ∀ listed : Array Bool, (∀ k, listed.getD k false = false) → J listed a0 w0.drew) : (Code.region id ops true).wp P Q a0 w0 := by
  refine wp_region_any hm (wpAny_of_inv hsh hop hend _ _ _ _ (by simp) ?_ (h0 _ fun k => ?_) ?_)
  · intro k ok hk hl
    have : k < ops.size := (Array.getElem?_eq_some_iff.1 hk).1
    simp [Array.getD_eq_getD_getElem?, this] at hl
  · rw [Array.getD_eq_getD_getElem?]
    cases h : (Array.replicate ops.size false)[k]? with
    | none => rfl
    | some b => rw [Array.getElem?_replicate] at h; split at h <;> simp_all
  · exact Nat.le_trans (List.length_filter_le _ _) (by simp)
end
def zmV : Op → Bool
 |.move _|.assign _|.pick ..|.binOp ..|.unOp ..|.extract ..|.field ..|.build ..|.fieldAddr ..|.nilCheck _=>true
 |_=>false
def ziz : Op → Bool|.store ..=>true|_=>false
def zlM : Op → Bool|.alloc _=>true|_=>false
section
variable {P : Program} {G : Gl} {N : FS} {n : Nat} {s : ASt} {H H' X : List AObj} {T : Tm}
theorem zqr {o : Oper} (hr : zmV o.op = true) {K : AV → Prop} (h : stepD P G o ⟨H,T⟩ K) : stepD P G o ⟨H',T⟩ K := by
 obtain ⟨dst,op,ty,pos,af,gd⟩ := o
 cases op <;> first|(simp [zmV] at hr;done)|simpa [stepD,z0w,loud] using h
theorem zmh {i : Nat} {K : AObj → Prop} (h : nthO H i K) : nthO (H ++ X) i K := by
 obtain ⟨o,h1,h2⟩ := h
 exact ⟨o,by rw [List.getElem?_append_left (List.getElem?_eq_some_iff.1 h1).1];exact h1,h2⟩
theorem zgu {x : AV} {K : List AV → Prop} (h : z9l H x K) : z9l (H ++ X) x K := by
 unfold z9l at h ⊢
 split at h
 ·exact h
 ·exact zmh h
 ·exact h
 ·exact h
 ·exact h.elim
theorem zrI {d : AV} (h : lt1 0 (ro1 H d) = true) : ro1 (H ++ X) d = ro1 H d := by
 unfold ro1 at h ⊢
 split at h
 ·rename_i i m
  cases hi : H[i]? with
  |none=>rw [hi] at h;simp [lt1] at h
  |some o=>rw [List.getElem?_append_left (List.getElem?_eq_some_iff.1 hi).1,hi]
 ·rfl
 ·rfl
theorem zqO {d : AV} (h : ltA 0 (roA H d) = true) : roA (H ++ X) d = roA H d := by
 unfold roA at h ⊢
 split at h
 ·rename_i cs
  simp only [ltA,List.all_eq_true,List.mem_map] at h
  simp only [DataW.agg.injEq]
  exact List.map_congr_left fun x hx=>zrI (h _ ⟨x,hx,rfl⟩)
 ·rename_i hne
  refine zrI ?_
  unfold ltA at h
  split at h
  ·rename_i cs hcs;exact absurd hcs (zmI hne cs)
  ·exact h
theorem zwJ {d : AV} (h : ltT 0 (ro H d) = true) : ro (H ++ X) d = ro H d := by
 unfold ro at h ⊢
 split at h
 ·rename_i ss ds
  simp only [ltT,List.all_eq_true,List.mem_map] at h
  simp only [DataW.iface.injEq,DataW.agg.injEq,true_and]
  exact List.map_congr_left fun x hx=>zqO (h _ ⟨x,hx,rfl⟩)
 ·rename_i hne
  refine zqO ?_
  unfold ltT at h
  split at h
  ·rename_i ss ds hcs
   exfalso
   unfold roA at hcs
   split at hcs
   ·cases hcs
   ·exact hne _ _ (zpE hcs)
  ·exact h
theorem zmy {o : Oper} {K : AV → Prop} (h : stepD P G o ⟨H,T⟩ K) : stepD P G o ⟨H ++ X,T⟩ K := by
 obtain ⟨dst,op,ty,pos,af,gd⟩ := o
 by_cases hr : zmV op = true
 ·exact zqr hr h
 cases op with
 |load t x =>
  simp only [stepD,z0w,loud,true_and] at h ⊢
  unfold aLoad at h ⊢
  split at h
  ·exact h
  ·exact h
  ·exact zmh h
  ·exact h
 |indexAddr t x y =>
  simp only [stepD,z0w,loud,true_and] at h ⊢
  unfold zcU at h ⊢
  split at h
  ·unfold ze9 at h ⊢
   split at h
   ·refine ⟨h.1,?_⟩
    have h2 := h.2
    split at h2
    ·exact ⟨h2.1,zmh h2.2⟩
    ·exact zgu h2
   ·exact h
  ·exact h
 |slice t x lo hi mx =>
  cases mx with
  |none =>
   simp only [stepD,z0w,loud,true_and] at h ⊢
   unfold zhH at h ⊢
   split at h
   ·exact h
   ·split at h
    ·exact zgu h
    ·exact h
  |some y=>simp [stepD,z0w,loud] at h
 |call c =>
  obtain ⟨callee,args,ts⟩ := c
  cases callee with
  |value x =>
   cases x with
   |func f =>
    obtain ⟨X',h1,h2,h3⟩ := h
    have e : (args.toList.map (ev G T)).map (ro (H ++ X)) = (args.toList.map (ev G T)).map (ro H) := List.map_congr_left fun d hd=>zwJ ((List.all_eq_true.1 h2) _ (List.mem_map.2 ⟨d,hd,rfl⟩))
    exact ⟨X',by show ACp P G f ((args.toList.map (ev G T)).map (ro (H ++ X))) X';rw [e];exact h1,by show ((args.toList.map (ev G T)).map (ro (H ++ X))).all (ltT 0) = true;rw [e];exact h2,h3⟩
   |tmp t=>simp [stepD,loud] at h
   |const v=>simp [stepD,loud] at h
   |global g=>simp [stepD,loud] at h
  |invoke r m=>simp [stepD,loud] at h
  |builtin b =>
   by_cases hb : b = .len
   ·subst hb
    obtain ⟨al⟩ := args
    obtain ⟨tl⟩ := ts
    rcases al with _|⟨x,_|⟨y,r⟩⟩
    ·simp [stepD,z0w,loud] at h
    ·rcases tl with _|⟨t,_|⟨t',r'⟩⟩
     ·simp [stepD,z0w,loud] at h
     ·simp only [stepD,z0w,loud,true_and] at h ⊢
      unfold aLen at h ⊢
      split at h
      ·exact h
      ·exact h
      ·exact h
      ·exact ⟨h.1,zgu h.2⟩
     ·simp [stepD,z0w,loud] at h
    ·simp [stepD,z0w,loud] at h
   ·exfalso
    obtain ⟨hq,_⟩ := (show loud (.call ⟨.builtin b,args,ts⟩) = false ∧ _ from by simpa [stepD] using h)
    cases b <;> first|exact hb rfl|cases hq
 |index t x y=>simpa [stepD,z0w,loud] using h
 |convert a b x =>
  simp only [stepD,z0w,loud,true_and] at h ⊢
  have e : ro (H ++ X) (ev G T x) = ro H (ev G T x) := by
   refine zwJ ?_
   unfold aConv at h
   split at h
   ·rename_i hx;rw [hx];rfl
   ·rename_i hx;rw [hx];rfl
   ·rename_i hx;rw [hx];rfl
   ·exact h.elim
  show aConv P a b (ro (H ++ X) (ev G T x)) _
  rw [e];exact h
 |buildSlice t m ps=>simpa [stepD,z0w,loud] using h
 |lookup t x y ok =>
  simp only [stepD,z0w,loud,true_and] at h ⊢
  obtain ⟨d,h1,h2⟩ := h
  exact ⟨d,h1.more X,h2⟩
 |_=>first|(exfalso;exact hr rfl)|(simp [stepD,z0w,loud] at h;done)
end
end Go.Proofs.Ytaaogcnjfkgnoaa

namespace Go.Proofs.Ytaaogcnjfkgnoaa
open Go.RowKit
section
variable {P : Program} {G : Gl} {N : FS} {n : Nat} {s : ASt} {H H' X : List AObj} {T : Tm}
def zx9 (o : Oper) (i : Nat) : Bool := o.after.any fun e=>Region.binds .any e && e.on == i
structure TailOK (ops : List Oper) (m N : Nat) : Prop where
 le : m ≤ ops.length
 quiet : (ops.take m).all (fun o=>!zlM o.op && !ziz o.op) = true
 dst : ∀ (k d : Nat) (o : Oper),ops[k]? = some o → o.dst = some d → d < N ∧ ∀ (q : Nat) (oq : Oper),ops[q]? = some oq → oq.dst = some d → q = k
 nodst : ∀ (k : Nat) (o : Oper),ops[k]? = some o → o.dst = none → ziz o.op = true
 store : ∀ (k : Nat) (o : Oper),ops[k]? = some o → ziz o.op = true → ∀ (i : Nat) (oi : Oper),ops[i]? = some oi → i ≠ k → zmV oi.op = false → (ziz oi.op = false ∨ i < k) → zx9 o i = true
 alloc : ∀ (k i : Nat) (o oi : Oper),ops[k]? = some o → zlM o.op = true → ops[i]? = some oi → zlM oi.op = true → i = k
end
end Go.Proofs.Ytaaogcnjfkgnoaa

namespace Go.Proofs.Ytaaogcnjfkgnoaa
open Go.RowKit
section
variable {P : Program} {G : Gl} {N : FS} {n : Nat}
def HD (ops : List Oper) (B : List AObj) (hs : Nat → List AObj) (listed : Array Bool) (Hc : List AObj) : Prop :=
  (∃ (k : Nat) (o : Oper), ops[k]? = some o ∧ ziz     o.op = true ∧ listed.getD k false = true ∧ (∀ (k' : Nat) (o' : Oper), ops[k']? = some o' → ziz     o'.op = true → listed.getD k' false = true → k' ≤ k) ∧ Hc = hs (k + 1)) ∨
  ((∀ (k : Nat) (o : Oper), ops[k]? = some o → ziz     o.op = true → listed.getD k false = false) ∧
    ((∃ (k : Nat) (o : Oper), ops[k]? = some o ∧ zlM     o.op = true ∧ listed.getD k false = true ∧ Hc = hs (k + 1)) ∨
     ((∀ (k : Nat) (o : Oper), ops[k]? = some o → zlM     o.op = true → listed.getD k false = false) ∧ Hc = B)))
def zrP (ops : List Oper) (listed : Array Bool) (t : Nat) : Prop := (∀ o ∈ ops,o.dst ≠ some t) ∨ ∃ (k : Nat) (o : Oper),ops[k]? = some o ∧ o.dst = some t ∧ listed.getD k false = true
structure JT (n : Nat) (N : FS) (ops : List Oper) (B : List AObj) (hs : Nat → List AObj) (T0 E : Tm) (w0 : World) (S0 : SS) (μ0 : List Value) (listed : Array Bool) (a : Act) (w : World) (S : SS) (μ : List Value) (Hc : List AObj) : Prop where
 hd : HD ops B hs listed Hc
 rel : Rel w S μ Hc
 step : Step n w0 S0 μ0 B w S μ Hc
 len : n ≤ Hc.length
 size : a.tmps.size = N
 nodef : a.defers = N.d
 slot : ∀ t,zrP ops listed t → rep S μ (get E t) (a.tmps.getD t undef)
 start : ∀ t,(∀ (k : Nat) (o : Oper),ops[k]? = some o → o.dst = some t → listed.getD k false = false) → rep S μ (get T0 t) (a.tmps.getD t undef)
end
end Go.Proofs.Ytaaogcnjfkgnoaa

namespace Go.Proofs.Ytaaogcnjfkgnoaa
open Go.RowKit
section
variable {P : Program} {G : Gl} {N : FS} {n : Nat} {s s' : ASt} {H H' : List AObj} {T : Tm} {K : ASt → Prop} {K1 : AV → Prop} {K2 : AV → List AObj → Prop} {ops l r : List Oper} {dst : Option Tmp} {op : Op} {ty : TypeId} {pos : String} {af : Array Edge} {gd : Option (Nat × Bool)} {x y z : AV} {t t' : TypeId} {b : Bool}
variable {Q : Exit → ASt → Prop} {id : Nat} {c d e : Code}
theorem zzx {v : Value} : cap0 (V v) = true := _root_.id rfl
theorem zuH {i o : Nat} : cap0 (OP i o) = true := _root_.id rfl
theorem zsg : cap0 (.ptr x) = true := _root_.id rfl
theorem zsp : szOf 1 = 1 := _root_.id rfl
theorem zs7 {k : Nat} : szOf (k + 2) = k := by simp [szOf]
theorem zt7 {l : List UInt8} : (ByteArray.mk l.toArray).toList = l := by
 exact ByteArray.toList_mk l
theorem zul {l : List UInt8} {a c : Nat} : (ByteArray.mk l.toArray).extract a c = ⟨((l.drop a).take (c - a)).toArray⟩ := ByteArray.extract_mk l a c
theorem zt6 {l : List UInt8} : (ByteArray.mk l.toArray).data.toList = l := _root_.id rfl
theorem zwI {es : List AV} {h : Int} : cutE es 0 h = es.take h.toNat := by simp [cutE]
theorem zzq {es : List AV} {l : Int} : cutE es l (es.length : Int) = es.drop l.toNat := by simp [cutE]
end
end Go.Proofs.Ytaaogcnjfkgnoaa

namespace Go.Proofs.Ytaaogcnjfkgnoaa
open Go.ChangeShapes Go.WideShapes Go.ChangeAt Go.RowKit
def SWn (w : World) : Nat → SS
 |0,_,_,_=>False
 |n + 1,b,j,d=>∃ u,w.cell? ⟨b,j,none⟩ = some u ∧ u.oneCell' = true ∧ rep1 (SWn w n) [] d u
def SW (w : World) : SS := fun b j d=>∃ n,SWn w n b j d
theorem extS {S S' : SS} (h : ∀ b j d,S b j d → S' b j d) : Ext S [] S' [] := ⟨h,fun i x hx=>by simp at hx⟩
theorem SWn.succ {w : World} {n : Nat} : ∀ b j d,SWn w n b j d → SWn w (n + 1) b j d := by
 induction n with
 |zero=>intro b j d h;exact h.elim
 |succ n ih =>
  rintro b j d ⟨u,h1,h2,h3⟩
  exact ⟨u,h1,h2,h3.ext (extS ih)⟩
theorem zzH (w : World) : Rel w (SW w) [] [] := by
 refine ⟨rfl,?_,fun i x o hx=>by simp at hx,fun i x o hx=>by simp at hx,fun i i' x x' o o' b hx=>by simp at hx,fun i x o b hx=>by simp at hx⟩
 rintro b j d ⟨n,hn⟩
 cases n with
 |zero=>exact hn.elim
 |succ n =>
  obtain ⟨u,h1,h2,h3⟩ := hn
  exact ⟨u,h1,h2,h3.ext (extS fun _ _ _ q=>⟨n,q⟩)⟩
def isA : AV → Bool|.agg _=>true|_=>false
def aggT (P : Program) (t : TypeId) : Bool := match P.underlying t with|some (.struct _)|some (.array _ _)=>true|_=>false
def ofFs (F : TypeId → List AV → Prop) : List Field → List AV → Prop
 |[],ds=>ds = []
 |f :: fs,ds=>∃ a b,ds = a ++ b ∧ F f.type a ∧ ofFs F fs b
def ofT (P : Program) : Nat → TypeId → List AV → Prop
 |0,_,_=>False
 |n + 1,t,ds=>match P.underlying t with
  |some .bool=>∃ b,ds = [V (.bool b)]
  |some (.int k)=>∃ i,ds = [V (.int k i)] ∧ k.min ≤ i ∧ i ≤ k.max
  |some .string=>∃ s : List UInt8,ds = [V (.string ⟨s.toArray⟩)] ∧ s.length ≤ maxLen
  |some (.slice e)=>∃ es,ds = [SL es] ∧ es.length ≤ maxLen ∧ ∀ x ∈ es,ofT P n e (cellsOf x) ∧ isA x = aggT P e
  |some (.struct fs)=>ofFs (ofT P n) fs.toList ds
  |some (.array k e)=>∃ ps : List (List AV),ps.length = k ∧ ds = ps.flatten ∧ ∀ p ∈ ps,ofT P n e p
  |_=>False
def tiles (P : Program) : Nat → List Field → Nat → Bool
 |o,[],tot=>o == tot
 |o,f :: fs,tot=>f.offset == o && tiles P (o + P.cellsOf f.type) fs tot
def ziM (P : Program) : Nat → TypeId → Bool
 |0,_=>false
 |n + 1,t=>match P.underlying t with
  |some .bool|some (.int _)|some .string=>true
  |some (.slice e)=>ziM P n e && decide (0 < P.cellsOf e)
  |some (.struct fs)=>tiles P 0 fs.toList (P.cellsOf t) && fs.toList.all fun f=>ziM P n f.type
  |some (.array k e)=>ziM P n e && k * P.cellsOf e == P.cellsOf t
  |_=>false
theorem zpm {S : SS} {μ : List Value} {a b : List AV} {u v : List Value} (h : reps S μ a u) (k : reps S μ b v) : reps S μ (a ++ b) (u ++ v) := by
 refine ⟨by rw [List.length_append,List.length_append,h.1,k.1],fun j d x hd hx=>?_⟩
 by_cases hj : j < a.length
 ·rw [List.getElem?_append_left hj] at hd
  rw [List.getElem?_append_left (by rw [h.1];exact hj)] at hx
  exact h.2 j d x hd hx
 ·rw [List.getElem?_append_right (by omega)] at hd
  rw [List.getElem?_append_right (by rw [h.1];omega),h.1] at hx
  exact k.2 _ d x hd hx
theorem ziZ {S : SS} {μ : List Value} {d : AV} {u : Value} (h : u.oneCell' = true) (k : rep1 S μ d u) : reps S μ [d] [u] := by
 refine ⟨rfl,fun j x y hx hy=>?_⟩
 cases j with
 |zero=>simp at hx hy;subst hx hy;exact ⟨h,k⟩
 |succ j=>simp at hx
theorem zop {S : SS} {μ : List Value} : reps S μ [] [] := ⟨rfl,fun j x y hx=>by simp at hx⟩
theorem zr2 {P : Program} {n : Nat} {t : TypeId} {ds : List AV} (h : ofT P n t ds) (ha : aggT P t = false) : ∃ d,ds = [d] ∧ isA d = false := by
 cases n with
 |zero=>exact h.elim
 |succ n =>
  unfold ofT at h
  unfold aggT at ha
  split at h
  ·obtain ⟨b,rfl⟩ := h;exact ⟨_,rfl,rfl⟩
  ·obtain ⟨b,rfl,_⟩ := h;exact ⟨_,rfl,rfl⟩
  ·obtain ⟨b,rfl,_⟩ := h;exact ⟨_,rfl,rfl⟩
  ·obtain ⟨b,rfl,_⟩ := h;exact ⟨_,rfl,rfl⟩
  ·rename_i h2;rw [h2] at ha;simp at ha
  ·rename_i h2;rw [h2] at ha;simp at ha
  ·exact h.elim
def mkA (P : Program) (t : TypeId) (ds : List AV) : AV := if aggT P t then .agg ds else ds.headD .nil
theorem znb {P : Program} {n : Nat} {t : TypeId} {ds : List AV} (h : ofT P n t ds) : cellsOf (mkA P t ds) = ds ∧ isA (mkA P t ds) = aggT P t := by
 unfold mkA
 cases ha : aggT P t with
 |true=>exact ⟨rfl,rfl⟩
 |false =>
  obtain ⟨d,rfl,hd⟩ := zr2 h ha
  refine ⟨?_,by simpa using hd⟩
  simp only [Bool.false_eq_true,if_false,List.headD]
  cases d <;> first|rfl|(simp [isA] at hd)
theorem zr3 {P : Program} {n : Nat} {t : TypeId} {ds : List AV} (hu : P.underlying t = some .string) (h : ofT P n t ds) : ∃ s : List UInt8,ds = [V (.string ⟨s.toArray⟩)] ∧ s.length ≤ maxLen := by
 cases n with
 |zero=>exact h.elim
 |succ n=>unfold ofT at h;rw [hu] at h;exact h
theorem zxm {P : Program} {n : Nat} {t : TypeId} {ds : List AV} {k : IntKind} (hu : P.underlying t = some (.int k)) (h : ofT P n t ds) : ∃ i,ds = [V (.int k i)] ∧ k.min ≤ i ∧ i ≤ k.max := by
 cases n with
 |zero=>exact h.elim
 |succ n=>unfold ofT at h;rw [hu] at h;exact h
theorem zay {P : Program} {n : Nat} {t : TypeId} {ds : List AV} (hu : P.underlying t = some (.int .i64)) (h : ofT P n t ds) : ∃ i,ds = [V (.int .i64 i)] ∧ -9223372036854775808 ≤ i ∧ i < 9223372036854775808 := by
 obtain ⟨i,rfl,h1,h2⟩ := zxm hu h
 simp [IntKind.min,IntKind.max,IntKind.signed,IntKind.bits] at h1 h2
 exact ⟨i,rfl,h1,by omega⟩
theorem zgb {P : Program} {n : Nat} {t e : TypeId} {ds : List AV} (hu : P.underlying t = some (.slice e)) (h : ofT P n t ds) : ∃ (m : Nat) (es : List AV),ds = [SL es] ∧ es.length ≤ maxLen ∧ ∀ x ∈ es,ofT P m e (cellsOf x) ∧ isA x = aggT P e := by
 cases n with
 |zero=>exact h.elim
 |succ n=>unfold ofT at h;rw [hu] at h;exact ⟨n,h⟩
theorem zds {P : Program} {n : Nat} {t : TypeId} {fs : Array Field} {ds : List AV} (hu : P.underlying t = some (.struct fs)) (h : ofT P n t ds) : ∃ m,ofFs (ofT P m) fs.toList ds := by
 cases n with
 |zero=>exact h.elim
 |succ n=>unfold ofT at h;rw [hu] at h;exact ⟨n,h⟩
theorem zjF {α β : Type} {f : β → α} {Q : β → Prop} : ∀ {l : List α},(∀ x ∈ l,∃ y,x = f y ∧ Q y) → ∃ k : List β,l = k.map f ∧ ∀ y ∈ k,Q y
 |[],_=>⟨[],rfl,fun y hy=>by simp at hy⟩
 |x :: r,h=>by
  obtain ⟨y,rfl,hy⟩ := h _ (List.mem_cons_self ..)
  obtain ⟨k,rfl,hk⟩ := zjF fun z hz=>h z (List.mem_cons_of_mem _ hz)
  exact ⟨y :: k,rfl,fun z hz=>by
   rcases List.mem_cons.1 hz with rfl|hz
   ·exact hy
   ·exact hk z hz⟩
theorem zlt {x d : AV} (h : cellsOf x = [d]) (ha : isA x = false) : x = d := by
 cases x <;> simp_all [cellsOf,isA]
theorem zkH {x : AV} (ha : isA x = true) : x = .agg (cellsOf x) := by
 cases x <;> simp_all [cellsOf,isA]
def Arg (P : Program) (w : World) (t : TypeId) (v : Value) : Prop := ∃ n ds,ofT P n t ds ∧ rep (SW w) [] (mkA P t ds) v
section
variable {H : Type} {enc : TypeId × Value → H} {P : Program} {w : World} {sp : Nat → Bool} {held : Bool}
theorem zjV {m n : Nat} {cs : List Value} (ih : ∀ (t : TypeId) (us : List Value) (x : DataW H × List MemPlace),ziM P n t = true → DataW.trod enc P w 0 sp held m t us = some x → ∃ ds,ofT P n t ds ∧ reps (SWn w m) [] ds us) :
  ∀ (fs : List Field) (o : Nat),tiles P o fs cs.length = true → (∀ f ∈ fs,ziM P n f.type = true ∧ ∃ y,DataW.trod enc P w 0 sp held m f.type ((cs.drop f.offset).take (P.cellsOf f.type)) = some y) →
   ∃ ds,ofFs (ofT P n) fs ds ∧ reps (SWn w m) [] ds (cs.drop o)
 |[],o,ht,_=>by
  simp only [tiles,beq_iff_eq] at ht
  exact ⟨[],rfl,by rw [ht,List.drop_length];exact zop⟩
 |f :: fs,o,ht,hf=>by
  simp only [tiles,Bool.and_eq_true,beq_iff_eq] at ht
  obtain ⟨h1,y,hy⟩ := hf f (List.mem_cons_self ..)
  rw [ht.1] at hy
  obtain ⟨a,ha,hra⟩ := ih _ _ _ h1 hy
  obtain ⟨b,hb,hrb⟩ := zjV ih fs _ ht.2 fun g hg=>hf g (List.mem_cons_of_mem _ hg)
  refine ⟨a ++ b,⟨a,b,rfl,ha,hb⟩,?_⟩
  have := zpm hra hrb
  rwa [← List.drop_drop,List.take_append_drop] at this
theorem zkQ {m n k z : Nat} {e : TypeId} {cs : List Value} (hz : k * z = cs.length) (ih : ∀ (us : List Value) (x : DataW H × List MemPlace),DataW.trod enc P w 0 sp held m e us = some x → ∃ ds,ofT P n e ds ∧ reps (SWn w m) [] ds us)
  (he : ∀ i,i < k → ∃ y,DataW.trod enc P w 0 sp held m e ((cs.drop (i * z)).take z) = some y) :
  ∀ (r i : Nat),i + r = k → ∃ ps : List (List AV),ps.length = r ∧ (∀ p ∈ ps,ofT P n e p) ∧ reps (SWn w m) [] ps.flatten (cs.drop (i * z))
 |0,i,hi=>by
  have : i = k := by omega
  subst this
  exact ⟨[],rfl,fun p hp=>by simp at hp,by rw [hz,List.drop_length];exact zop⟩
 |r + 1,i,hi=>by
  obtain ⟨y,hy⟩ := he i (by omega)
  obtain ⟨a,ha,hra⟩ := ih _ _ hy
  obtain ⟨ps,hl,hp,hr⟩ := zkQ hz ih he r (i + 1) (by omega)
  refine ⟨a :: ps,by simp [hl],fun p hq=>?_,?_⟩
  ·rcases List.mem_cons.1 hq with rfl|hq
   ·exact ha
   ·exact hp p hq
  ·have := zpm hra hr
   rw [show (i + 1) * z = i * z + z by rw [Nat.add_mul,Nat.one_mul],← List.drop_drop,List.take_append_drop] at this
   exact this
theorem zoD : ∀ (m n : Nat) (t : TypeId) (cs : List Value) (x : DataW H × List MemPlace),ziM P n t = true → DataW.trod enc P w 0 sp held m t cs = some x → ∃ ds,ofT P n t ds ∧ reps (SWn w m) [] ds cs := by
 intro m
 induction m with
 |zero=>intro n t cs x _ h;simp [DataW.trod] at h
 |succ m ih =>
  intro n t cs x hp h
  cases n with
  |zero=>simp [ziM] at hp
  |succ n =>
   have lift : ∀ {ds us},reps (SWn w m) [] ds us → reps (SWn w (m + 1)) [] ds us := fun q=>q.ext (extS SWn.succ)
   unfold ziM at hp
   unfold ofT
   split at hp
   ·rename_i hu
    obtain ⟨b,rfl,_⟩ := DataW.trod_bool hu h
    exact ⟨_,⟨b,rfl⟩,ziZ rfl ⟨rfl,rfl⟩⟩
   ·rename_i k hu
    obtain ⟨b,rfl,_,hw⟩ := DataW.trod_int hu h
    simp only [Lit.wf,Bool.and_eq_true,decide_eq_true_eq] at hw
    exact ⟨_,⟨b,rfl,hw.1,hw.2⟩,ziZ rfl ⟨rfl,rfl⟩⟩
   ·rename_i hu
    obtain ⟨s,rfl,_,hs⟩ := DataW.trod_string hu h
    refine ⟨_,⟨s.data.toList,rfl,?_⟩,ziZ rfl ⟨rfl,rfl⟩⟩
    have e : s.data.toList.length = s.size := by rw [Array.length_toList];rfl
    rw [e];exact hs
   ·rename_i e hu
    simp only [Bool.and_eq_true,decide_eq_true_eq] at hp
    rcases DataW.trod_slice hu h with ⟨rfl,_⟩|⟨a,len,cap,elems,rest,m',hm,rfl,_,hb,hl,hc,hel,hen,_⟩
    ·exact ⟨[SL []],⟨[],rfl,Nat.zero_le _,fun x hx=>by simp at hx⟩,ziZ rfl ⟨none,0,rfl,Nat.le_refl _,Nat.zero_le _,fun q=>absurd rfl q⟩⟩
    ·obtain rfl : m = m' := by omega
     have hch : ∀ i,i < len → ∃ z : List AV × List Value,ofT P n e z.1 ∧ reps (SWn w m) [] z.1 z.2 ∧ w.cells? 0 (a.add (i * P.cellsOf e)) (P.cellsOf e) = some z.2 := by
      intro i hi
      have h1 := hen i hi
      rw [List.getElem?_eq_getElem (by omega)] at h1
      obtain ⟨us,h2,h3⟩ := Option.bind_eq_some_iff.1 h1
      obtain ⟨ds,h4,h5⟩ := ih n e us _ hp.1 h3
      exact ⟨(ds,us),h4,h5,h2⟩
     obtain ⟨g,hg⟩ := Deep.choose_lt hch
     let es : List AV := (List.range len).map fun i=>mkA P e (g i).1
     have hlen : es.length = len := by simp [es]
     have hget : ∀ (i : Nat) (d : AV),es[i]? = some d → i < len ∧ d = mkA P e (g i).1 := by
      intro i d hd
      have hi : i < len := by have := (List.getElem?_eq_some_iff.1 hd).1;omega
      simp only [es,List.getElem?_map,List.getElem?_range hi,Option.map_some,Option.some.injEq] at hd
      exact ⟨hi,hd.symm⟩
     refine ⟨[SL es],⟨es,rfl,by omega,fun x hx=>?_⟩,ziZ rfl ⟨some a,cap,by rw [hlen],by omega,hc,fun hn=>?_⟩⟩
     ·obtain ⟨i,hi⟩ := List.getElem?_of_mem hx
      obtain ⟨hi',rfl⟩ := hget i x hi
      replace hi := hi'
      obtain ⟨q1,q2⟩ := znb (hg i hi).1
      rw [q1,q2]
      exact ⟨(hg i hi).1,rfl⟩
     ·have h0 : 0 < len := by
       rcases Nat.eq_zero_or_pos len with q|q
       ·exact absurd (List.eq_nil_of_length_eq_zero (by omega)) hn
       ·exact q
      have hcell : ∀ i,i < len → ∀ j,j < P.cellsOf e → w.cell? ((a.add (i * P.cellsOf e)).add j) = (g i).2[j]? := fun i hi=>(World.cells?_some (hg i hi).2.2).2.2
      have hlen2 : ∀ i,i < len → (g i).2.length = P.cellsOf e := fun i hi=>(World.cells?_some (hg i hi).2.2).2.1
      obtain ⟨b,off,spot⟩ := a
      have hspot : spot = none := by
       have := hcell 0 h0 0 hp.2
       rw [List.getElem?_eq_getElem (by rw [hlen2 0 h0];exact hp.2)] at this
       simpa [Addr.add] using World.cell?_spot this
      subst hspot
      have hadd : ∀ o j,(⟨b,o,none⟩ : Addr).add j = ⟨b,o + j,none⟩ := fun o j=>by unfold Addr.add;split <;> simp_all
      refine ⟨b,off,P.cellsOf e,rfl,fun i d hd=>?_⟩
      obtain ⟨hi,rfl⟩ := hget i d hd
      obtain ⟨h1,h2,h3⟩ := hg i hi
      rw [(znb h1).1]
      refine ⟨by rw [← h2.1];exact hlen2 i hi,fun j y hy=>?_⟩
      have hj : j < P.cellsOf e := by
       have := (List.getElem?_eq_some_iff.1 hy).1
       rw [← h2.1,hlen2 i hi] at this
       exact this
      have h4 := hcell i hi j hj
      rw [hadd,hadd,List.getElem?_eq_getElem (by rw [hlen2 i hi];exact hj)] at h4
      obtain ⟨h5,h6⟩ := h2.2 j y _ hy (List.getElem?_eq_getElem (by rw [hlen2 i hi];exact hj))
      exact ⟨_,h4,h5,h6⟩
   ·rename_i fs hu
    simp only [Bool.and_eq_true,List.all_eq_true] at hp
    obtain ⟨xs,m',hm,_,hcl,hxl,hx⟩ := DataW.trod_struct hu h
    obtain rfl : m = m' := by omega
    obtain ⟨ds,h1,h2⟩ := zjV (w := w) (sp := sp) (held := held) (enc := enc) (m := m) (n := n) (cs := cs) (fun t us x=>ih n t us x) fs.toList 0 (by rw [hcl];exact hp.1) fun f hf=>⟨hp.2 f hf,by
     obtain ⟨i,hi⟩ := List.getElem?_of_mem hf
     rw [Array.getElem?_toList] at hi
     have := hx i f hi
     have hi' : i < xs.length := by rw [hxl];exact (Array.getElem?_eq_some_iff.1 hi).1
     rw [List.getElem?_eq_getElem hi'] at this
     exact ⟨_,this⟩⟩
    exact ⟨ds,h1,lift h2⟩
   ·rename_i k e hu
    simp only [Bool.and_eq_true,beq_iff_eq] at hp
    obtain ⟨xs,m',hm,_,hcl,hxl,hx⟩ := DataW.trod_array hu h
    obtain rfl : m = m' := by omega
    obtain ⟨ps,h1,h2,h3⟩ := zkQ (w := w) (sp := sp) (held := held) (enc := enc) (m := m) (n := n) (cs := cs) (z := P.cellsOf e) (k := k) (by rw [hcl];exact hp.2) (fun us x=>ih n e us x hp.1) (fun i hi=>by
     have := hx i hi
     rw [List.getElem?_eq_getElem (by omega)] at this
     exact ⟨_,this⟩) k 0 (by omega)
    rw [Nat.zero_mul] at h3
    exact ⟨_,⟨ps,h1,rfl,h2⟩,lift h3⟩
   ·cases hp
theorem open_any {r : Reach} {b0 : Nat} {t : TypeId} {v : Value} {d : DataW H} {p : List MemPlace} (n : Nat) (hp : ziM P n t = true)
  (hval : Value.okWide P w r b0 t v) (h : DataW.Trod enc P w 0 sp held t v d p) : Arg P w t v := by
 obtain ⟨m,hm⟩ := h
 obtain ⟨ds,h1,h2⟩ := zoD m n t _ _ hp hm
 have h2 : reps (SW w) [] ds v.cells.toList := h2.ext (extS fun _ _ _ q=>⟨m,q⟩)
 refine ⟨n,ds,h1,?_⟩
 unfold mkA
 cases ha : aggT P t with
 |true =>
  have : ∃ cs,v = .agg cs := by
   unfold aggT at ha
   unfold Value.okWide at hval
   split at ha
   ·rename_i hu;rw [hu] at hval;obtain ⟨cs,rfl,_⟩ := hval;exact ⟨cs,rfl⟩
   ·rename_i hu;rw [hu] at hval;obtain ⟨cs,rfl,_⟩ := hval;exact ⟨cs,rfl⟩
   ·cases ha
  obtain ⟨cs,rfl⟩ := this
  exact ⟨cs.toList,rfl,h2⟩
 |false =>
  obtain ⟨d,rfl,hd⟩ := zr2 h1 ha
  have hv : v.cells = #[v] := by
   cases n with
   |zero=>simp [ziM] at hp
   |succ n =>
    unfold ziM at hp
    unfold aggT at ha
    split at hp
    ·rename_i hu;obtain ⟨_,rfl⟩ := okWide_bool hu hval;rfl
    ·rename_i hu;obtain ⟨_,rfl⟩ := okWide_int hu hval;rfl
    ·rename_i hu;obtain ⟨_,rfl⟩ := okWide_string hu hval;rfl
    ·rename_i hu;obtain ⟨_,_,_,rfl⟩ := okWide_slice hu hval;rfl
    ·rename_i hu;rw [hu] at ha;cases ha
    ·rename_i hu;rw [hu] at ha;cases ha
    ·cases hp
  rw [hv] at h2
  have h3 := (h2.2 0 d v rfl rfl).2
  simp only [Bool.false_eq_true,if_false,List.headD]
  unfold rep
  split
  ·simp [rep1] at h3
  ·unfold repA
   split
   ·simp [isA] at hd
   ·exact h3
end
theorem zqI {P : Program} {G : Gl} {f : FuncId} {ds : List AV} {b : Bool} (h : ACp P G f ds (V (.bool b))) {w : World} (hG : GOk G (SW w)) {vs : List Value} (hl : vs.length = ds.length)
  (hv : ∀ (j : Nat) (d : AV) (v : Value),ds[j]? = some d → vs[j]? = some v → rep (SW w) [] d v) : Calls P f vs.toArray w fun e w'=>e = .returned (.bool b) ∧ Below w.heap.size w w' := by
 refine (h.2 w (SW w) [] vs (zzH w) hG hl hv).mono ?_
 rintro e w' ⟨v,r,H',S',μ',rfl,⟨rfl,rfl⟩,_,hr,hs⟩
 refine ⟨?_,hs.os,hs.tape,hs.output,hs.size,fun k hk=>hs.block k hk fun ⟨i,x,o,hx,_⟩=>by simp at hx⟩
 have : v = .bool b := hr.1
 rw [this]
end Go.Proofs.Ytaaogcnjfkgnoaa

namespace Go.Proofs.Ytaaogcnjfkgnoaa
open Go.RowKit
section
variable {P : Program} {G : Gl}
theorem ztE {w : World} {S : SS} {μ : List Value} {H : List AObj} {t : TypeId} {d : AV} {v : Value} {K : AV → Prop} (hrel : Rel w S μ H) (hx : rep S μ d v) (h : aLoad (kindT P t) H d K) :
  ∃ (ad : Addr) (u : Value) (r : AV),v = .pointer (some ad) ∧ (loadVar t ad).run P w = .ok u w ∧ rep S μ r u ∧ K r := by
 unfold aLoad at h
 split at h
 ·rename_i cs
  obtain ⟨hk,hK⟩ := h
  obtain ⟨b,off,he,hs⟩ := hx
  obtain ⟨us,hr,hc⟩ := zgY hrel (cs := cs) hs
  have hg := zgA (P := P) (t := t) w hk
  have hl := run_loadCells_list (P := P) w ⟨b,off,none⟩ us hc
  refine ⟨_, .agg us.toArray, .agg cs,he,?_,⟨us,rfl,hr.free⟩,hK⟩
  simp only [loadVar,Sem.run_bind,hg.1,hg.2,Result.andThen_ok,← hr.1,hl,if_true,Sem.run_pure]
 ·rename_i d hne
  obtain ⟨hk,hK⟩ := h
  obtain ⟨b,off,he,hs⟩ := hx
  rw [zee hne] at hs
  obtain ⟨u,h1,h2,h3⟩ := hrel.still _ _ _ (hs 0 d rfl)
  refine ⟨_,u,_,he,?_,z9c ?_,hK⟩
  ·have := (zgV (P := P) (t := t) w hk).1
   simp only [loadVar,Sem.run_bind,this,Result.andThen_ok]
   simp only [Nat.add_zero] at h1
   simp [load,Sem.run,h1]
  ·unfold repA
   split
   ·exact absurd rfl (hne _)
   ·exact h3.free
 ·rename_i i off
  obtain ⟨ob,hob,h⟩ := h
  obtain ⟨l,hl,hK⟩ := zn4 h
  obtain ⟨b,x',hμ,hp,he⟩ := hx
  obtain ⟨cs,us,hc,hr,hus⟩ := zuS hrel hμ hob hp hl
  obtain ⟨d,u,hK',hru,hrun⟩ := zn7 hc hus hr hK rfl
  exact ⟨_,u,d,he,hrun,hru,hK'⟩
 ·exact h.elim
def resC (P : Program) (H : List AObj) (T : Tm) : List ResultVar → (List AV → Prop) → Prop
 |[],K=>K []
 |.tmp t :: rs,K=>resC P H T rs fun ds=>K (get T t :: ds)
 |.cell b t :: rs,K=>aLoad (kindT P t) H (get T b) fun d=>resC P H T rs fun ds=>K (d :: ds)
def oneOf : List AV → AV
 |[d]=>d
 |ds=>TU (ds.map noT)
theorem zlV {w : World} {S : SS} {μ : List Value} {H : List AObj} {N : FS} {T : Tm} {a : Act} (hrel : Rel w S μ H) (hf : Fr S μ N T a) : ∀ (rs : List ResultVar) (K : List AV → Prop),resC P H T rs K →
  ∃ (ds : List AV) (us : List Value),K ds ∧ us.length = ds.length ∧ (∀ (j : Nat) (d : AV) (u : Value),ds[j]? = some d → us[j]? = some u → rep S μ d u) ∧
   (rs.mapM fun r : ResultVar=>(match r with|.tmp t=>(pure (a.tmps.getD t undef) : Sem Value)|.cell b t=>(do loadVar t (← asAddr (a.tmps.getD b undef))))).run P w = .ok us w
 |[],K,h=>⟨[],[],h,rfl,fun j d u hd=>by simp at hd,by simp [List.mapM_nil,Sem.run_pure]⟩
 |.tmp t :: rs,K,h=>by
  obtain ⟨ds,us,h1,h2,h3,h4⟩ := zlV hrel hf rs _ h
  refine ⟨_,a.tmps.getD t undef :: us,h1,by simp [h2],fun j d u hd hu=>?_,?_⟩
  ·cases j with
   |zero=>simp only [List.getElem?_cons_zero,Option.some.injEq] at hd hu;subst hd hu;exact hf.slot t
   |succ j=>simp at hd hu;exact h3 j d u hd hu
  ·have := zeq
   rw [List.mapM_cons]
   simp only [Sem.run_bind,Sem.run_pure,Result.andThen_ok]
   erw [h4]
   rfl
 |.cell b t :: rs,K,h=>by
  obtain ⟨ad,u0,r,e,hl,hr,hk⟩ := ztE hrel (hf.slot b) h
  obtain ⟨ds,us,h1,h2,h3,h4⟩ := zlV hrel hf rs _ hk
  refine ⟨_,u0 :: us,h1,by simp [h2],fun j d u hd hu=>?_,?_⟩
  ·cases j with
   |zero=>simp at hd hu;subst hd hu;exact hr
   |succ j=>simp at hd hu;exact h3 j d u hd hu
  ·have := zeq
   rw [List.mapM_cons]
   simp only [Sem.run_bind,e,asAddr,Sem.run_pure,Result.andThen_ok,hl]
   erw [h4]
   rfl
theorem zf6 {fn : Func} {rs : List ResultVar} (h : fn.results.toList = rs) {w : World} {S : SS} {μ : List Value} {H : List AObj} {N : FS} {T : Tm} {a : Act} (hrel : Rel w S μ H) (hf : Fr S μ N T a) {K : AV → Prop} (hK : resC P H T rs fun ds=>K (oneOf ds)) :
  ∃ v r,(results fn a.tmps).run P w = .ok v w ∧ rep S μ r v ∧ K r := by
 obtain ⟨ds,us,h1,h2,h3,h4⟩ := zlV (P := P) hrel hf rs _ hK
 have hr : (results fn a.tmps).run P w = .ok (if h : us.toArray.size = 1 then us.toArray[0] else .tuple us.toArray) w := by
  have := zeq
  have hm : (fn.results.mapM fun r : ResultVar=>(match r with|.tmp t=>(pure (a.tmps.getD t undef) : Sem Value)|.cell b t=>(do loadVar t (← asAddr (a.tmps.getD b undef))))).run P w = .ok us.toArray w := by
   rw [Array.mapM_eq_mapM_toList,h]
   simp only [map_eq_pure_bind,Sem.run_bind,Sem.run_pure]
   erw [h4]
   rfl
  unfold results
  simp only [Sem.run_bind]
  erw [hm]
  simp only [Result.andThen_ok,Sem.run_pure]
 refine ⟨_,_,hr,?_,h1⟩
 match us,ds,h2,h3 with
 |[u],[d],_,h3=>exact h3 0 d u rfl rfl
 |[],[],_,_=>exact ⟨[],rfl,rfl,fun j d u hd=>by simp at hd⟩
 |u :: u' :: r,d :: d' :: q,h2,h3 =>
  refine ⟨u :: u' :: r,by simp,by simpa using h2,fun j e x hd hu=>?_⟩
  rw [List.getElem?_map] at hd
  obtain ⟨e0,he0,rfl⟩ := Option.map_eq_some_iff.1 hd
  exact zs1 (h3 j e0 x he0 hu)
def retQ (P : Program) (rs : List ResultVar) (n : Nat) (R : AV → List AObj → Prop) : Exit → ASt → Prop
 |.normal,s=>resC P s.H s.T rs fun ds=>∃ X H',(X = oneOf ds ∨ X = ro s.H (oneOf ds)) ∧ HLe s.H H' ∧ H'.all (ltO H'.length) = true ∧ n ≤ H'.length ∧ ltT H'.length X = true ∧ R X H'
 |.ret,s=>resC P s.H s.T rs fun ds=>∃ X H',(X = oneOf ds ∨ X = ro s.H (oneOf ds)) ∧ HLe s.H H' ∧ H'.all (ltO H'.length) = true ∧ n ≤ H'.length ∧ ltT H'.length X = true ∧ R X H'
 |_,_=>False
theorem zkO {f : FuncId} {fn : Func} {c : Code} {args : List AV} {H : List AObj} {R : AV → List AObj → Prop} (hf : P.funcs[f]? = some fn) (hb : fn.body = some c) (hc : zdb P f = true) (rs : List ResultVar) (hrs : fn.results.toList = rs) (N : Nat) (hN : fn.ntmps = N) (hargs : args.length ≤ N)
  (h : AWp P G (F0 N) H.length c (retQ P rs H.length R) ⟨H,argsT 0 args⟩) : AC P G f args H R := by
 subst hN
 refine ⟨hc,fun w S μ vs hr hg hl hv=>?_⟩
 refine calls_of_wp hf hb ?_
 have hfr : Fr S μ (F0 fn.ntmps) (argsT 0 args) { tmps := vs.toArray ++ Array.replicate (fn.ntmps - vs.toArray.size) undef,defers := [] } := by
  refine ⟨by simp;omega,rfl,fun i=>?_⟩
  rw [zie]
  simp only [Nat.zero_le,if_true,Nat.sub_zero]
  cases hd : args[i]? with
  |none=>trivial
  |some d =>
   have hi : i < vs.length := by rw [hl];exact (List.getElem?_eq_some_iff.1 hd).1
   have := hv i d vs[i] hd (List.getElem?_eq_getElem hi)
   simp only [Option.getD_some]
   have e : (vs.toArray ++ Array.replicate (fn.ntmps - vs.toArray.size) undef).getD i undef = vs[i] := by
    rw [Array.getD_eq_getD_getElem?,Array.getElem?_append_left (by simpa using hi)]
    simp [hi]
   rw [e];exact this
 refine wp_mono (h w S μ _ hr hfr hg) ?_
 rintro e a' w' ⟨s',S',μ',hq,hr',hf',hst⟩
 have fin : (resC P s'.H s'.T rs fun ds=>∃ X H',(X = oneOf ds ∨ X = ro s'.H (oneOf ds)) ∧ HLe s'.H H' ∧ H'.all (ltO H'.length) = true ∧ H.length ≤ H'.length ∧ ltT H'.length X = true ∧ R X H') → a'.defers = [] ∧ ∃ v,(results fn a'.tmps).run P w' = .ok v w' ∧ CPost w S μ H R (.returned v) w' := by
  intro hK
  obtain ⟨v,r,hrun,hrep,X,H',hX,hle,hlt,hn,hltX,hR⟩ := zf6 (K := fun r=>∃ X H',(X = r ∨ X = ro s'.H r) ∧ HLe s'.H H' ∧ H'.all (ltO H'.length) = true ∧ H.length ≤ H'.length ∧ ltT H'.length X = true ∧ R X H') hrs hr' hf' hK
  have hrepX : rep S' μ' X v := by
   rcases hX with rfl|rfl
   ·exact hrep
   ·exact hrep.toRo hr'
  refine ⟨hf'.nodef,v,hrun,v,X,H',S',μ'.take H'.length,rfl,hR,hr'.le hle hlt,hrepX.take hltX,hst.trans ⟨rfl,rfl,rfl,Nat.le_refl _,fun _ _ _=>rfl,fun _ _ _ h=>h,fun i x hi hx=>⟨x,by rw [List.getElem?_take,if_pos (by omega)];exact hx, .inl rfl⟩,fun _ _ _ h _=>.inl h,fun _ k _=>hle.own k⟩⟩
 cases e with
 |normal=>exact fin hq
 |ret=>exact fin hq
 |exit id=>exact hq.elim
 |goto l=>exact hq.elim
 |panic ch=>exact hq.elim
 |outgrown=>exact hq.elim
theorem z9f {H : List AObj} {T : Tm} : ∀ {rs : List ResultVar} {K K' : List AV → Prop},(∀ ds,K ds → K' ds) → resC P H T rs K → resC P H T rs K'
 |[],K,K',hk,h=>hk _ h
 |.tmp t :: rs,K,K',hk,h=>z9f (rs := rs) (fun ds=>hk _) h
 |.cell b t :: rs,K,K',hk,h=>by
  simp only [resC] at h ⊢
  obtain ⟨d,h1,h2⟩ := zc9 h
  have : aLoad (kindT P t) H (_root_.Go.Proofs.Ytaaogcnjfkgnoaa.get T b) (fun d=>resC P H T rs fun ds=>K' (d :: ds)) := by
   unfold aLoad at h1 ⊢
   split at h1
   ·exact ⟨h1.1,by have := h1.2;subst this;exact z9f (fun ds=>hk _) h2⟩
   ·exact ⟨h1.1,by have := h1.2;subst this;exact z9f (fun ds=>hk _) h2⟩
   ·obtain ⟨ob,q1,q2⟩ := h1
    exact ⟨ob,q1,zgR q2 fun l q=>z5X q fun d' e=>by subst e;exact z9f (fun ds=>hk _) h2⟩
   ·exact h1
  exact this
theorem zv8 {N : FS} {n : Nat} {c : Code} {Q : Exit → ASt → Prop} {H : List AObj} {T : Tm} (i : Nat) (e : TypeId) (z : Nat) (hi : get T i = V (.slice none 0 0)) (hn : n ≤ H.length) (h : AWp P G N n c Q ⟨H ++ [⟨2,e,z,[]⟩],(i,OW H.length 0) :: T⟩) : AWp P G N n c Q ⟨H,T⟩ := by
 intro w S μ a hr hf hg
 obtain ⟨h1,h2⟩ := hr.nilRow none e z
 have hx : Ext S μ S (μ ++ [.slice none 0 0]) := zjZ S μ _
 have hf' : Fr S (μ ++ [.slice none 0 0]) N ((i,OW H.length 0) :: T) a := by
  refine ⟨hf.size,hf.nodef,fun k=>?_⟩
  simp only [_root_.Go.Proofs.Ytaaogcnjfkgnoaa.get]
  split
  ·rename_i e;subst e
   have := (hf.slot i)
   rw [hi] at this
   refine ⟨none,0,0,none,0,?_,Nat.le_refl _,this.1,fun _=>⟨rfl,rfl⟩⟩
   rw [← hr.len];simp
  ·exact (hf.slot k).ext hx
 exact wp_mono (h w S _ a h1 hf' hg) fun _ _ _ k=>Lift.trans (h2.less hn) k
variable {H : List AObj} {T : Tm} {X : AV} {s : ASt}
theorem zy0 {d : AV} : oneOf [d] = d := _root_.id rfl
theorem zyA {d e : AV} : oneOf [d,e] = TU [noT d,noT e] := _root_.id rfl
theorem ztA {d e f : AV} : oneOf [d,e,f] = TU [noT d,noT e,noT f] := _root_.id rfl
theorem zyY : oneOf [] = TU [] := _root_.id rfl
theorem r1_r0 {e : TypeId} {z m : Nat} {c : List AV} : ro1 (⟨2,e,z,c⟩ :: H) (OW 0 m) = if m = c.length then SL c else OW 0 m := by simp [ro1]
theorem r1_r1 {o : AObj} {e : TypeId} {z m : Nat} {c : List AV} : ro1 (o :: ⟨2,e,z,c⟩ :: H) (OW 1 m) = if m = c.length then SL c else OW 1 m := by simp [ro1]
theorem r1_r2 {o o' : AObj} {e : TypeId} {z m : Nat} {c : List AV} : ro1 (o :: o' :: ⟨2,e,z,c⟩ :: H) (OW 2 m) = if m = c.length then SL c else OW 2 m := by simp [ro1]
theorem r1_r3 {o o' o2 : AObj} {e : TypeId} {z m : Nat} {c : List AV} : ro1 (o :: o' :: o2 :: ⟨2,e,z,c⟩ :: H) (OW 3 m) = if m = c.length then SL c else OW 3 m := by simp [ro1]
section
variable {m : Nat}
theorem tT_V {v : Value} : ltT m (V v) = true := _root_.id rfl
theorem tT_SL {es : List AV} : ltT m (SL es) = true := _root_.id rfl
theorem zyd {d : AV} : ltT m (.ptr d) = true := _root_.id rfl
theorem tT_OW {i q : Nat} : ltT m (OW i q) = decide (i < m) := _root_.id rfl
theorem tT_OP {i q : Nat} : ltT m (OP i q) = decide (i < m) := _root_.id rfl
theorem zyE {cs : List AV} : ltT m (.agg cs) = cs.all (lt1 m) := _root_.id rfl
theorem tT_TU {ds : List AV} : ltT m (TU ds) = ds.all (ltA m) := _root_.id rfl
theorem tA_V {v : Value} : ltA m (V v) = true := _root_.id rfl
theorem tA_SL {es : List AV} : ltA m (SL es) = true := _root_.id rfl
theorem zyg {d : AV} : ltA m (.ptr d) = true := _root_.id rfl
theorem tA_OW {i q : Nat} : ltA m (OW i q) = decide (i < m) := _root_.id rfl
theorem tA_OP {i q : Nat} : ltA m (OP i q) = decide (i < m) := _root_.id rfl
theorem zyk {cs : List AV} : ltA m (.agg cs) = cs.all (lt1 m) := _root_.id rfl
theorem t1_V {v : Value} : lt1 m (V v) = true := _root_.id rfl
theorem t1_SL {es : List AV} : lt1 m (SL es) = true := _root_.id rfl
theorem zxI {d : AV} : lt1 m (.ptr d) = true := _root_.id rfl
theorem t1_OW {i q : Nat} : lt1 m (OW i q) = decide (i < m) := _root_.id rfl
theorem t1_OP {i q : Nat} : lt1 m (OP i q) = decide (i < m) := _root_.id rfl
theorem tO_mk {k e z : Nat} {c : List AV} : ltO m ⟨k,e,z,c⟩ = (k == 0 || c.all (ltA m)) := _root_.id rfl
end
end
end Go.Proofs.Ytaaogcnjfkgnoaa

namespace Go.Proofs.Ytaaogcnjfkgnoaa
open Go.RowKit
section
variable {P : Program} {G : Gl}
abbrev Is (X : AV) (H0 : List AObj) : AV → List AObj → Prop := fun r H'=>r = X ∧ H' = H0
theorem zkw {f : FuncId} {args : List AV} {X : AV} {H H0 : List AObj} {R : AV → List AObj → Prop} (h : AC P G f args H (Is X H0)) (k : R X H0) : AC P G f args H R :=
 h.mono fun r H' ⟨e1,e2⟩=>by subst e1 e2;exact k
variable {H H0 : List AObj} {T : Tm} {X : AV} {s : ASt}
section
variable {K : ASt → Prop} {ops l r : List Oper} {dst : Option Tmp} {ty : TypeId} {pos : String} {af : Array Edge} {b : Bool}
end
end
end Go.Proofs.Ytaaogcnjfkgnoaa

namespace Go.Proofs.Ytaaogcnjfkgnoaa
open Go.RowKit
section
variable {P : Program} {G : Gl} {H : List AObj} {x y z : AV} {K K' : AV → Prop} {t : TypeId}
theorem zpd {l : List AV} {i : Nat} (q : ∀ d,K d → K' d) (h : nth l i K) : nth l i K' := by
 obtain ⟨d,h1,h2⟩ := h
 exact ⟨d,h1,q _ h2⟩
theorem zi6 {l : List AObj} {i : Nat} {K K' : AObj → Prop} (q : ∀ d,K d → K' d) (h : nthO l i K) : nthO l i K' := by
 obtain ⟨d,h1,h2⟩ := h
 exact ⟨d,h1,q _ h2⟩
theorem zqe {op : BinOp} {k k' : IntKind} {a b : Int} (q : ∀ d,K d → K' d) (h : aInt op k a k' b K) : aInt op k a k' b K' := by
 cases op <;> simp only [aInt] at h ⊢ <;> first|exact ⟨h.1,q _ h.2⟩|exact ⟨h.1,h.2.1,q _ h.2.2⟩
theorem zpG {op : BinOp} {a b : ByteArray} (q : ∀ d,K d → K' d) (h : aStr op a b K) : aStr op a b K' := by
 cases op <;> simp only [aStr] at h ⊢ <;> first|exact ⟨h.1,q _ h.2⟩|exact q _ h
theorem zn5 {op : BinOp} (q : ∀ d,K d → K' d) (h : aBin P t op x y K) : aBin P t op x y K' := by
 unfold aBin at h ⊢
 split at h
 ·obtain ⟨us,vs,b,h1,h2,h3,h4⟩ := h;exact ⟨us,vs,b,h1,h2,h3,q _ h4⟩
 ·exact zqe q h
 ·exact zpG q h
 ·refine ⟨h.1,?_⟩
  have h := h.2
  split at h
  ·exact q _ h
  ·exact q _ h
  ·exact h
 ·refine ⟨h.1,?_⟩
  have h := h.2
  split at h
  ·exact q _ h
  ·exact q _ h
  ·exact h
 ·refine ⟨h.1,?_⟩
  have h := h.2
  split at h
  ·exact q _ h
  ·exact q _ h
  ·exact h
 ·refine ⟨h.1,?_⟩
  have h := h.2
  split at h
  ·exact q _ h
  ·exact q _ h
  ·exact h
 ·exact h
theorem zpb {op : UnOp} (q : ∀ d,K d → K' d) (h : aUn op x K) : aUn op x K' := by
 unfold aUn at h ⊢
 split at h
 ·exact q _ h
 ·exact q _ h
 ·exact q _ h
 ·exact h
theorem zl6 (q : ∀ d,K d → K' d) (h : aPick x y z K) : aPick x y z K' := by
 unfold aPick at h ⊢
 split at h
 ·exact q _ h
 ·exact h
theorem zhp {i : Nat} (q : ∀ d,K d → K' d) (h : zae x i K) : zae x i K' := by
 unfold zae at h ⊢
 split at h
 ·exact zpd q h
 ·exact h
theorem zbz {k : Nat} (q : ∀ d,K d → K' d) (h : aLoad k H x K) : aLoad k H x K' := by
 unfold aLoad at h ⊢
 split at h
 ·exact ⟨h.1,q _ h.2⟩
 ·exact ⟨h.1,q _ h.2⟩
 ·exact zi6 (fun ob h=>zgR h fun l h=>z5X h q) h
 ·exact h
theorem zjW {k : Nat} {K K' : List AObj → Prop} (q : ∀ d,K d → K' d) (h : zkV k H x y K) : zkV k H x y K' := by
 unfold zkV at h ⊢
 split at h
 ·exact zi6 (fun ob h=>zmW h fun l h=>q _ h) h
 ·exact h
theorem zjI {f : Option (Nat × Nat)} (q : ∀ d,K d → K' d) (h : zis f x K) : zis f x K' := by
 unfold zis at h ⊢
 split at h
 ·split at h
  ·exact z5X h fun d=>q _
  ·exact q _ h
  ·exact h
 ·exact h
theorem ziG {f : Option (Nat × Nat)} (q : ∀ d,K d → K' d) (h : zed f x K) : zed f x K' := by
 unfold zed at h ⊢
 split at h
 ·split at h
  ·exact z5X h q
  ·exact h
 ·exact h
theorem zlU {k : Nat} (q : ∀ d,K d → K' d) (h : ze9 k H x y K) : ze9 k H x y K' := by
 unfold ze9 at h ⊢
 split at h
 ·refine ⟨h.1,?_⟩
  have h2 := h.2
  split at h2
  ·exact ⟨h2.1,zi6 (fun ob h=>⟨h.1,h.2.1,h.2.2.1,q _ h.2.2.2⟩) h2.2⟩
  ·exact z4z h2 fun es h=>zpd (fun d h=>⟨h.1,q _ h.2⟩) h
 ·exact h
theorem ziO (q : ∀ d,K d → K' d) (h : zcU P t H x y K) : zcU P t H x y K' := by
 unfold zcU at h ⊢
 split at h
 ·exact zlU q h
 ·split at h
  ·split at h
   ·refine ⟨h.1,h.2.1,?_⟩
    have h := h.2.2
    split at h
    ·exact z5X h fun d=>q _
    ·exact q _ h
    ·exact h
   ·exact h
  ·exact h
theorem zir (q : ∀ d,K d → K' d) (h : zdY P t x y K) : zdY P t x y K' := by
 unfold zdY at h ⊢
 split at h
 ·split at h
  ·exact ⟨h.1,h.2.1,h.2.2.1,q _ h.2.2.2⟩
  ·split at h
   ·exact ⟨h.1,h.2.1,z5X h.2.2 q⟩
   ·exact h
  ·exact h
 ·exact h
theorem zmG (q : ∀ d,K d → K' d) (h : aLen P t H x K) : aLen P t H x K' := by
 unfold aLen at h ⊢
 split at h
 ·exact ⟨h.1,q _ h.2⟩
 ·exact ⟨h.1,q _ h.2⟩
 ·exact ⟨h.1,q _ h.2⟩
 ·exact ⟨h.1,z4z h.2 fun es=>q _⟩
theorem zmD (q : ∀ d,K d → K' d) (h : aNil x K) : aNil x K' := by
 unfold aNil at h ⊢
 split at h
 ·exact q _ h
 ·exact q _ h
 ·exact h
theorem zlP {t' : TypeId} (q : ∀ d,K d → K' d) (h : aConv P t t' x K) : aConv P t t' x K' := by
 unfold aConv at h ⊢
 split at h
 ·refine ⟨h.1,?_⟩
  have h := h.2
  split at h
  ·exact q _ h
  ·exact h
 ·rcases h with h|h
  ·exact .inl ⟨h.1,h.2.1,q _ h.2.2⟩
  ·exact .inr ⟨h.1,h.2.1,h.2.2.1,q _ h.2.2.2⟩
 ·refine ⟨h.1,h.2.1,?_⟩
  have h := h.2.2
  split at h
  ·exact q _ h
  ·exact h
 ·exact h
theorem zjM {ps : List (Nat × AV)} (q : ∀ d,K d → K' d) (h : zin P t ps K) : zin P t ps K' := by
 unfold zin at h ⊢
 split at h
 ·split at h
  ·exact q _ h
  ·exact h
 ·exact h
theorem ziv {n : Nat} {ps : List (Nat × AV)} (q : ∀ d,K d → K' d) (h : zdU P t n ps K) : zdU P t n ps K' := by
 unfold zdU at h ⊢
 split at h
 ·exact ⟨h.1,h.2.1,h.2.2.1,h.2.2.2.1,q _ h.2.2.2.2⟩
 ·exact h
theorem zjY {lo hi : Option AV} (q : ∀ d,K d → K' d) (h : zhH P t H x lo hi K) : zhH P t H x lo hi K' := by
 unfold zhH at h ⊢
 split at h
 ·exact ⟨h.1,z9B h.2 fun l h=>z9B h fun u h=>⟨h.1,h.2.1,h.2.2.1,q _ h.2.2.2⟩⟩
 ·split at h
  ·exact z4z h fun es h=>⟨h.1,z9B h.2 fun l h=>z9B h fun u h=>⟨h.1,h.2.1,h.2.2.1,q _ h.2.2.2⟩⟩
  ·exact h
theorem znM {K K' : AV → List AObj → Prop} (m : ∀ y,aApp P t H x y K → aApp P t H x y K') (h : aAppS P t H x y K) : aAppS P t H x y K' := by
 unfold aAppS at h ⊢
 split at h
 ·exact m _ h
 ·exact h.elim
theorem zmU {K K' : AV → List AObj → Prop} (q : ∀ d H,K d H → K' d H) (h : aApp P t H x y K) : aApp P t H x y K' := by
 unfold aApp at h ⊢
 split at h
 ·refine z4z h fun es h=>⟨h.1,?_⟩
  have h := h.2
  split at h
  ·exact ⟨h.1,q _ _ h.2⟩
  ·exact ⟨h.1,q _ _ h.2⟩
  ·exact zi6 (fun ob h=>⟨h.1,h.2.1,h.2.2.1,h.2.2.2.1,h.2.2.2.2.1,q _ _ h.2.2.2.2.2⟩) h
  ·exact h
 ·exact h
theorem znN {args : List AV} {K K' : AV → List AObj → Prop} (q : ∀ d H,K d H → K' d H) (h : zlF P G x args H K) : zlF P G x args H K' := by
 unfold zlF at h ⊢
 split at h
 ·exact h.mono q
 ·exact h.mono q
 ·exact h
theorem zol {mx : Bool} {x y : AV} {K K' : AV → Prop} (q : ∀ d,K d → K' d) (h : aMM mx x y K) : aMM mx x y K' := by
 unfold aMM at h ⊢
 split at h
 ·exact ⟨h.1,q _ h.2⟩
 ·exact h
theorem z6k {o : Oper} {s : ASt} {K K' : AV → List AObj → Prop} (q : ∀ d H,K d H → K' d H) (h : z0w P G o s K) : z0w P G o s K' := by
 obtain ⟨dst,op,ty,pos,af,gd⟩ := o
 unfold z0w at h ⊢
 dsimp only at h ⊢
 split at h
 ·exact q _ _ h
 ·exact q _ _ h
 ·exact zl6 (fun d=>q d _) h
 ·exact zn5 (fun d=>q d _) h
 ·exact zpb (fun d=>q d _) h
 ·split at h
  ·exact q _ _ h
  ·exact h
 ·exact ⟨h.1,q _ _ h.2⟩
 ·exact zjM (fun d=>q d _) h
 ·exact ziv (fun d=>q d _) h
 ·exact zbz (fun d=>q d _) h
 ·exact zjW (fun H=>q _ H) h
 ·exact zmD (fun d=>q d _) h
 ·exact zlP (fun d=>q d _) h
 ·exact zhp (fun d=>q d _) h
 ·exact zjI (fun d=>q d _) h
 ·exact ziG (fun d=>q d _) h
 ·exact ziO (fun d=>q d _) h
 ·exact zir (fun d=>q d _) h
 ·exact zjY (fun d=>q d _) h
 ·exact AC.mono h q
 ·exact ⟨h.1,q _ _ h.2⟩
 ·exact znN q h
 ·exact zmG (fun d=>q d _) h
 ·split at h
  ·rename_i e;rw [if_pos e];exact zmU q h
  ·rename_i e;rw [if_neg e];exact ⟨h.1,znM (fun _=>zmU q) h.2⟩
 ·exact zol (fun d=>q d _) h
 ·exact zol (fun d=>q d _) h
 ·obtain ⟨d,h1,h2⟩ := h;exact ⟨d,h1,q _ _ h2⟩
 ·obtain ⟨d,h1,h2⟩ := h;exact ⟨d,h1,q _ _ h2⟩
 ·unfold aMake at h ⊢;split at h <;> first|exact q _ _ h|exact h
 ·exact h
theorem zoR {f : FuncId} {args : List AV} (q : ∀ d,K d → K' d) (h : callD P G f args K) : callD P G f args K' := by
 obtain ⟨X,h1,h2,h3⟩ := h
 exact ⟨X,h1,h2,q _ h3⟩
theorem zmw {o : Oper} {s : ASt} {K : AV → List AObj → Prop} (hl : loud o.op = false) (h : z0w P G o s K) : z0w P G o s fun d H'=>H' = s.H ∧ K d H' := by
 obtain ⟨dst,op,ty,pos,af,gd⟩ := o
 unfold z0w at h ⊢
 dsimp only at h ⊢ hl
 split at h
 ·exact ⟨rfl,h⟩
 ·exact ⟨rfl,h⟩
 ·exact zl6 (fun d h=>⟨rfl,h⟩) h
 ·exact zn5 (fun d h=>⟨rfl,h⟩) h
 ·exact zpb (fun d h=>⟨rfl,h⟩) h
 ·cases hl
 ·cases hl
 ·exact zjM (fun d h=>⟨rfl,h⟩) h
 ·exact ziv (fun d h=>⟨rfl,h⟩) h
 ·exact zbz (fun d h=>⟨rfl,h⟩) h
 ·cases hl
 ·exact zmD (fun d h=>⟨rfl,h⟩) h
 ·exact zlP (fun d h=>⟨rfl,h⟩) h
 ·exact zhp (fun d h=>⟨rfl,h⟩) h
 ·exact zjI (fun d h=>⟨rfl,h⟩) h
 ·exact ziG (fun d h=>⟨rfl,h⟩) h
 ·exact ziO (fun d h=>⟨rfl,h⟩) h
 ·exact zir (fun d h=>⟨rfl,h⟩) h
 ·exact zjY (fun d h=>⟨rfl,h⟩) h
 ·cases hl
 ·cases hl
 ·cases hl
 ·exact zmG (fun d h=>⟨rfl,h⟩) h
 ·cases hl
 ·cases hl
 ·cases hl
 ·obtain ⟨d,h1,h2⟩ := h;exact ⟨d,h1,rfl,h2⟩
 ·cases hl
 ·cases hl
 ·exact h
theorem znm {w : Bool} {A B A' B' : Prop} (ha : A → A') (hb : B → B') (h : zhV x w A B) : zhV x w A' B' := by
 unfold zhV at h ⊢
 split at h
 ·exact ⟨fun e=>ha (h.1 e),fun e=>hb (h.2 e)⟩
 ·exact hb h
 ·exact h
theorem za7 {ops : List Oper} {K K' : ASt → Prop} (q : ∀ s,K s → K' s) : ∀ {l : List Oper} {s : ASt},zbu P G ops l s K → zbu P G ops l s K'
 |[],s,h=>q s h
 |o :: r,s,h=>by
  unfold zbu at h ⊢
  split at h
  ·rename_i hg;exact z6k (fun d H=>za7 q) h
  ·rename_i j want hg
   split at h
   ·exact znm (z6k fun d H=>za7 q) (za7 q) h
   ·exact h.elim
theorem zlD {o : Oper} {s : ASt} (q : ∀ d,K d → K' d) (h : stepD P G o s K) : stepD P G o s K' := by
 obtain ⟨dst,op,ty,pos,af,gd⟩ := o
 unfold stepD at h ⊢
 dsimp only at h ⊢
 split at h
 ·exact zoR q h
 ·exact ⟨h.1,z6k (fun d H w=>⟨w.1,q _ w.2⟩) h.2⟩
end
end Go.Proofs.Ytaaogcnjfkgnoaa

namespace Go.Proofs.Ytaaogcnjfkgnoaa
open Go.RowKit
section
variable {P : Program} {G : Gl} {N : FS} {n : Nat} {s : ASt} {H H' X : List AObj} {T : Tm}
def maskO (acc : List Nat) (o : Oper) : Nat := o.after.toList.foldl (fun m e=>if Region.binds .any e then m ||| (acc.getD e.on 0 ||| 2 ^ e.on) else m) 0
def ancs : List Oper → List Nat → List Nat
 |[],acc=>acc
 |o :: r,acc=>ancs r (acc ++ [maskO acc o])
def anc (ops : List Oper) (k i : Nat) : Bool := ((ancs ops []).getD k 0).testBit i
theorem zmC (acc : List Nat) (i : Nat) : ∀ (l : List Edge) (m0 : Nat),(l.foldl (fun m e=>if Region.binds .any e then m ||| (acc.getD e.on 0 ||| 2 ^ e.on) else m) m0).testBit i = true → m0.testBit i = true ∨ ∃ e ∈ l,Region.binds .any e = true ∧ ((acc.getD e.on 0).testBit i = true ∨ i = e.on)
 |[],m0,h=>.inl h
 |e :: l,m0,h=>by
  rw [List.foldl_cons] at h
  rcases zmC acc i l _ h with h|⟨e',h1,h2⟩
  ·split at h
   ·rename_i hb
    rw [Nat.testBit_or,Nat.testBit_or,Bool.or_eq_true,Bool.or_eq_true,Nat.testBit_two_pow,decide_eq_true_eq] at h
    rcases h with h|h|h
    ·exact .inl h
    ·exact .inr ⟨e,List.mem_cons_self ..,hb, .inl h⟩
    ·exact .inr ⟨e,List.mem_cons_self ..,hb, .inr h.symm⟩
   ·exact .inl h
  ·exact .inr ⟨e',List.mem_cons_of_mem _ h1,h2⟩
theorem zmp : ∀ (l : List Oper) (acc : List Nat),(ancs l acc).take acc.length = acc
 |[],acc=>by simp [ancs]
 |o :: l,acc=>by
  have := zmp l (acc ++ [maskO acc o])
  simp only [ancs]
  rw [List.length_append,List.length_singleton] at this
  have h2 := congrArg (List.take acc.length) this
  rw [List.take_take,Nat.min_eq_left (by omega)] at h2
  rw [h2];simp
theorem zqX : ∀ (l : List Oper) (acc : List Nat) (k : Nat) (o : Oper),l[k]? = some o → (ancs l acc).getD (acc.length + k) 0 = maskO ((ancs l acc).take (acc.length + k)) o
 |[],acc,k,o,h=>by simp at h
 |o1 :: l,acc,k,o,h=>by
  rcases k with _|k
  ·simp at h;subst h
   have h1 := zmp l (acc ++ [maskO acc o1])
   have h2 := zmp (o1 :: l) acc
   simp only [ancs] at h2 ⊢
   rw [Nat.add_zero,h2]
   have h3 : ((ancs l (acc ++ [maskO acc o1])).take (acc ++ [maskO acc o1]).length)[acc.length]? = some (maskO acc o1) := by rw [h1];simp
   rw [List.getElem?_take,if_pos (by simp)] at h3
   rw [List.getD_eq_getElem?_getD,h3];rfl
  ·simp only [List.getElem?_cons_succ] at h
   have := zqX l (acc ++ [maskO acc o1]) k o h
   simp only [ancs]
   rw [List.length_append,List.length_singleton,Nat.add_assoc,Nat.add_comm 1 k] at this
   exact this
theorem zoX {ops : List Oper} {k i : Nat} (h : anc ops k i = true) : ∃ ok e,ops[k]? = some ok ∧ e ∈ ok.after ∧ Region.binds .any e = true ∧ (anc ops e.on i = true ∨ i = e.on) := by
 unfold anc at h
 cases hk : ops[k]? with
 |none =>
  have hl : ∀ (l : List Oper) (acc : List Nat),(ancs l acc).length = acc.length + l.length := by
   intro l
   induction l with
   |nil=>intro acc;simp [ancs]
   |cons o l ih=>intro acc;simp only [ancs,ih];simp;omega
  have h1 := List.getElem?_eq_none_iff.1 hk
  rw [List.getD_eq_getElem?_getD,List.getElem?_eq_none (by rw [hl];simpa using h1)] at h
  simp at h
 |some ok =>
  have h1 := zqX ops [] k ok hk
  simp only [List.length_nil,Nat.zero_add] at h1
  rw [h1] at h
  rcases zmC _ i _ 0 h with h|⟨e,h2,h3,h4⟩
  ·simp at h
  ·refine ⟨ok,e,rfl,by simpa using h2,h3,?_⟩
   rcases h4 with h4|h4
   ·left
    unfold anc
    rw [List.getD_eq_getElem?_getD,List.getElem?_take] at h4
    split at h4
    ·rw [List.getD_eq_getElem?_getD];exact h4
    ·simp at h4
   ·exact .inr h4
theorem zyG {ops : List Oper} (hsh : zaZ ops.toArray = true) : ∀ {k i : Nat},anc ops k i = true → i < k := by
 intro k
 induction k using Nat.strongRecOn with
 |ind k ih =>
  intro i h
  obtain ⟨ok,e,h1,h2,h3,h4⟩ := zoX h
  have := zcz hsh (k := k) (ok := ok) (by simpa using h1) e h2 h3
  rcases h4 with h4|h4
  ·have := ih e.on this h4;omega
  ·omega
theorem zl8 {ops : List Oper} (hsh : zaZ ops.toArray = true) {listed : Array Bool} (hcl : zq8 ops.toArray listed) : ∀ {k i : Nat},anc ops k i = true → (∀ ok,ops[k]? = some ok → ∀ e ∈ ok.after,Region.binds .any e = true → listed.getD e.on false = true) → listed.getD i false = true := by
 intro k
 induction k using Nat.strongRecOn with
 |ind k ih =>
  intro i h hk
  obtain ⟨ok,e,h1,h2,h3,h4⟩ := zoX h
  have hl := hk ok h1 e h2 h3
  rcases h4 with h4|h4
  ·exact ih e.on (zcz hsh (k := k) (ok := ok) (by simpa using h1) e h2 h3) h4 fun ok' h5 e' h6 h7=>hcl e.on ok' (by simpa using h5) hl e' h6 h7
  ·rw [h4];exact hl
abbrev KC := FuncId → Nat
def clsO (kc : KC) (op : Op) : Nat := match op with
 |.alloc _=>1
 |.call { callee := .value (.func f), .. }=>kc f
 |op=>if loud op = true then 2 else 0
variable {kc : KC}
def loI (kc : KC) (ops : List Oper) (A : List Nat) (i : Nat) : Nat := (List.range i).foldl (fun m k=>if (match ops[k]? with|some o=>clsO kc o.op != 0|none=>false) && (A.getD i 0).testBit k then k + 1 else m) 0
theorem zoF (f : Nat → Bool) : ∀ (n : Nat),(((List.range n).foldl (fun m k=>if f k then k + 1 else m) 0 = 0) ∧ ∀ k,k < n → f k = false) ∨ ∃ q,q < n ∧ (List.range n).foldl (fun m k=>if f k then k + 1 else m) 0 = q + 1 ∧ f q = true ∧ ∀ k,q < k → k < n → f k = false
 |0=>.inl ⟨rfl,fun k h=>by omega⟩
 |n + 1=>by
  rw [List.range_succ,List.foldl_append]
  simp only [List.foldl_cons,List.foldl_nil]
  cases hf : f n with
  |true =>
   right
   exact ⟨n,by omega,by simp,hf,fun k h1 h2=>by omega⟩
  |false =>
   simp only [Bool.false_eq_true,if_false]
   rcases zoF f n with ⟨h1,h2⟩|⟨q,h1,h2,h3,h4⟩
   ·left
    refine ⟨h1,fun k hk=>?_⟩
    rcases Nat.lt_or_ge k n with q|q
    ·exact h2 k q
    ·have : k = n := by omega
     subst this;exact hf
   ·right
    refine ⟨q,by omega,h2,h3,fun k hk1 hk2=>?_⟩
    rcases Nat.lt_or_ge k n with q|q
    ·exact h4 k hk1 q
    ·have : k = n := by omega
     subst this;exact hf
theorem zj6 (ops : List Oper) (i : Nat) : (loI kc ops (ancs ops []) i = 0 ∧ ∀ (k : Nat) (o : Oper),k < i → ops[k]? = some o → clsO kc o.op ≠ 0 → anc ops i k = false) ∨
  ∃ (q : Nat) (o : Oper),q < i ∧ loI kc ops (ancs ops []) i = q + 1 ∧ ops[q]? = some o ∧ clsO kc o.op ≠ 0 ∧ anc ops i q = true ∧ ∀ (k : Nat) (o : Oper),q < k → k < i → ops[k]? = some o → clsO kc o.op ≠ 0 → anc ops i k = false := by
 have nf : ∀ (k : Nat) (o : Oper),ops[k]? = some o → clsO kc o.op ≠ 0 → ((match ops[k]? with|some o=>clsO kc o.op != 0|none=>false) && ((ancs ops []).getD i 0).testBit k) = false → anc ops i k = false := by
  intro k o ho hc h
  rw [ho] at h
  have : (clsO kc o.op != 0) = true := by simpa using hc
  dsimp only at h
  rw [this,Bool.true_and] at h
  exact h
 rcases zoF (fun k=>(match ops[k]? with|some o=>clsO kc o.op != 0|none=>false) && ((ancs ops []).getD i 0).testBit k) i with ⟨h1,h2⟩|⟨q,h1,h2,h3,h4⟩
 ·exact .inl ⟨h1,fun k o hk ho hc=>nf k o ho hc (h2 k hk)⟩
 ·right
  rw [Bool.and_eq_true] at h3
  obtain ⟨h3,h5⟩ := h3
  cases hq : ops[q]? with
  |none=>rw [hq] at h3;cases h3
  |some o =>
   rw [hq] at h3
   exact ⟨q,o,h1,h2,hq,by simpa using h3,h5,fun k o' hk1 hk2 ho hc=>nf k o' ho hc (h4 k hk1 hk2)⟩
theorem zyz (ops : List Oper) (i : Nat) : loI kc ops (ancs ops []) i ≤ i := by
 rcases zj6 (kc := kc) ops i with ⟨h,_⟩|⟨q,o,h1,h2,_⟩ <;> omega
def freeI (kc : KC) (ops : List Oper) (A : List Nat) (i : Nat) : Bool := !((List.range ops.length).all fun k=>match ops[k]? with|some o=>decide (clsO kc o.op ≤ 1) || k == i || (if i < k then (A.getD k 0).testBit i else (A.getD i 0).testBit k)|none=>true)
theorem zpf {ops : List Oper} {i : Nat} (h : freeI kc ops (ancs ops []) i = false) {k : Nat} {o : Oper} (ho : ops[k]? = some o) (hc : 1 < clsO kc o.op) (hk : k ≠ i) : (if i < k then anc ops k i else anc ops i k) = true := by
 unfold freeI at h
 rw [Bool.not_eq_false'] at h
 have := List.all_eq_true.1 h k (List.mem_range.2 (List.getElem?_eq_some_iff.1 ho).1)
 rw [ho] at this
 dsimp only at this
 rw [decide_eq_false (show ¬ clsO kc o.op ≤ 1 by omega),Bool.false_or,show (k == i) = false by simpa using hk,Bool.false_or] at this
 exact this
theorem zk9 {ops : List Oper} {A : List Nat} {i : Nat} (h : ∀ (k : Nat) (o : Oper),ops[k]? = some o → clsO kc o.op = 0) : freeI kc ops A i = false := by
 unfold freeI
 rw [Bool.not_eq_false',List.all_eq_true]
 intro k hk
 cases ho : ops[k]? with
 |none=>rfl
 |some o=>simp [h k o ho]
def lowH (kc : KC) (ops : List Oper) (A : List Nat) (hl : List (List AObj)) (i : Nat) : List AObj := match freeI kc ops A i with|true=>[]|false=>hl.getD (loI kc ops A i) []
def gdOn (ops : List Oper) (T : Tm) (o : Oper) : Prop := o.guard = none ∨ ∃ (j : Nat) (want : Bool) (t : Nat),o.guard = some (j,want) ∧ dstAt ops j = some t ∧ get T t = V (.bool want)
def gdOff (ops : List Oper) (T : Tm) (o : Oper) : Prop := ∃ (j : Nat) (want : Bool) (t : Nat),o.guard = some (j,want) ∧ dstAt ops j = some t ∧ (get T t = V (.bool (!want)) ∨ ∃ q,get T t = .iface q (.agg []))
def openA (f : Bool) (o : Oper) : Option (TypeId × Operand) := match f,o.op with
 |true, .load t x=>some (t,x)
 |_,_=>none
theorem zpl {f : Bool} {o : Oper} {t : TypeId} {x : Operand} (h : openA f o = some (t,x)) : o.op = .load t x := by
 unfold openA at h
 split at h
 ·rename_i t' x' h1
  injection h with h
  injection h with h3 h4
  subst h3 h4
  exact h1
 ·cases h
abbrev Opn := Nat × AV × AV
def openF (H : List AObj) (x : Opn) : Prop := aLoad x.1 H x.2.1 (· = x.2.2)
abbrev OpI := Nat × Opn
def liveO (A : List Nat) (p : Nat) : List OpI → List OpI
 |[]=>[]
 |x :: l=>match (A.getD p 0).testBit x.1 with|true=>liveO A p l|false=>x :: liveO A p l
theorem zmz {A : List Nat} {p : Nat} {x : OpI} : ∀ {l : List OpI},x ∈ l → (A.getD p 0).testBit x.1 = true ∨ x ∈ liveO A p l
 |y :: l,h=>by
  unfold liveO
  rcases List.mem_cons.1 h with rfl|h
  ·cases hb : (A.getD p 0).testBit x.1 with
   |true=>exact .inl rfl
   |false=>exact .inr (List.mem_cons_self ..)
  ·rcases zmz (A := A) (p := p) h with q|q
   ·exact .inl q
   ·cases hb : (A.getD p 0).testBit y.1 with
    |true=>exact .inr q
    |false=>exact .inr (List.mem_cons_of_mem _ q)
def noneB (kc : KC) (ops : List Oper) (lo hi j : Nat) : Prop := ∀ k o,ops[k]? = some o → clsO kc o.op ≠ 0 → lo ≤ k → k < hi → anc ops k j = false
def posY (P : Program) (G : Gl) (kc : KC) (ops : List Oper) (St : List AObj → Prop) (Hl Hj : List AObj) (T : Tm) (o : Oper) (v : AV) (Hk : List AObj) : Prop :=
 if clsO kc o.op = 0 then Hk = Hj ∧ (zm5 P G ops Hl T o v ∨ ∃ t x,o.op = .load t x ∧ gdOn ops T o ∧ ∀ H,St H → openF H (kindT P t,ev G T x,v))
 else (gdOn ops T o ∧ z0w P G o ⟨Hj,T⟩ (fun d H'=>d = v ∧ H' = Hk) ∧ (clsO kc o.op = 1 → ∃ X,Hk = Hj ++ X)) ∨ (gdOff ops T o ∧ v = UD ∧ Hk = Hj)
theorem zw1 {ops : List Oper} {St St' : List AObj → Prop} {Hl Hj : List AObj} {T : Tm} {o : Oper} {v : AV} {Hk : List AObj} (q : ∀ H,St' H → St H) (h : posY P G kc ops St Hl Hj T o v Hk) : posY P G kc ops St' Hl Hj T o v Hk := by
 unfold posY at h ⊢
 split at h
 ·rename_i hc
  rw [if_pos hc]
  refine ⟨h.1,h.2.imp id ?_⟩
  rintro ⟨t,x,h1,h2,h3⟩
  exact ⟨t,x,h1,h2,fun H hs=>h3 H (q H hs)⟩
 ·rename_i hc
  rw [if_neg hc]
  exact h
def drawY (P : Program) (G : Gl) (kc : KC) (ops : List Oper) : List (List AObj) → List (Nat × List AObj) → List OpI → List Oper → ASt → (ASt → Prop) → Prop
 |acc,old,opn,[],s,K=>K s
 |acc,old,opn,o :: r,s,K =>
  if clsO kc o.op = 0 then (match o.guard with
   |none=>(match openA (freeI kc ops (ancs ops []) acc.length) o with
    |some (t,x)=>aLoad (kindT P t) s.H (ev G s.T x) fun d=>(∀ p ∈ old,loI kc ops (ancs ops []) acc.length ≤ p.1 → openF p.2 (kindT P t,ev G s.T x,d)) ∧ drawY P G kc ops (acc ++ [s.H]) old ((acc.length,kindT P t,ev G s.T x,d) :: opn) r (s.set s.H o.dst d) K
    |none=>stepD P G o ⟨lowH kc ops (ancs ops []) (acc ++ [s.H]) acc.length,s.T⟩ fun d=>drawY P G kc ops (acc ++ [s.H]) old opn r (s.set s.H o.dst d) K)
   |some (j,want)=>match dstAt ops j with
    |some t=>zhV (get s.T t) want (match openA (freeI kc ops (ancs ops []) acc.length) o with
    |some (t,x)=>aLoad (kindT P t) s.H (ev G s.T x) fun d=>(∀ p ∈ old,loI kc ops (ancs ops []) acc.length ≤ p.1 → openF p.2 (kindT P t,ev G s.T x,d)) ∧ drawY P G kc ops (acc ++ [s.H]) old ((acc.length,kindT P t,ev G s.T x,d) :: opn) r (s.set s.H o.dst d) K
    |none=>stepD P G o ⟨lowH kc ops (ancs ops []) (acc ++ [s.H]) acc.length,s.T⟩ fun d=>drawY P G kc ops (acc ++ [s.H]) old opn r (s.set s.H o.dst d) K) (drawY P G kc ops (acc ++ [s.H]) old opn r (s.set s.H o.dst UD) K)
    |none=>False)
  else (match o.guard with
   |none=>∃ v H',z0w P G o s (fun d Hk=>d = v ∧ Hk = H') ∧ (clsO kc o.op = 1 → ∃ X,H' = s.H ++ X) ∧ (∀ x ∈ (liveO (ancs ops []) acc.length opn),openF H' x.2) ∧ drawY P G kc ops (acc ++ [s.H]) ((acc.length,s.H) :: old) (liveO (ancs ops []) acc.length opn) r (s.set H' o.dst v) K
   |some (j,want)=>match dstAt ops j with
    |some t=>zhV (get s.T t) want (∃ v H',z0w P G o s (fun d Hk=>d = v ∧ Hk = H') ∧ (clsO kc o.op = 1 → ∃ X,H' = s.H ++ X) ∧ (∀ x ∈ (liveO (ancs ops []) acc.length opn),openF H' x.2) ∧ drawY P G kc ops (acc ++ [s.H]) ((acc.length,s.H) :: old) (liveO (ancs ops []) acc.length opn) r (s.set H' o.dst v) K) (drawY P G kc ops (acc ++ [s.H]) old opn r (s.set s.H o.dst UD) K)
    |none=>False)
theorem z82 {ops : List Oper} {K K' : ASt → Prop} (q : ∀ s,K s → K' s) : ∀ {l : List Oper} {acc : List (List AObj)} {old : List (Nat × List AObj)} {opn : List OpI} {s : ASt},drawY P G kc ops acc old opn l s K → drawY P G kc ops acc old opn l s K'
 |[],acc,old,opn,s,h=>q s h
 |o :: l,acc,old,opn,s,h=>by
  unfold drawY at h ⊢
  split at h
  ·rename_i hc
   rw [if_pos hc]
   have go : (match openA (freeI kc ops (ancs ops []) acc.length) o with
    |some (t,x)=>aLoad (kindT P t) s.H (ev G s.T x) fun d=>(∀ p ∈ old,loI kc ops (ancs ops []) acc.length ≤ p.1 → openF p.2 (kindT P t,ev G s.T x,d)) ∧ drawY P G kc ops (acc ++ [s.H]) old ((acc.length,kindT P t,ev G s.T x,d) :: opn) l (s.set s.H o.dst d) K
    |none=>stepD P G o ⟨lowH kc ops (ancs ops []) (acc ++ [s.H]) acc.length,s.T⟩ fun d=>drawY P G kc ops (acc ++ [s.H]) old opn l (s.set s.H o.dst d) K) → (match openA (freeI kc ops (ancs ops []) acc.length) o with
    |some (t,x)=>aLoad (kindT P t) s.H (ev G s.T x) fun d=>(∀ p ∈ old,loI kc ops (ancs ops []) acc.length ≤ p.1 → openF p.2 (kindT P t,ev G s.T x,d)) ∧ drawY P G kc ops (acc ++ [s.H]) old ((acc.length,kindT P t,ev G s.T x,d) :: opn) l (s.set s.H o.dst d) K'
    |none=>stepD P G o ⟨lowH kc ops (ancs ops []) (acc ++ [s.H]) acc.length,s.T⟩ fun d=>drawY P G kc ops (acc ++ [s.H]) old opn l (s.set s.H o.dst d) K') := by
    intro h
    cases hop : openA (freeI kc ops (ancs ops []) acc.length) o with
    |some p =>
     rw [hop] at h
     exact zbz (fun d k=>⟨k.1,z82 q k.2⟩) h
    |none =>
     rw [hop] at h
     exact zlD (fun d k=>z82 q k) h
   split at h
   ·exact go h
   ·split at h
    ·unfold zhV at h ⊢
     split at h
     ·exact ⟨fun e=>go (h.1 e),fun e=>z82 q (h.2 e)⟩
     ·exact z82 q h
     ·exact h.elim
    ·exact h.elim
  ·rename_i hc
   rw [if_neg hc]
   split at h
   ·obtain ⟨v,H',h1,h2,h3,h4⟩ := h
    exact ⟨v,H',h1,h2,h3,z82 q h4⟩
   ·split at h
    ·unfold zhV at h ⊢
     split at h
     ·exact ⟨fun e=>by
      obtain ⟨v,H',h1,h2,h3,h4⟩ := h.1 e
      exact ⟨v,H',h1,h2,h3,z82 q h4⟩,fun e=>z82 q (h.2 e)⟩
     ·exact z82 q h
     ·exact h.elim
    ·exact h.elim
def stAt (acc : List (List AObj)) (hs : Nat → List AObj) (q : Nat) : List AObj := if q < acc.length then acc.getD q [] else hs (q - acc.length)
theorem zvs {acc : List (List AObj)} {hs : Nat → List AObj} {H : List AObj} (h : hs 0 = H) {q : Nat} (hq : q ≤ acc.length) : (acc ++ [H]).getD q [] = stAt acc hs q := by
 unfold stAt
 split
 ·rename_i hl
  rw [List.getD_eq_getElem?_getD,List.getElem?_append_left hl,List.getD_eq_getElem?_getD]
 ·have : q = acc.length := by omega
  subst this
  simp [h]
theorem zpX {acc : List (List AObj)} {hs hs' : Nat → List AObj} {H : List AObj} (h : hs 0 = H) (h' : ∀ i,hs (i + 1) = hs' i) (q : Nat) : stAt (acc ++ [H]) hs' q = stAt acc hs q := by
 unfold stAt
 rw [List.length_append,List.length_singleton]
 by_cases h1 : q < acc.length
 ·rw [if_pos (by omega),if_pos h1,List.getD_eq_getElem?_getD,List.getElem?_append_left h1,List.getD_eq_getElem?_getD]
 ·rw [if_neg h1]
  by_cases h2 : q = acc.length
  ·subst h2
   rw [if_pos (by omega)]
   simp [h]
  ·rw [if_neg (by omega),← h']
   congr 1;omega
def lowS (kc : KC) (ops : List Oper) (acc : List (List AObj)) (hs : Nat → List AObj) (i : Nat) : List AObj := match freeI kc ops (ancs ops []) i with|true=>[]|false=>stAt acc hs (loI kc ops (ancs ops []) i)
theorem zuZ {ops : List Oper} {acc : List (List AObj)} {hs : Nat → List AObj} {H : List AObj} (h : hs 0 = H) : lowH kc ops (ancs ops []) (acc ++ [H]) acc.length = lowS kc ops acc hs acc.length := by
 unfold lowH lowS
 cases freeI kc ops (ancs ops []) acc.length with
 |true=>rfl
 |false=>exact zvs h (zyz ops _)
theorem zqD {ops : List Oper} {acc : List (List AObj)} {hs hs' : Nat → List AObj} {H : List AObj} (h : hs 0 = H) (h' : ∀ i,hs (i + 1) = hs' i) (q : Nat) : lowS kc ops (acc ++ [H]) hs' q = lowS kc ops acc hs q := by
 unfold lowS
 rw [zpX h h']
theorem zni {ops : List Oper} {K : ASt → Prop} : ∀ {l : List Oper} {acc : List (List AObj)} {old : List (Nat × List AObj)} {opn : List OpI} {H : List AObj} {T : Tm},drawY P G kc ops acc old opn l ⟨H,T⟩ K → (∀ i,l[i]? = ops[acc.length + i]?) → (∀ x ∈ opn,openF H x.2) → ∃ (vs : List AV) (hs : Nat → List AObj),vs.length = l.length ∧ hs 0 = H ∧ K ⟨hs l.length,envs T l vs⟩ ∧
  (∀ q,q ≤ l.length → ∀ x ∈ opn,noneB kc ops acc.length (acc.length + q) x.1 → openF (hs q) x.2) ∧
  ∀ i o v,l[i]? = some o → vs[i]? = some v → posY P G kc ops (fun H'=>(∃ k,(k,H') ∈ old ∧ loI kc ops (ancs ops []) (acc.length + i) ≤ k) ∨ ∃ q,q ≤ l.length ∧ H' = hs q ∧ noneB kc ops acc.length (acc.length + q) (acc.length + i) ∧ loI kc ops (ancs ops []) (acc.length + i) ≤ acc.length + q) (lowS kc ops acc hs (acc.length + i)) (hs i) (envs T (l.take i) (vs.take i)) o v (hs (i + 1))
 |[],acc,old,opn,H,T,h,_,hc=>⟨[],fun _=>H,rfl,rfl,h,fun q _ x hx _=>hc x hx,fun i o v ho=>by simp at ho⟩
 |o :: l,acc,old,opn,H,T,h,hll,hc=>by
  have ho0 : ops[acc.length]? = some o := by have := hll 0;simpa using this.symm
  have hll1 : ∀ i,l[i]? = ops[(acc ++ [H]).length + i]? := fun i=>by
   have := hll (i + 1)
   rw [List.getElem?_cons_succ] at this
   rw [this,List.length_append,List.length_singleton]
   congr 1;omega
  have key : ∀ (v : AV) (H1 : List AObj) (old1 : List (Nat × List AObj)) (opn1 : List OpI),drawY P G kc ops (acc ++ [H]) old1 opn1 l (ASt.set ⟨H,T⟩ H1 o.dst v) K → (∀ x ∈ opn1,openF H1 x.2) → (∀ x ∈ opn,x ∈ opn1 ∨ (clsO kc o.op ≠ 0 ∧ anc ops acc.length x.1 = true)) → (∀ p ∈ old,p ∈ old1) → ((acc.length,H) ∈ old1 ∨ H1 = H) →
    (∀ St : List AObj → Prop,(∀ H',St H' → (∃ k,(k,H') ∈ old ∧ loI kc ops (ancs ops []) acc.length ≤ k) ∨ H' = H ∨ ∀ x ∈ opn1,x.1 = acc.length → openF H' x.2) → posY P G kc ops St (lowH kc ops (ancs ops []) (acc ++ [H]) acc.length) H T o v H1) → ∃ (vs : List AV) (hs : Nat → List AObj),vs.length = (o :: l).length ∧ hs 0 = H ∧ K ⟨hs (o :: l).length,envs T (o :: l) vs⟩ ∧
    (∀ q,q ≤ (o :: l).length → ∀ x ∈ opn,noneB kc ops acc.length (acc.length + q) x.1 → openF (hs q) x.2) ∧
    ∀ i o' v,(o :: l)[i]? = some o' → vs[i]? = some v → posY P G kc ops (fun H'=>(∃ k,(k,H') ∈ old ∧ loI kc ops (ancs ops []) (acc.length + i) ≤ k) ∨ ∃ q,q ≤ (o :: l).length ∧ H' = hs q ∧ noneB kc ops acc.length (acc.length + q) (acc.length + i) ∧ loI kc ops (ancs ops []) (acc.length + i) ≤ acc.length + q) (lowS kc ops acc hs (acc.length + i)) (hs i) (envs T ((o :: l).take i) (vs.take i)) o' v (hs (i + 1)) := by
   intro v H1 old1 opn1 hd hc1 hsub hold hH hf
   obtain ⟨vs,hs,h1,h2,h3,h5,h4⟩ := zni (ops := ops) (l := l) (acc := acc ++ [H]) (old := old1) (opn := opn1) (H := H1) (T := (ASt.set ⟨[],T⟩ [] o.dst v).T) hd hll1 hc1
   have hal : (acc ++ [H]).length = acc.length + 1 := by simp
   have shift : ∀ {q j : Nat},noneB kc ops acc.length (acc.length + (q + 1)) j → noneB kc ops (acc ++ [H]).length ((acc ++ [H]).length + q) j := fun {q j} hn k o' hk hk1 hk2 hk3=>hn k o' hk hk1 (by omega) (by omega)
   let hs2 : Nat → List AObj := fun i=>match i with|0=>H|i + 1=>hs i
   refine ⟨v :: vs,hs2,by simp [h1],rfl,h3,fun q hq x hx hn=>?_,fun i o' v' ho' hv'=>?_⟩
   ·cases q with
    |zero=>exact hc x hx
    |succ q =>
     rcases hsub x hx with q1|⟨q1,q2⟩
     ·exact h5 q (by simpa using hq) x q1 (shift hn)
     ·have := hn acc.length o ho0 q1 (Nat.le_refl _) (by omega)
      rw [q2] at this;cases this
   rcases i with _|i
   ·simp at ho' hv';subst ho' hv'
    show posY P G kc ops _ (lowS kc ops acc hs2 (acc.length + 0)) H T o v (hs 0)
    rw [h2,Nat.add_zero,← zuZ (H := H) (rfl : hs2 0 = H)]
    refine hf _ fun H' hs'=>?_
    rcases hs' with q|⟨q,hq,rfl,hn,_⟩
    ·exact .inl (by simpa using q)
    ·cases q with
     |zero=>exact .inr (.inl rfl)
     |succ q=>exact .inr (.inr fun x hx hx1=>h5 q (by simpa using hq) x hx (by rw [hx1];exact shift hn))
   ·simp only [List.getElem?_cons_succ] at ho' hv'
    have := h4 i o' v' ho' hv'
    rw [zqD (hs := hs2) rfl (fun _=>rfl),List.length_append,List.length_singleton,Nat.add_assoc,Nat.add_comm 1 i] at this
    refine zw1 (fun H' hs'=>?_) this
    rcases hs' with ⟨k,q,qk⟩|⟨q,hq,rfl,hn,hlo⟩
    ·exact .inl ⟨k,hold _ q,qk⟩
    ·cases q with
     |zero =>
      rcases hH with q2|q2
      ·exact .inl ⟨acc.length,q2,by simpa using hlo⟩
      ·exact .inr ⟨0,Nat.zero_le _,by rw [h2,q2],fun k o' hk hk1 hk2 hk3=>by omega,by simp at hlo ⊢;omega⟩
     |succ q=>exact .inr ⟨q,by simpa using hq,rfl,fun k o' hk hk1 hk2 hk3=>hn k o' hk hk1 (by omega) (by omega),by omega⟩
  unfold drawY at h
  unfold posY at key
  split at h
  ·rename_i hw
   have fin : ∀ v,zm5 P G ops (lowH kc ops (ancs ops []) (acc ++ [H]) acc.length) T o v → drawY P G kc ops (acc ++ [H]) old opn l (ASt.set ⟨H,T⟩ H o.dst v) K → _ := fun v hv hd=>key v H old opn hd hc (fun _ q=>.inl q) (fun _ q=>q) (.inr rfl) fun St _=>by rw [if_pos hw];exact ⟨rfl, .inl hv⟩
   have opn' : ∀ (t : TypeId) (x : Operand) (d : AV),openA (freeI kc ops (ancs ops []) acc.length) o = some (t,x) → gdOn ops T o → aLoad (kindT P t) H (ev G T x) (fun x=>x = d) → (∀ p ∈ old,loI kc ops (ancs ops []) acc.length ≤ p.1 → openF p.2 (kindT P t,ev G T x,d)) → drawY P G kc ops (acc ++ [H]) old ((acc.length,kindT P t,ev G T x,d) :: opn) l (ASt.set ⟨H,T⟩ H o.dst d) K → _ := fun t x d hop hgd h3 h4 h5 =>
    key d H old ((acc.length,kindT P t,ev G T x,d) :: opn) h5 (fun y hy=>(List.mem_cons.1 hy).elim (fun e=>by rw [e];exact h3) (fun hy=>hc y hy)) (fun y hy=>.inl (List.mem_cons_of_mem _ hy)) (fun _ q=>q) (.inr rfl) fun St hSt=>by
     rw [if_pos hw]
     refine ⟨rfl, .inr ⟨t,x,zpl hop,hgd,fun H' hs'=>?_⟩⟩
     rcases hSt H' hs' with ⟨k,q,qk⟩|rfl|q
     ·exact h4 _ q qk
     ·exact h3
     ·exact q _ (List.mem_cons_self ..) rfl
   dsimp only at h
   split at h
   ·rename_i hg
    cases hop : openA (freeI kc ops (ancs ops []) acc.length) o with
    |some p =>
     rw [hop] at h
     obtain ⟨d,h3,h4,h5⟩ := zc9 h
     exact opn' p.1 p.2 d hop (.inl hg) h3 h4 h5
    |none =>
     rw [hop] at h
     obtain ⟨v,h1,h2⟩ := zn3 h
     exact fin v (by unfold zm5;rw [hg];exact h1) h2
   ·rename_i j want hg
    split at h
    ·rename_i t ht
     unfold zhV at h
     split at h
     ·rename_i bb hbb
      by_cases e : bb = want
      ·have h' := h.1 e
       cases hop : openA (freeI kc ops (ancs ops []) acc.length) o with
       |some p =>
        rw [hop] at h'
        obtain ⟨d,h3,h4,h5⟩ := zc9 h'
        exact opn' p.1 p.2 d hop (.inr ⟨j,want,t,hg,ht,by rw [← e];exact hbb⟩) h3 h4 h5
       |none =>
        rw [hop] at h'
        obtain ⟨v,h1,h2⟩ := zn3 h'
        exact fin v (by unfold zm5;rw [hg];exact ⟨t,ht, .inl ⟨bb,hbb,fun _=>h1,fun q=>absurd e q⟩⟩) h2
      ·exact fin UD (by unfold zm5;rw [hg];exact ⟨t,ht, .inl ⟨bb,hbb,fun q=>absurd q e,fun _=>rfl⟩⟩) (h.2 (by cases bb <;> cases want <;> first|rfl|exact absurd rfl e))
     ·rename_i q hbb
      exact fin UD (by unfold zm5;rw [hg];exact ⟨t,ht, .inr ⟨⟨q,hbb⟩,rfl⟩⟩) h
     ·exact h.elim
    ·exact h.elim
  ·rename_i hw
   have act : gdOn ops T o → (∃ v H',z0w P G o ⟨H,T⟩ (fun d Hk=>d = v ∧ Hk = H') ∧ (clsO kc o.op = 1 → ∃ X,H' = H ++ X) ∧ (∀ x ∈ (liveO (ancs ops []) acc.length opn),openF H' x.2) ∧ drawY P G kc ops (acc ++ [H]) ((acc.length,H) :: old) (liveO (ancs ops []) acc.length opn) l (ASt.set ⟨H,T⟩ H' o.dst v) K) → _ := fun hgd ⟨v,H1,h1,h2,h3,h4⟩=>key v H1 ((acc.length,H) :: old) (liveO (ancs ops []) acc.length opn) h4 h3 (fun x q=>(zmz q).elim (fun e=>.inr ⟨hw,e⟩) .inl) (fun _ q=>List.mem_cons_of_mem _ q) (.inl (List.mem_cons_self ..)) fun St _=>by rw [if_neg hw];exact .inl ⟨hgd,h1,h2⟩
   have off : gdOff ops T o → drawY P G kc ops (acc ++ [H]) old opn l (ASt.set ⟨H,T⟩ H o.dst UD) K → _ := fun hgd hd=>key UD H old opn hd hc (fun _ q=>.inl q) (fun _ q=>q) (.inr rfl) fun St _=>by rw [if_neg hw];exact .inr ⟨hgd,rfl,rfl⟩
   split at h
   ·rename_i hg
    exact act (.inl hg) h
   ·rename_i j want hg
    split at h
    ·rename_i t ht
     unfold zhV at h
     split at h
     ·rename_i bb hbb
      by_cases e : bb = want
      ·exact act (.inr ⟨j,want,t,hg,ht,by rw [← e];exact hbb⟩) (h.1 e)
      ·have e2 : bb = !want := by cases bb <;> cases want <;> first|rfl|exact absurd rfl e
       exact off ⟨j,want,t,hg,ht, .inl (by rw [← e2];exact hbb)⟩ (h.2 e2)
     ·rename_i q hbb
      exact off ⟨j,want,t,hg,ht, .inr ⟨q,hbb⟩⟩ h
     ·exact h.elim
    ·exact h.elim
theorem Rel.void {w : World} {S : SS} {μ : List Value} (hr : Rel w S μ H) (t : TypeId) : Rel w S (μ ++ [.bool false]) (H ++ [⟨0,t,0,[]⟩]) ∧ Step H.length w S μ H w S (μ ++ [.bool false]) (H ++ [⟨0,t,0,[]⟩]) :=
 ⟨hr.add (.inl rfl) (objRep.zero rfl) fun b hb=>by simp [blkOf] at hb,(Step.refl _ _ _ _ _).add hr.len fun b hb=>by simp [blkOf] at hb⟩
theorem zfH {α : Type} {l : List α} {i k : Nat} {x y : α} (h : (l.set i x)[k]? = some y) : (k = i ∧ y = x) ∨ (k ≠ i ∧ l[k]? = some y) := by
 by_cases e : k = i
 ·subst e
  have hl : k < l.length := by
   have := (List.getElem?_eq_some_iff.1 h).1
   simpa using this
  rw [List.getElem?_set_self hl] at h
  injection h with h
  exact .inl ⟨rfl,h.symm⟩
 ·rw [List.getElem?_set_ne (Ne.symm e)] at h
  exact .inr ⟨e,h⟩
theorem zso {S : SS} {μ : List Value} {i : Nat} (hμ : μ[i]? = some (.bool false)) (x : Value) : Ext S μ S (μ.set i x) :=
 ⟨fun _ _ _ h=>h,fun k y hy=>by
  by_cases e : k = i
  ·subst e
   rw [hμ] at hy;injection hy with hy;subst hy
   exact ⟨x,List.getElem?_set_self (List.getElem?_eq_some_iff.1 hμ).1, .inr (.inr rfl)⟩
  ·exact ⟨y,by rw [List.getElem?_set_ne (Ne.symm e)];exact hy, .inl rfl⟩⟩
theorem Rel.fill {w : World} {S : SS} {μ : List Value} {i : Nat} {o0 o : AObj} {x : Value} (hr : Rel w S μ H) (hμ : μ[i]? = some (.bool false)) (hH : H[i]? = some o0) (h0 : o0.k = 0) (hk : o.k = 0 ∨ o.k = 1 ∨ o.k = 2 ∨ o.k = 4 ∨ o.k = 5) (ho : objRep w S (μ.set i x) x o) (hb : ∀ b,blkOf x = some b → ¬ ownB μ H b ∧ ∀ j d,S b j d → o.k = 2 ∧ j < o.c.length * o.z) : Rel w S (μ.set i x) (H.set i o) := by
 have he := zso (S := S) hμ x
 have hgo : ∀ (k : Nat) (x' : Value) (o' : AObj),(μ.set i x)[k]? = some x' → (H.set i o)[k]? = some o' → (μ[k]? = some x' ∧ H[k]? = some o' ∧ k ≠ i) ∨ (k = i ∧ x' = x ∧ o' = o) := by
  intro k x' o' hx' ho'
  rcases zfH hx' with ⟨q,rfl⟩|⟨q,hx'⟩
  ·rcases zfH ho' with ⟨_,rfl⟩|⟨q',_⟩
   ·exact .inr ⟨q,rfl,rfl⟩
   ·exact absurd q q'
  ·rcases zfH ho' with ⟨q',_⟩|⟨_,ho'⟩
   ·exact absurd q' q
   ·exact .inl ⟨hx',ho',q⟩
 refine ⟨by simp [hr.len],hr.still,fun k x' o' hx' ho'=>?_,fun k x' o' hx' ho'=>?_,fun k k' x1 x2 o1 o2 b hx1 ho1 hk1 hb1 hx2 ho2 hk2 hb2=>?_,fun k x' o' b hx' ho' hk' hb' j d hs=>?_⟩
 ·rcases hgo k x' o' hx' ho' with ⟨q1,q2,_⟩|⟨_,rfl,rfl⟩
  ·exact hr.kinds k x' o' q1 q2
  ·exact hk
 ·rcases hgo k x' o' hx' ho' with ⟨q1,q2,_⟩|⟨_,rfl,rfl⟩
  ·exact (hr.objs k x' o' q1 q2).move he fun b _=>rfl
  ·exact ho
 ·rcases hgo k x1 o1 hx1 ho1 with ⟨q1,q2,_⟩|⟨e1,rfl,rfl⟩
  ·rcases hgo k' x2 o2 hx2 ho2 with ⟨q3,q4,_⟩|⟨e2,rfl,rfl⟩
   ·exact hr.sep k k' x1 x2 o1 o2 b q1 q2 hk1 hb1 q3 q4 hk2 hb2
   ·exact absurd ⟨k,x1,o1,q1,q2,hk1,hb1⟩ (hb b hb2).1
  ·rcases hgo k' x2 o2 hx2 ho2 with ⟨q3,q4,_⟩|⟨e2,rfl,rfl⟩
   ·exact absurd ⟨k',x2,o2,q3,q4,hk2,hb2⟩ (hb b hb1).1
   ·omega
 ·rcases hgo k x' o' hx' ho' with ⟨q1,q2,_⟩|⟨_,rfl,rfl⟩
  ·exact hr.apart k x' o' b q1 q2 hk' hb' j d hs
  ·exact (hb b hb').2 j d hs
theorem Step.fill {w0 w : World} {S0 S : SS} {μ0 μ : List Value} {H0 : List AObj} {i : Nat} {o : AObj} {x : Value} (hs : Step n w0 S0 μ0 H0 w S μ H) (hμ : μ[i]? = some (.bool false)) (hb : ∀ b,blkOf x = some b → w0.heap.size ≤ b) : Step n w0 S0 μ0 H0 w S (μ.set i x) (H.set i o) :=
 ⟨hs.os,hs.tape,hs.output,hs.size,hs.block,hs.still,fun k y hk hy=>by
  obtain ⟨x',hx',h1⟩ := hs.objs k y hk hy
  by_cases e : k = i
  ·subst e
   rw [hμ] at hx';injection hx' with hx';subst hx'
   refine ⟨x,List.getElem?_set_self (List.getElem?_eq_some_iff.1 hμ).1, .inr (.inr ?_)⟩
   rcases h1 with e|⟨A,m,c,A',m',c',_,e,_⟩|e
   ·exact e.symm
   ·cases e
   ·exact e
  ·exact ⟨x',by rw [List.getElem?_set_ne (Ne.symm e)];exact hx',h1⟩,hs.old,fun b hob hlt=>by
  obtain ⟨k,x',o',hx',ho',hk',hb'⟩ := hob
  rcases zfH hx' with ⟨_,rfl⟩|⟨q,hx'⟩
  ·have := hb b hb';omega
  ·rcases zfH ho' with ⟨q',_⟩|⟨_,ho'⟩
   ·exact absurd q' q
   ·exact hs.mine b ⟨k,x',o',hx',ho',hk',hb'⟩ hlt⟩
theorem zlL {a : Act} {o : Oper} {w : World} {t : TypeId} {c : List AV} (ho : o.op = .alloc t) (hz : zeroC P t = some c) : ∃ cs : List Value,(execOp a.eval o).run P w = .ok (.value (.pointer (some ⟨w.heap.size,0,none⟩))) (w.alloc (.cells cs.toArray t)) ∧ ∀ S μ,reps S μ c cs := by
 obtain ⟨i,z,hi,hzz,_,hr⟩ := zl9 hz
 refine ⟨z.cells.toList,?_,hr⟩
 unfold execOp
 rw [ho]
 simp [Instr.alloc,zeroValue,typeInfo,hi,hzz,newVar,newRow,newObj,Sem.run]
theorem zq2 {a : Act} {o : Oper} {w : World} {S : SS} {μ : List Value} {t : TypeId} {c : List AV} {Q : Exit → Act → World → Prop} (hrel : Rel w S μ H) (ho : o.op = .alloc t) (hz : zeroC P t = some c) :
  o.wp P a w (fun a' w'=>∃ u μ',a' = a.put o.dst u ∧ rep S μ' (OP H.length 0) u ∧ Rel w' S μ' (H ++ [⟨1,t,0,c⟩]) ∧ Step H.length w S μ H w' S μ' (H ++ [⟨1,t,0,c⟩]) ∧ ∃ z,μ' = μ ++ [z]) Q := by
 obtain ⟨cs,hrun,hc⟩ := zlL (P := P) (a := a) (w := w) ho hz
 obtain ⟨h1,h2⟩ := hrel.new t (hc S μ)
 unfold Oper.wp
 rw [hrun]
 exact ⟨_,_,rfl,⟨w.heap.size, .pointer (some ⟨w.heap.size,0,none⟩),by rw [← hrel.len];simp,rfl,rfl⟩,h1,h2,_,rfl⟩
theorem zpJ {a : Act} {o : Oper} {w : World} {S : SS} {μ : List Value} {t : TypeId} {c : List AV} {i : Nat} {o0 : AObj} {K : AV → List AObj → Prop} {Q : Exit → Act → World → Prop} (hrel : Rel w S μ H) (ho : o.op = .alloc t) (hz : zeroC P t = some c) (hμ : μ[i]? = some (.bool false)) (hH : H[i]? = some o0) (h0 : o0.k = 0)
  (hK : K (OP i 0) (H.set i ⟨1,t,0,c⟩)) : o.wp P a w (z5l w S μ H a o K) Q := by
 obtain ⟨cs,hrun,hc⟩ := zlL (P := P) (a := a) (w := w) ho hz
 have hil : i < μ.length := (List.getElem?_eq_some_iff.1 hμ).1
 obtain ⟨h1,h2⟩ := hrel.grow (w' := w.alloc (.cells cs.toArray t)) ((Below.refl _ _).alloc (Nat.le_refl _) _) (fun _ _ _ h=>h) (fun _ _ _ h=>.inl h) (fun b j d h hb=>by have := hrel.still_lt h;omega)
 have h3 : Rel (w.alloc (.cells cs.toArray t)) S (μ.set i (.pointer (some ⟨w.heap.size,0,none⟩))) (H.set i ⟨1,t,0,c⟩) := by
  refine h1.fill hμ hH h0 (.inr (.inl rfl)) ⟨fun _=>⟨w.heap.size,cs.toArray,rfl,heap_alloc_new w _,by simpa using hc S _⟩,⟨fun h=>(by simp at h),fun h=>(by simp at h),fun h=>(by simp at h)⟩⟩ fun b hb=>?_
  simp [blkOf] at hb;subst hb
  refine ⟨?_,fun j d h=>by have := hrel.still_lt h;omega⟩
  rintro ⟨k,x,o,hx,ho,hk,hbk⟩
  have := hrel.own_lt hx ho hk hbk;omega
 have h4 : Step H.length w S μ H (w.alloc (.cells cs.toArray t)) S (μ.set i (.pointer (some ⟨w.heap.size,0,none⟩))) (H.set i ⟨1,t,0,c⟩) := by
  refine h2.fill hμ fun b hb=>?_
  simp [blkOf] at hb;omega
 unfold Oper.wp
 rw [hrun]
 exact ⟨_,_,_,S,_,hK,rfl,⟨w.heap.size, .pointer (some ⟨w.heap.size,0,none⟩),List.getElem?_set_self hil,rfl,rfl⟩,h3,h4,fun q=>by rw [ho] at q;cases q⟩
def allL (ops : List Oper) (f : Nat → Oper → Bool) : Bool := (List.range ops.length).all fun k=>match ops[k]? with|some o=>f k o|none=>true
theorem zaL {ops : List Oper} {f : Nat → Oper → Bool} (h : allL ops f = true) {k : Nat} {o : Oper} (ho : ops[k]? = some o) : f k o = true := by
 have := List.all_eq_true.1 h k (List.mem_range.2 (List.getElem?_eq_some_iff.1 ho).1)
 rwa [ho] at this
def isAl (ops : List Oper) (p : Nat) : Bool := match ops[p]? with|some o=>(match o.op,o.guard with|.alloc _,none=>true|_,_=>false)|none=>false
def oddY (ops : List Oper) (p : Nat) : Bool := isAl ops p && isAl ops (p + 1) && allL ops fun j _=>!anc ops j (p + 1) || anc ops j p
theorem zkE {ops : List Oper} {p : Nat} {o : Oper} (ho : ops[p]? = some o) (h : isAl ops p = true) : ∃ t,o.op = .alloc t ∧ o.guard = none := by
 unfold isAl at h
 rw [ho] at h
 dsimp only at h
 split at h
 ·rename_i t e1 e2;exact ⟨t,e1,e2⟩
 ·cases h
def tailY (kc : KC) (ops : List Oper) (N : Nat) : Bool :=
  allL ops fun k o =>
    (match o.dst with
      | some d => decide (d < N) && allL ops (fun q oq => q == k || oq.dst != some d)
      | none => clsO kc o.op != 0) &&
    (decide (clsO kc o.op ≤ 1) || allL ops fun i oi => i == k || clsO kc oi.op == 0 || (if i < k then anc ops k i else anc ops i k)) &&
    (decide (clsO kc o.op ≠ 1) || allL ops fun i oi => i == k || decide (clsO kc oi.op ≠ 1) || (if i < k then anc ops k i || (k == i + 1 && oddY ops i) else anc ops i k || (i == k + 1 && oddY ops k)))
structure TailY (kc : KC) (ops : List Oper) (N : Nat) : Prop where
 dst : ∀ (k d : Nat) (o : Oper),ops[k]? = some o → o.dst = some d → d < N ∧ ∀ (q : Nat) (oq : Oper),ops[q]? = some oq → oq.dst = some d → q = k
 low : ∀ (k : Nat) (o : Oper),ops[k]? = some o → 1 < clsO kc o.op → ∀ (i : Nat) (oi : Oper),ops[i]? = some oi → clsO kc oi.op ≠ 0 → i < k → anc ops k i = true
 high : ∀ (k : Nat) (o : Oper),ops[k]? = some o → 1 < clsO kc o.op → ∀ (i : Nat) (oi : Oper),ops[i]? = some oi → clsO kc oi.op ≠ 0 → k < i → anc ops i k = true
 loud : ∀ (k i : Nat) (o oi : Oper),ops[k]? = some o → clsO kc o.op ≠ 0 → ops[i]? = some oi → clsO kc oi.op ≠ 0 → k < i → anc ops i k = true ∨ (i = k + 1 ∧ oddY ops k = true)
theorem zpk {ops : List Oper} (h : tailY kc ops N = true) : TailY kc ops N := by
 have g : ∀ (k : Nat) (o : Oper),ops[k]? = some o → _ := fun k o ho=>zaL h ho
 simp only [Bool.and_eq_true] at g
 have gW : ∀ (k : Nat) (o : Oper),ops[k]? = some o → 1 < clsO kc o.op → ∀ (i : Nat) (oi : Oper),ops[i]? = some oi → clsO kc oi.op ≠ 0 → i ≠ k → (if i < k then anc ops k i else anc ops i k) = true := by
  intro k o ho hw i oi hoi hr hne
  have h1 := (g k o ho).1.2
  rw [decide_eq_false (show ¬ clsO kc o.op ≤ 1 by omega),Bool.false_or] at h1
  have h2 := zaL h1 hoi
  rw [Bool.or_eq_true,Bool.or_eq_true,beq_iff_eq,beq_iff_eq] at h2
  rcases h2 with (h2|h2)|h2
  ·exact absurd h2 hne
  ·exact absurd h2 hr
  ·exact h2
 have gA : ∀ (k : Nat) (o : Oper),ops[k]? = some o → clsO kc o.op = 1 → ∀ (i : Nat) (oi : Oper),ops[i]? = some oi → clsO kc oi.op = 1 → i ≠ k → (if i < k then anc ops k i || (k == i + 1 && oddY ops i) else anc ops i k || (i == k + 1 && oddY ops k)) = true := by
  intro k o ho hw i oi hoi hr hne
  have h1 := (g k o ho).2
  rw [decide_eq_false (show ¬ clsO kc o.op ≠ 1 by omega),Bool.false_or] at h1
  have h2 := zaL h1 hoi
  rw [decide_eq_false (show ¬ clsO kc oi.op ≠ 1 by omega),Bool.or_false,Bool.or_eq_true,beq_iff_eq] at h2
  exact h2.resolve_left hne
 refine ⟨fun k d o ho hd=>?_,fun k o ho hw i oi hoi hr hik=>?_,fun k o ho hw i oi hoi hr hik=>?_,fun k i o oi ho hk hoi hi hki=>?_⟩
 ·have h1 := (g k o ho).1.1
  rw [hd] at h1
  simp only [Bool.and_eq_true,decide_eq_true_eq] at h1
  refine ⟨h1.1,fun q oq hoq hqd=>?_⟩
  have h5 := zaL h1.2 hoq
  simpa [hqd] using h5
 ·have := gW k o ho hw i oi hoi hr (by omega)
  rwa [if_pos hik] at this
 ·have := gW k o ho hw i oi hoi hr (by omega)
  rwa [if_neg (by omega)] at this
 ·by_cases h1 : clsO kc o.op = 1
  ·by_cases h2 : clsO kc oi.op = 1
   ·have := gA k o ho h1 i oi hoi h2 (by omega)
    rw [if_neg (by omega),Bool.or_eq_true,Bool.and_eq_true,beq_iff_eq] at this
    exact this
   ·have := gW i oi hoi (by omega) k o ho hk (by omega)
    rw [if_pos hki] at this
    exact .inl this
  ·have := gW k o ho (by omega) i oi hoi hi (by omega)
   rw [if_neg (by omega)] at this
   exact .inl this
def ztq (ops : List Oper) : Bool :=
 allL ops fun j o=>(zqF o ++ (match o.guard with|some (k,_)=>(dstAt ops k).toList|none=>[])).all fun t =>
  (allL ops fun k ok=>ok.dst != some t || anc ops k j) || !(allL ops fun k ok=>!(decide (k < j) && ok.dst == some t && anc ops j k))
def HY (kc : KC) (ops : List Oper) (B : List AObj) (hs : Nat → List AObj) (listed : Array Bool) (Hc : List AObj) (μ : List Value) : Prop :=
  (∃ (k : Nat) (o : Oper), ops[k]? = some o ∧ clsO kc o.op ≠ 0 ∧ listed.getD k false = true ∧ (∀ (k' : Nat) (o' : Oper), ops[k']? = some o' → clsO kc o'.op ≠ 0 → listed.getD k' false = true → k' ≤ k) ∧ (∀ (k' : Nat) (o' : Oper), ops[k']? = some o' → clsO kc o'.op ≠ 0 → k' ≤ k → listed.getD k' false = true) ∧ Hc = hs (k + 1)) ∨
  ((∀ (k : Nat) (o : Oper), ops[k]? = some o → clsO kc o.op ≠ 0 → listed.getD k false = false) ∧ Hc = B) ∨
  (∃ (q : Nat) (o o1 : Oper) (t : TypeId) (x y : AObj), ops[q]? = some o ∧ clsO kc o.op ≠ 0 ∧ ops[q + 1]? = some o1 ∧ clsO kc o1.op ≠ 0 ∧ oddY ops q = true ∧ listed.getD q false = false ∧ listed.getD (q + 1) false = true ∧ (∀ (k' : Nat) (o' : Oper), ops[k']? = some o' → clsO kc o'.op ≠ 0 → listed.getD k' false = true → k' ≤ q + 1) ∧
    (∀ (k' : Nat) (o' : Oper), ops[k']? = some o' → clsO kc o'.op ≠ 0 → k' < q → listed.getD k' false = true) ∧ Hc = hs q ++ [⟨0, t, 0, []⟩] ++ [y] ∧ hs (q + 1) = hs q ++ [x] ∧ hs (q + 2) = hs q ++ [x] ++ [y] ∧ μ[(hs q).length]? = some (.bool false))
structure JY (kc : KC) (n : Nat) (N : FS) (ops : List Oper) (B : List AObj) (hs : Nat → List AObj) (T0 E : Tm) (w0 : World) (S0 : SS) (μ0 : List Value) (listed : Array Bool) (a : Act) (w : World) (S : SS) (μ : List Value) (Hc : List AObj) : Prop where
 hd : HY kc ops B hs listed Hc μ
 rel : Rel w S μ Hc
 step : Step n w0 S0 μ0 B w S μ Hc
 len : n ≤ Hc.length
 size : a.tmps.size = N
 nodef : a.defers = N.d
 slot : ∀ t,zrP ops listed t → rep S μ (get E t) (a.tmps.getD t undef)
 start : ∀ t,(∀ (k : Nat) (o : Oper),ops[k]? = some o → o.dst = some t → listed.getD k false = false) → rep S μ (get T0 t) (a.tmps.getD t undef)
theorem Step.longer {w w' : World} {S S' : SS} {μ μ' : List Value} (h : Step H.length w S μ H w' S' μ' H') (hr : Rel w S μ H) (hr' : Rel w' S' μ' H') : H.length ≤ H'.length := by
 cases hl : H.length with
 |zero=>exact Nat.zero_le _
 |succ m =>
  have hm : m < μ.length := by rw [hr.len];omega
  obtain ⟨x',hx',_⟩ := h.objs m _ (by rw [hl];exact Nat.lt_succ_self m) (List.getElem?_eq_getElem hm)
  have := (List.getElem?_eq_some_iff.1 hx').1
  rw [hr'.len] at this
  exact this
theorem znk {T T' : Tm} {o : Oper} (hw : clsO kc o.op ≠ 0) (h : zmK T T' o) {K : AV → List AObj → Prop} (hs : z0w P G o ⟨H,T⟩ K) : z0w P G o ⟨H,T'⟩ K := by
 obtain ⟨dst,op,ty,pos,af,gd⟩ := o
 have e : ∀ x,x ∈ op.operands.toList → ev G T x = ev G T' x := fun x hx=>zpo h hx
 cases op with
 |alloc t=>exact hs
 |box t x=>simpa [z0w,e x (by simp [Op.operands])] using hs
 |store t x y=>simpa [z0w,e x (by simp [Op.operands]),e y (by simp [Op.operands])] using hs
 |makeFunc fn first caps =>
  have : (first.toList ++ caps.toList).map (ev G T) = (first.toList ++ caps.toList).map (ev G T') := List.map_congr_left fun x hx=>e x (by
   simpa [Op.operands] using hx)
  simp only [z0w] at hs ⊢
  rw [← this];exact hs
 |call c =>
  obtain ⟨callee,args,ts⟩ := c
  cases callee with
  |value x =>
   cases x with
   |func f =>
    have h2 : args.toList.map (ev G T) = args.toList.map (ev G T') := List.map_congr_left fun x hx=>e x (by simp [Op.operands,Call.operands];exact .inr (by simpa using hx))
    simp only [z0w] at hs ⊢
    rw [← h2];exact hs
   |tmp t =>
    have h1 : get T t = get T' t := e (.tmp t) (by simp [Op.operands,Call.operands])
    have h2 : args.toList.map (ev G T) = args.toList.map (ev G T') := List.map_congr_left fun x hx=>e x (by simp [Op.operands,Call.operands];exact .inr (by simpa using hx))
    simp only [z0w] at hs ⊢
    rw [← h1,← h2];exact hs
   |const v=>simp [z0w] at hs
   |global g=>simp [z0w] at hs
  |invoke r m=>simp [z0w] at hs
  |builtin b =>
   by_cases hb : b = .append
   ·subst hb
    obtain ⟨al⟩ := args
    obtain ⟨tl⟩ := ts
    rcases al with _|⟨x,_|⟨y,_|⟨z,r⟩⟩⟩
    ·simp [z0w] at hs
    ·simp [z0w] at hs
    ·rcases tl with _|⟨t,_|⟨t',_|⟨t'',r'⟩⟩⟩
     ·simp [z0w] at hs
     ·simp [z0w] at hs
     ·simpa [z0w,e x (by simp [Op.operands,Call.operands]),e y (by simp [Op.operands,Call.operands])] using hs
     ·simp [z0w] at hs
    ·simp [z0w] at hs
   ·by_cases hmm : b = .max ∨ b = .min
    ·rcases hmm with rfl|rfl
     all_goals
      obtain ⟨al⟩ := args
      rcases al with _|⟨x,_|⟨y,_|⟨z,r⟩⟩⟩
      ·simp [z0w] at hs
      ·simp [z0w] at hs
      ·simpa [z0w,e x (by simp [Op.operands,Call.operands]),e y (by simp [Op.operands,Call.operands])] using hs
      ·simp [z0w] at hs
    rw [not_or] at hmm
    exfalso
    by_cases hl : b = .len
    ·subst hl;simp [clsO,loud] at hw
    ·cases b <;> first|exact hb rfl|exact hl rfl|exact hmm.1 rfl|exact hmm.2 rfl|(simp [z0w] at hs;done)
 |mapUpdate t x y z=>simpa [z0w,e x (by simp [Op.operands]),e y (by simp [Op.operands]),e z (by simp [Op.operands])] using hs
 |makeMap t r =>
  cases r with
  |none=>simpa [z0w] using hs
  |some y=>simp [z0w] at hs
 |_=>simp [clsO,loud] at hw
theorem zqb {Q : Exit → ASt → Prop} {id : Nat} {ops : List Oper} {s : ASt} (hmx : P.follows .mixedOrders = true) (hsh : zaZ ops.toArray = true) (hok : tailY kc ops N = true) (hlk : ztq ops = true) (hn : n ≤ s.H.length)
  (h : drawY P G kc ops [] [] [] ops s fun s=>Q .normal s) : AWp P G N n (.region id ops.toArray true) Q s := by
 obtain ⟨B,T⟩ := s
 intro w0 S0 μ0 a0 hrel hfr hG
 have ok := zpk hok
 obtain ⟨vs,hs,hvl,hs0,hend,_,hfacts⟩ := zni h (fun i=>by simp) (fun x hx=>by cases hx)
 have hget : ∀ (k : Nat) (o : Oper),(ops.toArray)[k]? = some o → ops[k]? = some o := fun k o h=>by simpa using h
 have hvs : ∀ (k : Nat) (o : Oper),ops[k]? = some o → vs[k]? = some (vs.getD k .nil) := fun k o ho=>by
  have : k < vs.length := by rw [hvl];exact (List.getElem?_eq_some_iff.1 ho).1
  simp [List.getD,this]
 have hback : ∀ {k i : Nat},anc ops k i = true → i < k := fun h=>zyG hsh h
 have hfacts : ∀ i o v,ops[i]? = some o → vs[i]? = some v → posY P G kc ops (fun H'=>∃ q,q ≤ ops.length ∧ H' = hs q ∧ noneB kc ops 0 q i ∧ loI kc ops (ancs ops []) i ≤ q) (lowS kc ops [] hs i) (hs i) (envs T (ops.take i) (vs.take i)) o v (hs (i + 1)) := fun i o v ho hv=>by
  have := hfacts i o v ho hv
  simpa using this
 have hadd : ∀ (q i : Nat),i + q ≤ ops.length → (∀ (k : Nat) (o : Oper),i ≤ k → k < i + q → ops[k]? = some o → clsO kc o.op ≤ 1) → ∃ X,hs (i + q) = hs i ++ X := by
  intro q
  induction q with
  |zero=>intro i _ _;exact ⟨[],by simp⟩
  |succ q ih =>
   intro i hle hno
   have hk : i + q < ops.length := by omega
   have ho : ops[i + q]? = some ops[i + q] := List.getElem?_eq_getElem hk
   have hf := hfacts (i + q) ops[i + q] _ ho (hvs _ _ ho)
   have hq := hno (i + q) ops[i + q] (by omega) (by omega) ho
   obtain ⟨X,hX⟩ := ih i (by omega) fun k o h1 h2=>hno k o h1 (by omega)
   unfold posY at hf
   rw [show i + (q + 1) = i + q + 1 by omega]
   split at hf
   ·exact ⟨X,by rw [hf.1,hX]⟩
   ·rcases hf with ⟨_,_,hf⟩|⟨_,_,hf⟩
    ·obtain ⟨Y,hY⟩ := hf (by omega)
     exact ⟨X ++ Y,by rw [hY,hX,List.append_assoc]⟩
    ·exact ⟨X,by rw [hf,hX]⟩
 have hadd' : ∀ (i j : Nat),i ≤ j → j ≤ ops.length → (∀ (k : Nat) (o : Oper),i ≤ k → k < j → ops[k]? = some o → clsO kc o.op ≤ 1) → ∃ X,hs j = hs i ++ X := by
  intro i j hij hj hno
  have := hadd (j - i) i (by omega) fun k o h1 h2=>hno k o h1 (by omega)
  rwa [show i + (j - i) = j by omega] at this
 have hsc : ∀ (q i : Nat),i + q ≤ ops.length → (∀ (k : Nat) (o : Oper),i ≤ k → k < i + q → ops[k]? = some o → clsO kc o.op = 0) → hs (i + q) = hs i := by
  intro q
  induction q with
  |zero=>intro i _ _;rfl
  |succ q ih =>
   intro i hle hno
   have hk : i + q < ops.length := by omega
   have ho : ops[i + q]? = some ops[i + q] := List.getElem?_eq_getElem hk
   have hf := hfacts (i + q) ops[i + q] _ ho (hvs _ _ ho)
   have hq := hno (i + q) ops[i + q] (by omega) (by omega) ho
   have := ih i (by omega) fun k o h1 h2=>hno k o h1 (by omega)
   unfold posY at hf
   rw [if_pos hq] at hf
   rw [← this,show i + (q + 1) = i + q + 1 by omega];exact hf.1
 have hsc' : ∀ (i j : Nat),i ≤ j → j ≤ ops.length → (∀ (k : Nat) (o : Oper),i ≤ k → k < j → ops[k]? = some o → clsO kc o.op = 0) → hs j = hs i := by
  intro i j hij hj hno
  have := hsc (j - i) i (by omega) fun k o h1 h2=>hno k o h1 (by omega)
  rwa [show i + (j - i) = j by omega] at this
 have nb : ∀ {b : Bool},(b = true → False) → b = false := fun {b} h=>by cases b with|false=>rfl|true=>exact (h rfl).elim
 have z0 : ∀ {m : Nat},(m ≠ 0 → False) → m = 0 := fun {m} h=>by cases m with|zero=>rfl|succ m=>exact (h (by omega)).elim
 have hE : ∀ (j t : Nat),(∀ o ∈ ops,o.dst ≠ some t) ∨ (∃ (k : Nat) (o : Oper),k < j ∧ ops[k]? = some o ∧ o.dst = some t) → get (envs T (ops.take j) (vs.take j)) t = get (envs T ops vs) t := by
  intro j t ht
  rcases ht with hu|⟨k,o,hkj,ho,hd⟩
  ·rw [za9 _ _ _ _ fun o' ho2=>hu o' (List.mem_of_mem_take ho2),za9 _ _ _ _ hu]
  ·have huniq := (ok.dst k t o ho hd).2
   rw [zet (ops.take j) (vs.take j) T t k o (vs.getD k .nil) (by rw [List.getElem?_take,if_pos hkj];exact ho) (by rw [List.getElem?_take,if_pos hkj];exact hvs k o ho) hd fun q oq hoq e=>?_,
    zet ops vs T t k o (vs.getD k .nil) ho (hvs k o ho) hd fun q oq hoq e=>huniq q oq hoq e]
   rw [List.getElem?_take] at hoq
   split at hoq
   ·exact huniq q oq hoq e
   ·cases hoq
 refine wp_region_inv (fun listed a w=>∃ S μ Hc,JY kc n N ops B hs T (envs T ops vs) w0 S0 μ0 listed a w S μ Hc) hmx hsh ?_ ?_ ?_
 ·
  rintro listed a w j o ho hlsz hjf hedges hcl ⟨S,μ,Hc,hJ⟩
  have ho' := hget j o ho
  have hjl : j < ops.length := (List.getElem?_eq_some_iff.1 ho').1
  have hjs : j < listed.size := by rw [hlsz];simpa using hjl
  have hset : ∀ k,k ≠ j → (listed.setIfInBounds j true).getD k false = listed.getD k false := fun k hk=>getD_set_ne false (fun e=>hk e.symm)
  have hself := zea hjs
  have hafter : ∀ i,anc ops j i = true → listed.getD i false = true := fun i hi=>zl8 hsh hcl hi fun ok' hk e he hb=>by
   rw [ho'] at hk;injection hk with hk;subst hk
   exact hedges e he hb
  have hafter2 : ∀ (k i : Nat),listed.getD k false = true → anc ops k i = true → listed.getD i false = true := fun k i hl hi=>zl8 hsh hcl hi fun ok' hk e he hb=>hcl k ok' (by simpa using hk) hl e he hb
  have nl : ∀ (k : Nat),anc ops k j = true → listed.getD k false = false := fun k hk=>nb fun hl=>by
   have := hafter2 k j hl hk
   rw [hjf] at this;cases this
  have hne : ∀ k,listed.getD k false = true → k ≠ j := fun k hl e=>by subst e;rw [hl] at hjf;cases hjf
  have upd : ∀ {S' : SS} {μ' : List Value} {Hc' : List AObj} {u : Value} {w' : World},HY kc ops B hs (listed.setIfInBounds j true) Hc' μ' → Rel w' S' μ' Hc' → Step Hc.length w S μ Hc w' S' μ' Hc' → (∀ d,o.dst = some d → rep S' μ' (vs.getD j .nil) u) →
    JY kc n N ops B hs T (envs T ops vs) w0 S0 μ0 (listed.setIfInBounds j true) (a.put o.dst u) w' S' μ' Hc' := by
   intro S' μ' Hc' u w' hHD hr' hst' hrep
   have hle : Hc.length ≤ Hc'.length := hst'.longer hJ.rel hr'
   have hext := hst'.toExt hJ.rel
   refine ⟨hHD,hr',hJ.step.trans (hst'.less hJ.len),Nat.le_trans hJ.len hle,?_,?_,fun t ht=>?_,fun t ht=>?_⟩
   ·cases hd : o.dst <;> simp [Act.put,hJ.size]
   ·cases hd : o.dst <;> simp [Act.put,hJ.nodef]
   ·by_cases hdt : o.dst = some t
    ·have hu := ok.dst j t o ho' hdt
     rw [zet ops vs T t j o (vs.getD j .nil) ho' (hvs j o ho') hdt fun q oq hoq e=>hu.2 q oq hoq e,hdt]
     rw [zlC a t u (by rw [hJ.size];exact hu.1)]
     exact hrep t hdt
    ·have e1 : (a.put o.dst u).tmps.getD t undef = a.tmps.getD t undef := by
      cases hd : o.dst with
      |none=>rfl
      |some d=>exact zgl a d t u (fun e=>hdt (by rw [hd,e]))
     rw [e1]
     refine (hJ.slot t ?_).ext hext
     rcases ht with hu|⟨k,ok',hk,hkd,hl⟩
     ·exact .inl hu
     ·have hkj : k ≠ j := by rintro rfl;rw [ho'] at hk;injection hk with hk;subst hk;exact hdt hkd
      rw [hset k hkj] at hl
      exact .inr ⟨k,ok',hk,hkd,hl⟩
   ·have hdt : o.dst ≠ some t := by
     intro e
     have := ht j o ho' e
     rw [hself] at this;cases this
    have e1 : (a.put o.dst u).tmps.getD t undef = a.tmps.getD t undef := by
     cases hd : o.dst with
     |none=>rfl
     |some d=>exact zgl a d t u (fun e=>hdt (by rw [hd,e]))
    rw [e1]
    refine (hJ.start t fun k ok' hk hkd=>?_).ext hext
    have hkj : k ≠ j := by rintro rfl;rw [ho'] at hk;injection hk with hk;subst hk;exact hdt hkd
    have := ht k ok' hk hkd
    rwa [hset k hkj] at this
  let L := zqF o ++ (match o.guard with|some (k,_)=>(dstAt ops k).toList|none=>[])
  have hlook : ∀ t ∈ L,rep S μ (get (envs T (ops.take j) (vs.take j)) t) (a.tmps.getD t undef) := by
   intro t ht
   have h1 := zaL hlk ho'
   have h2 := List.all_eq_true.1 h1 t ht
   rw [Bool.or_eq_true] at h2
   rcases h2 with hu|hp
   ·have hun : ∀ (k : Nat) (ok' : Oper),ops[k]? = some ok' → ok'.dst = some t → anc ops k j = true := by
     intro k ok' hk hd
     have := zaL hu hk
     simpa [hd] using this
    have e : get (envs T (ops.take j) (vs.take j)) t = get T t := by
     refine za9 _ _ _ _ fun o' ho2 e=>?_
     obtain ⟨k,hk⟩ := List.getElem?_of_mem ho2
     rw [List.getElem?_take] at hk
     split at hk
     ·have := hback (hun k o' hk e)
      omega
     ·cases hk
    rw [e]
    exact hJ.start t fun k ok' hk hd=>nl k (hun k ok' hk hd)
   ·rw [Bool.not_eq_true'] at hp
    unfold allL at hp
    rw [List.all_eq_false] at hp
    obtain ⟨k,_,hk⟩ := hp
    cases hok : ops[k]? with
    |none=>rw [hok] at hk;exact absurd rfl hk
    |some ok' =>
     rw [hok] at hk
     simp only [Bool.not_eq_true',Bool.not_eq_false,Bool.and_eq_true,decide_eq_true_eq,beq_iff_eq] at hk
     obtain ⟨⟨hkj,hd⟩,han⟩ := hk
     rw [hE j t (.inr ⟨k,ok',hkj,hok,hd⟩)]
     exact hJ.slot t (.inr ⟨k,ok',hok,hd,hafter k han⟩)
  let Tj : Tm := L.map fun t=>(t,get (envs T (ops.take j) (vs.take j)) t)
  have hTj : ∀ (L : List Nat) (E : Tm) (i : Nat),(i ∈ L → get (L.map fun t=>(t,get E t)) i = get E i) ∧ (i ∉ L → get (L.map fun t=>(t,get E t)) i = .nil) := by
   intro L E i
   induction L with
   |nil=>exact ⟨fun h=>(by cases h),fun _=>rfl⟩
   |cons t L ih =>
    simp only [List.map_cons,get]
    refine ⟨fun h=>?_,fun h=>?_⟩
    ·split
     ·rename_i e;rw [e]
     ·rename_i e;exact ih.1 ((List.mem_cons.1 h).resolve_left fun q=>e q.symm)
    ·rw [if_neg fun e=>h (List.mem_cons.2 (.inl e.symm))]
     exact ih.2 fun q=>h (List.mem_cons_of_mem _ q)
  have hfrj : Fr S μ N Tj a := by
   refine ⟨hJ.size,hJ.nodef,fun i=>?_⟩
   by_cases hi : i ∈ L
   ·show rep S μ (get (L.map fun t=>(t,get _ t)) i) _
    rw [(hTj L _ i).1 hi]
    exact hlook i hi
   ·show rep S μ (get (L.map fun t=>(t,get _ t)) i) _
    rw [(hTj L _ i).2 hi];trivial
  have hGj := hG.ext hJ.step.still
  have hagree : zmK (envs T (ops.take j) (vs.take j)) Tj o := fun t ht=>((hTj L _ t).1 (List.mem_append_left _ ht)).symm
  have odd_no : ∀ {q k : Nat},oddY ops q = true → k < ops.length → anc ops k (q + 1) = true → anc ops k q = true := by
   intro q k ho hk ha
   unfold oddY at ho
   rw [Bool.and_eq_true] at ho
   have := zaL ho.2 (List.getElem?_eq_getElem hk)
   rw [ha] at this
   simpa using this
  have below : ∀ (k i : Nat) (ok' oi : Oper),ops[k]? = some ok' → clsO kc ok'.op ≠ 0 → listed.getD k false = true → ops[i]? = some oi → clsO kc oi.op ≠ 0 → i < k → listed.getD i false = true ∨ (k = i + 1 ∧ oddY ops i = true) := by
   intro k i ok' oi hk' hw' hl hoi hi hik
   rcases ok.loud i k oi ok' hoi hi hk' hw' hik with q|q
   ·exact .inl (hafter2 k i hl q)
   ·exact .inr q
  have ahead : ∀ (i : Nat) (oi : Oper),clsO kc o.op ≠ 0 → ops[i]? = some oi → clsO kc oi.op ≠ 0 → i < j → listed.getD i false = true ∨ (j = i + 1 ∧ oddY ops i = true) := by
   intro i oi hc hoi hi hij
   rcases ok.loud i j oi o hoi hi ho' hc hij with q|q
   ·exact .inl (hafter i q)
   ·exact .inr q
  have behind : ∀ (i : Nat) (oi : Oper),clsO kc o.op ≠ 0 → ops[i]? = some oi → clsO kc oi.op ≠ 0 → j < i → listed.getD i false = false ∨ (i = j + 1 ∧ oddY ops j = true) := by
   intro i oi hc hoi hi hji
   rcases ok.loud j i o oi ho' hc hoi hi hji with q|q
   ·exact .inl (nl i q)
   ·exact .inr q
  have hHL : clsO kc o.op ≠ 0 → (∀ (i : Nat) (oi : Oper),ops[i]? = some oi → clsO kc oi.op ≠ 0 → i < j → listed.getD i false = true) → (∀ (i : Nat) (oi : Oper),ops[i]? = some oi → clsO kc oi.op ≠ 0 → j < i → listed.getD i false = false) → Hc = hs j := by
   intro hc hlo hhi
   rcases hJ.hd with ⟨k,ok',hk',hw',hl,hmax,_,e⟩|⟨hnow,e⟩|⟨q,oq,o1,t,x,y,hq,hcq,hq1,hcq1,_,hlq,hlq1,_⟩
   ·have hlt : k < j := by
     rcases Nat.lt_trichotomy k j with q|q|q
     ·exact q
     ·exact absurd q (hne k hl)
     ·rw [hhi k ok' hk' hw' q] at hl;cases hl
    rw [e]
    refine (hsc' (k + 1) j (by omega) (by omega) fun i oi h1 h2 hoi=>z0 fun hi=>?_).symm
    have := hmax i oi hoi hi (hlo i oi hoi hi h2);omega
   ·rw [e,← hs0]
    refine (hsc' 0 j (Nat.zero_le _) (by omega) fun i oi _ h2 hoi=>z0 fun hi=>?_).symm
    have := hnow i oi hoi hi
    rw [hlo i oi hoi hi h2] at this;cases this
   ·exfalso
    have h1 : q ≠ j ∨ q = j := by omega
    rcases Nat.lt_trichotomy q j with e|e|e
    ·rw [hlo q oq hq hcq e] at hlq;cases hlq
    ·subst e
     rw [hhi (q + 1) o1 hq1 hcq1 (by omega)] at hlq1;cases hlq1
    ·rw [hhi (q + 1) o1 hq1 hcq1 (by omega)] at hlq1;cases hlq1
  have hHj : clsO kc o.op = 0 → ∃ X,Hc = lowS kc ops [] hs j ++ X := by
   intro hc0
   unfold lowS
   cases hfr : freeI kc ops (ancs ops []) j with
   |true=>exact ⟨Hc,rfl⟩
   |false =>
   show ∃ X,Hc = stAt [] hs (loI kc ops (ancs ops []) j) ++ X
   rw [show stAt [] hs (loI kc ops (ancs ops []) j) = hs (loI kc ops (ancs ops []) j) by simp [stAt]]
   have hlow := zj6 (kc := kc) ops j
   have mid : ∀ (k : Nat) (ok' : Oper),ops[k]? = some ok' → clsO kc ok'.op ≠ 0 → listed.getD k false = true → ∀ (i : Nat) (oi : Oper),loI kc ops (ancs ops []) j ≤ i → i < k + 1 → ops[i]? = some oi → clsO kc oi.op ≤ 1 := by
    intro k ok' hk' hw' hl i oi h1 h2 hoi
    rcases Nat.lt_or_ge 1 (clsO kc oi.op) with q|q
    ·exfalso
     have hli : listed.getD i false = true := by
      by_cases e : i = k
      ·rw [e];exact hl
      ·rcases below k i ok' oi hk' hw' hl hoi (by omega) (by omega) with q3|⟨_,q3⟩
       ·exact q3
       ·unfold oddY at q3
        rw [Bool.and_eq_true,Bool.and_eq_true] at q3
        obtain ⟨t,et,_⟩ := zkE hoi q3.1.1
        rw [et] at q
        exact absurd q (by simp [clsO])
     have hij := hne i hli
     rcases Nat.lt_or_ge i j with q2|q2
     ·have ha : anc ops j i = true := by
       have := zpf hfr hoi q hij
       rwa [if_neg (by omega)] at this
      rcases hlow with ⟨e,h3⟩|⟨p,op',hp,e,hop,hcp,hap,h3⟩
      ·rw [h3 i oi q2 hoi (by omega)] at ha;cases ha
      ·rw [h3 i oi (by omega) q2 hoi (by omega)] at ha;cases ha
     ·have ha : anc ops i j = true := by
       have := zpf hfr hoi q hij
       rwa [if_pos (by omega)] at this
      rw [nl i ha] at hli;cases hli
    ·exact q
   rcases hJ.hd with ⟨k,ok',hk',hw',hl,hmax,_,e⟩|⟨hnow,e⟩|⟨q,oq,o1,t,x,y,hq,hcq,hq1,hcq1,hod,hlq,hlq1,hmax,_,e,_,_,_⟩
   ·have hle : loI kc ops (ancs ops []) j ≤ k + 1 := by
     rcases hlow with ⟨e2,_⟩|⟨p,op',hp,e2,hop,hcp,hap,_⟩
     ·omega
     ·have := hmax p op' hop hcp (hafter p hap);omega
    rw [e]
    exact hadd' _ (k + 1) hle (by have := (List.getElem?_eq_some_iff.1 hk').1;omega) (mid k ok' hk' hw' hl)
   ·have : loI kc ops (ancs ops []) j = 0 := by
     rcases hlow with ⟨e2,_⟩|⟨p,op',hp,e2,hop,hcp,hap,_⟩
     ·exact e2
     ·have := hnow p op' hop hcp
      rw [hafter p hap] at this;cases this
    exact ⟨[],by rw [this,e,hs0,List.append_nil]⟩
   ·have hle : loI kc ops (ancs ops []) j ≤ q := by
     rcases hlow with ⟨e2,_⟩|⟨p,op',hp,e2,hop,hcp,hap,_⟩
     ·omega
     ·have h1 := hmax p op' hop hcp (hafter p hap)
      have h2 : p ≠ q := fun e=>by subst e;rw [hafter p hap] at hlq;cases hlq
      have h3 : p ≠ q + 1 := fun e=>by
       subst e
       rw [hafter q (odd_no hod hjl hap)] at hlq;cases hlq
      omega
    obtain ⟨X,hX⟩ := hadd' _ q hle (by have := (List.getElem?_eq_some_iff.1 hq).1;omega) fun i oi h1 h2 hoi=>mid (q + 1) o1 hq1 hcq1 hlq1 i oi h1 (by omega) hoi
    exact ⟨X ++ [⟨0,t,0,[]⟩] ++ [y],by rw [e,hX];simp⟩
  have hfact := hfacts j o (vs.getD j .nil) ho' (hvs j o ho')
  unfold posY at hfact
  split at hfact
  case isFalse hw =>
   rcases hfact with ⟨hg,hst,_⟩|⟨hg,hvd,hHk⟩
   rotate_left
   ·
    have hoff : ¬ Region.wanted o (yielded ops.toArray a.tmps) = true := by
     obtain ⟨k,want,t,hgd,ht,hb⟩ := hg
     have htL : t ∈ L := List.mem_append_right _ (by simp only [hgd,ht];simp)
     rcases hb with hb|⟨q,hb⟩
     ·have hy : yielded ops.toArray a.tmps k = some (!want) := za6 hfrj ht (by
       show get (L.map fun t=>(t,get _ t)) t = _
       rw [(hTj L _ t).1 htL];exact hb)
      simp [Region.wanted,hgd,hy]
     ·have hy : yielded ops.toArray a.tmps k = none := zfB hfrj ht (q := q) (by
       show get (L.map fun t=>(t,get _ t)) t = _
       rw [(hTj L _ t).1 htL];exact hb)
      simp [Region.wanted,hgd,hy]
    obtain ⟨_,_,_,hgd,_⟩ := hg
    have hodd : isAl ops j = true → False := fun q=>by
     obtain ⟨_,_,e⟩ := zkE ho' q
     rw [hgd] at e;cases e
    have hlo : ∀ (i : Nat) (oi : Oper),ops[i]? = some oi → clsO kc oi.op ≠ 0 → i < j → listed.getD i false = true := by
     intro i oi hoi hi hij
     rcases ahead i oi hw hoi hi hij with q|⟨e,hod⟩
     ·exact q
     ·unfold oddY at hod
      rw [Bool.and_eq_true,Bool.and_eq_true,← e] at hod
      exact (hodd hod.1.2).elim
    have hhi : ∀ (i : Nat) (oi : Oper),ops[i]? = some oi → clsO kc oi.op ≠ 0 → j < i → listed.getD i false = false := by
     intro i oi hoi hi hji
     rcases behind i oi hw hoi hi hji with q|⟨e,hod⟩
     ·exact q
     ·unfold oddY at hod
      rw [Bool.and_eq_true,Bool.and_eq_true] at hod
      exact (hodd hod.1.1).elim
    unfold Leads wpList
    rw [if_neg hoff]
    refine ⟨rfl,S,μ,Hc,upd (.inl ⟨j,o,ho',hw,hself,fun k' ok' hk' hw' hl'=>?_,fun k' ok' hk' hw' hle=>?_,by rw [hHk];exact hHL hw hlo hhi⟩) hJ.rel (Step.refl _ _ _ _ _) fun _ _=>by rw [hvd];exact zmc _ _⟩
    ·rcases Nat.lt_or_ge j k' with q|q
     ·exfalso
      rw [hset k' (by omega),hhi k' ok' hk' hw' q] at hl';cases hl'
     ·exact q
    ·by_cases e : k' = j
     ·subst e;exact hself
     ·rw [hset k' e];exact hlo k' ok' hk' hw' (by omega)
   have hwant : Region.wanted o (yielded ops.toArray a.tmps) = true := by
    rcases hg with hg|⟨k,want,t,hgd,ht,hb⟩
    ·simp [Region.wanted,hg]
    ·have htL : t ∈ L := List.mem_append_right _ (by simp only [hgd,ht];simp)
     have hy : yielded ops.toArray a.tmps k = some want := za6 hfrj ht (by
      show get (L.map fun t=>(t,get _ t)) t = _
      rw [(hTj L _ t).1 htL];exact hb)
     simp [Region.wanted,hgd,hy]
   unfold Leads wpList
   rw [if_pos hwant]
   refine .inl ?_
   by_cases hA : (∀ (i : Nat) (oi : Oper),ops[i]? = some oi → clsO kc oi.op ≠ 0 → i < j → listed.getD i false = true) ∧ (∀ (i : Nat) (oi : Oper),ops[i]? = some oi → clsO kc oi.op ≠ 0 → j < i → listed.getD i false = false)
   ·
    rw [← hHL hw hA.1 hA.2] at hst
    have hwp := zeh (znk hw hagree hst) hJ.rel hfrj hGj (fun e a' w'=>e = .normal ∧ ∃ S μ Hc,JY kc n N ops B hs T (envs T ops vs) w0 S0 μ0 (listed.setIfInBounds j true) a' w' S μ Hc)
    refine _root_.Go.Proofs.Ytaaogcnjfkgnoaa.Oper.wp_next hwp ?_
    rintro a' w' ⟨d,u,H',S',μ',⟨rfl,rfl⟩,rfl,hrep,hr',hst',_⟩
    refine ⟨rfl,S',μ',_,upd (.inl ⟨j,o,ho',hw,hself,fun k' ok' hk' hw' hl'=>?_,fun k' ok' hk' hw' hle=>?_,rfl⟩) hr' hst' fun _ _=>hrep⟩
    ·rcases Nat.lt_or_ge j k' with q|q
     ·exfalso
      rw [hset k' (by omega),hA.2 k' ok' hk' hw' q] at hl';cases hl'
     ·exact q
    ·by_cases e : k' = j
     ·subst e;exact hself
     ·rw [hset k' e];exact hA.1 k' ok' hk' hw' (by omega)
   have hal : ∀ {p : Nat} {op : Oper},ops[p]? = some op → isAl ops p = true → ∃ t c,op.op = .alloc t ∧ zeroC P t = some c ∧ vs.getD p .nil = OP (hs p).length 0 ∧ hs (p + 1) = hs p ++ [⟨1,t,0,c⟩] := by
    intro p op hp hal
    obtain ⟨t,et,eg⟩ := zkE hp hal
    have hf := hfacts p op _ hp (hvs p op hp)
    unfold posY at hf
    rw [if_neg (by rw [et];simp [clsO])] at hf
    have hf : z0w P G op ⟨hs p,envs T (ops.take p) (vs.take p)⟩ (fun d H'=>d = vs.getD p .nil ∧ H' = hs (p + 1)) := by
     rcases hf with ⟨_,hf,_⟩|⟨⟨_,_,_,hg,_⟩,_⟩
     ·exact hf
     ·rw [eg] at hg;cases hg
    unfold z0w at hf
    rw [et] at hf
    dsimp only at hf
    cases hz : zeroC P t with
    |none=>rw [hz] at hf;exact hf.elim
    |some c =>
     rw [hz] at hf
     exact ⟨t,c,et,hz,hf.1.symm,hf.2.symm⟩
   by_cases hB : ∀ (i : Nat) (oi : Oper),ops[i]? = some oi → clsO kc oi.op ≠ 0 → i < j → listed.getD i false = true
   ·
    have : ∃ (i : Nat) (oi : Oper),ops[i]? = some oi ∧ clsO kc oi.op ≠ 0 ∧ j < i ∧ listed.getD i false = true := by
     refine Classical.byContradiction fun q=>hA ⟨hB,fun i oi h1 h2 h3=>nb fun h4=>q ⟨i,oi,h1,h2,h3,h4⟩⟩
    obtain ⟨i,oi,hoi,hci,hji,hli⟩ := this
    rcases behind i oi hw hoi hci hji with q|⟨rfl,hod⟩
    ·rw [hli] at q;cases q
    rcases hJ.hd with ⟨k,ok',hk',hw',hl,hmax,hall,e⟩|⟨hnow,e⟩|⟨q,oq,o1,t,x,y,hq,hcq,hq1,hcq1,hod',hlq,hlq1,hmax,hlow,e,ex,ey,hμ⟩
    ·have := hall j o ho' hw (by have := hmax _ oi hoi hci hli;omega)
     rw [hjf] at this;cases this
    ·rw [hnow _ oi hoi hci] at hli;cases hli
    ·have hqj : q = j := by
      have h1 := hmax _ oi hoi hci hli
      rcases Nat.lt_or_ge j q with h2|h2
      ·have := hlow j o ho' hw h2
       rw [hjf] at this;cases this
      ·rcases Nat.lt_or_ge q j with h3|h3
       ·rw [hB q oq hq hcq h3] at hlq;cases hlq
       ·omega
     subst hqj
     rw [ho'] at hq;injection hq with hq;subst hq
     unfold oddY at hod
     rw [Bool.and_eq_true,Bool.and_eq_true] at hod
     obtain ⟨t0,c0,et,hz,hv,hx⟩ := hal ho' hod.1.1
     rw [ex] at hx
     have hxe : x = ⟨1,t0,0,c0⟩ := by simpa using hx
     have hHq : Hc[(hs q).length]? = some ⟨0,t,0,[]⟩ := by rw [e];simp
     refine _root_.Go.Proofs.Ytaaogcnjfkgnoaa.Oper.wp_next (zpJ (K := fun d H'=>d = OP (hs q).length 0 ∧ H' = Hc.set (hs q).length ⟨1,t0,0,c0⟩) hJ.rel et hz hμ hHq rfl ⟨rfl,rfl⟩) ?_
     rintro a' w' ⟨d,u,H',S',μ',⟨rfl,rfl⟩,rfl,hrep,hr',hst',_⟩
     refine ⟨rfl,S',μ',_,upd (.inl ⟨q + 1,oi,hoi,hci,by rw [hset _ (by omega)];exact hli,fun k' ok' hk' hw' hl'=>?_,fun k' ok' hk' hw' hle=>?_,?_⟩) hr' hst' fun _ _=>by rw [hv];exact hrep⟩
     ·by_cases e : k' = q
      ·omega
      ·rw [hset k' e] at hl'
       exact hmax k' ok' hk' hw' hl'
     ·by_cases e : k' = q
      ·subst e;exact hself
      ·rw [hset k' e]
       by_cases e2 : k' = q + 1
       ·subst e2;exact hli
       ·exact hB k' ok' hk' hw' (by omega)
     ·rw [ey,e,hxe]
      simp
   ·
    have : ∃ (i : Nat) (oi : Oper),ops[i]? = some oi ∧ clsO kc oi.op ≠ 0 ∧ i < j ∧ listed.getD i false = false := by
     refine Classical.byContradiction fun q=>hB fun i oi h1 h2 h3=>?_
     cases h4 : listed.getD i false with
     |true=>rfl
     |false=>exact absurd ⟨i,oi,h1,h2,h3,h4⟩ q
    obtain ⟨q,oq,hq,hcq,hqj,hlq⟩ := this
    rcases ahead q oq hw hq hcq hqj with h|⟨rfl,hod⟩
    ·rw [hlq] at h;cases h
    have hbel : ∀ (i : Nat) (oi : Oper),ops[i]? = some oi → clsO kc oi.op ≠ 0 → i < q → listed.getD i false = true := by
     intro i oi h1 h2 h3
     rcases ahead i oi hw h1 h2 (by omega) with h|⟨h,_⟩
     ·exact h
     ·omega
    have habo : ∀ (i : Nat) (oi : Oper),ops[i]? = some oi → clsO kc oi.op ≠ 0 → listed.getD i false = true → i ≤ q := by
     intro i oi h1 h2 h3
     rcases Nat.lt_or_ge q i with h4|h4
     ·exfalso
      rcases below i q oi oq h1 h2 h3 hq hcq h4 with h|⟨h,_⟩
      ·rw [h] at hlq;cases hlq
      ·subst h;rw [h3] at hjf;cases hjf
     ·exact h4
    have hHq : Hc = hs q := by
     rcases hJ.hd with ⟨k,ok',hk',hw',hl,hmax,hall,e⟩|⟨hnow,e⟩|⟨q',oq',o1,t,x,y,hq',hcq',hq1,hcq1,hod',hlq',hlq1,hmax,hlow,e,ex,ey,hμ⟩
     ·have hk1 : k < q := by
       have h1 := habo k ok' hk' hw' hl
       rcases Nat.lt_or_ge k q with h|h
       ·exact h
       ·have : k = q := by omega
        subst this;rw [hl] at hlq;cases hlq
      rw [e]
      refine (hsc' (k + 1) q (by omega) (by omega) fun i oi h1 h2 hoi=>z0 fun hi=>?_).symm
      have := hmax i oi hoi hi (hbel i oi hoi hi h2);omega
     ·rw [e,← hs0]
      refine (hsc' 0 q (Nat.zero_le _) (by omega) fun i oi _ h2 hoi=>z0 fun hi=>?_).symm
      have := hnow i oi hoi hi
      rw [hbel i oi hoi hi h2] at this;cases this
     ·exfalso
      have h1 := habo (q' + 1) o1 hq1 hcq1 hlq1
      rw [hbel q' oq' hq' hcq' (by omega)] at hlq';cases hlq'
    have hod2 := hod
    unfold oddY at hod2
    rw [Bool.and_eq_true,Bool.and_eq_true] at hod2
    obtain ⟨t0,c0,et0,hz0,hv0,hx0⟩ := hal hq hod2.1.1
    obtain ⟨t1,c1,et1,hz1,hv1,hx1⟩ := hal ho' hod2.1.2
    obtain ⟨hrv,hsv⟩ := hJ.rel.void t0
    refine _root_.Go.Proofs.Ytaaogcnjfkgnoaa.Oper.wp_next (zq2 hrv et1 hz1 (Q := fun e a' w'=>e = .normal ∧ ∃ S μ Hc,JY kc n N ops B hs T (envs T ops vs) w0 S0 μ0 (listed.setIfInBounds (q + 1) true) a' w' S μ Hc)) ?_
    rintro a' w' ⟨u,μ',rfl,hrep,hr',hst',z,rfl⟩
    have hμ' : (μ ++ [.bool false] ++ [z])[(hs q).length]? = some (.bool false) := by
     rw [← hHq,← hJ.rel.len]
     simp
    refine ⟨rfl,S,_,_,upd (.inr (.inr ⟨q,oq,o,t0,⟨1,t0,0,c0⟩,⟨1,t1,0,c1⟩,hq,hcq,ho',hw,hod,by rw [hset q (by omega)];exact hlq,hself,fun k' ok' hk' hw' hl'=>?_,fun k' ok' hk' hw' hlt=>?_,by rw [hHq],hx0,by rw [hx1,hx0],hμ'⟩)) hr' (hsv.trans (hst'.less (by simp))) fun _ _=>by
     rw [hv1,hx0,← hHq]
     simpa using hrep⟩
    ·by_cases e : k' = q + 1
     ·omega
     ·rw [hset k' e] at hl'
      have := habo k' ok' hk' hw' hl';omega
    ·rw [hset k' (by omega)]
     exact hbel k' ok' hk' hw' hlt
  case isTrue hna =>
    obtain ⟨hk,hfact⟩ := hfact
    have hHDq : HY kc ops B hs (listed.setIfInBounds j true) Hc μ := by
     have f : ∀ (k : Nat) (ok' : Oper),ops[k]? = some ok' → clsO kc ok'.op ≠ 0 → (listed.setIfInBounds j true).getD k false = listed.getD k false := by
      intro k ok' hk' hq
      refine hset k ?_
      rintro rfl
      rw [ho'] at hk';injection hk' with hk';subst hk'
      exact hq hna
     rcases hJ.hd with ⟨k,ok',hk',hw',hl,hmax,hall,e⟩|⟨hnos,e⟩|⟨q,oq,o1,t,x,y,hq,hcq,hq1,hcq1,hod,hlq,hlq1,hmax,hlow,r⟩
     ·exact .inl ⟨k,ok',hk',hw',by rw [f k ok' hk' hw'];exact hl,fun k2 o2 h1 h2 h3=>hmax k2 o2 h1 h2 (by rw [← f k2 o2 h1 h2];exact h3),fun k2 o2 h1 h2 h3=>by rw [f k2 o2 h1 h2];exact hall k2 o2 h1 h2 h3,e⟩
     ·exact .inr (.inl ⟨fun k2 o2 h1 h2=>by rw [f k2 o2 h1 h2];exact hnos k2 o2 h1 h2,e⟩)
     ·exact .inr (.inr ⟨q,oq,o1,t,x,y,hq,hcq,hq1,hcq1,hod,by rw [f q oq hq hcq];exact hlq,by rw [f _ o1 hq1 hcq1];exact hlq1,fun k2 o2 h1 h2 h3=>hmax k2 o2 h1 h2 (by rw [← f k2 o2 h1 h2];exact h3),fun k2 o2 h1 h2 h3=>by rw [f k2 o2 h1 h2];exact hlow k2 o2 h1 h2 h3,r⟩)
    have hdoH : ∀ (hw : Region.wanted o (yielded ops.toArray a.tmps) = true),stepD P G o ⟨Hc,envs T (ops.take j) (vs.take j)⟩ (· = vs.getD j .nil) → Leads P ops.toArray o a w (fun a' w'=>∃ S μ Hc,JY kc n N ops B hs T (envs T ops vs) w0 S0 μ0 (listed.setIfInBounds j true) a' w' S μ Hc) := by
     intro hw hst
     have hst' := zk7 hagree hst
     unfold Leads wpList
     rw [if_pos hw]
     refine .inl ?_
     unfold stepD at hst'
     split at hst'
     ·rename_i f args ts hop
      obtain ⟨X,hX,hargs,hXv⟩ := hst'
      subst hXv
      unfold Oper.wp
      rw [zjg hX.1 hop rfl]
      have hc := zql hX hargs hJ.rel hGj (vs := args.toList.map a.eval) (by rw [List.length_map,List.length_map,List.length_map]) (fun i d v hd hv=>by
       rw [List.getElem?_map,List.getElem?_map] at hd
       rw [List.getElem?_map] at hv
       cases hx : args.toList[i]? with
       |none=>rw [hx] at hd;cases hd
       |some x =>
        rw [hx] at hd hv
        simp only [Option.map_some,Option.some.injEq] at hd hv
        subst hd hv
        exact (hfrj.ev hGj x).toRo hJ.rel)
      have e : (args.toList.map a.eval).toArray = args.map a.eval := by rw [← Array.toList_map,Array.toArray_toList]
      rw [e] at hc
      refine hc.mono fun e w' ⟨v,S',he,hr',hrep,hst2,hbel⟩=>?_
      subst he
      exact ⟨rfl,S',μ,Hc,upd hHDq hr' hst2 fun _ _=>hrep⟩
     ·obtain ⟨hq,hst'⟩ := hst'
      have hpost := zeh hst' hJ.rel hfrj hGj (fun e a' w'=>e = .normal ∧ ∃ S μ Hc,JY kc n N ops B hs T (envs T ops vs) w0 S0 μ0 (listed.setIfInBounds j true) a' w' S μ Hc)
      refine _root_.Go.Proofs.Ytaaogcnjfkgnoaa.Oper.wp_next hpost ?_
      rintro a' w' ⟨d,u,H',S',μ',⟨rfl,rfl⟩,rfl,hrep,hr',hst2,hqq⟩
      obtain ⟨_,rfl,_⟩ := hqq hq
      exact ⟨rfl,S',_,_,upd hHDq hr' hst2 fun _ _=>hrep⟩
    have hdo : ∀ (hw : Region.wanted o (yielded ops.toArray a.tmps) = true),stepD P G o ⟨lowS kc ops [] hs j,envs T (ops.take j) (vs.take j)⟩ (· = vs.getD j .nil) → Leads P ops.toArray o a w (fun a' w'=>∃ S μ Hc,JY kc n N ops B hs T (envs T ops vs) w0 S0 μ0 (listed.setIfInBounds j true) a' w' S μ Hc) := by
     intro hw hst0
     obtain ⟨X,hX⟩ := hHj hna
     exact hdoH hw (by rw [hX];exact zmy hst0)
    rcases hfact with hfact|⟨lt,lx,hlo,hlg,hlf⟩
    rotate_left
    ·
     have notB : ∀ (i : Nat) (oi : Oper),ops[i]? = some oi → listed.getD i false = true → anc ops i j = false := fun i oi hoi hli=>nb fun ha=>by
      have := hafter2 i j hli ha
      rw [hjf] at this;cases this
     have lowL : ∀ q,(∀ (k : Nat) (oi : Oper),ops[k]? = some oi → clsO kc oi.op ≠ 0 → listed.getD k false = true → k < q) → loI kc ops (ancs ops []) j ≤ q := fun q hmx=>by
      rcases zj6 (kc := kc) ops j with ⟨e2,_⟩|⟨p,op',hp,e2,hop,hcp,hap,_⟩
      ·omega
      ·have := hmx p op' hop hcp (hafter p hap);omega
     obtain ⟨q,X,hq,hX,hnB,hlw⟩ : ∃ q X,q ≤ ops.length ∧ Hc = hs q ++ X ∧ noneB kc ops 0 q j ∧ loI kc ops (ancs ops []) j ≤ q := by
      rcases hJ.hd with ⟨k,ok',hk',hw',hl,hmax,hall,e⟩|⟨hnow,e⟩|⟨q,oq,o1,t,x,y,hq,hcq,hq1,hcq1,hod,hlq,hlq1,hmax,hlow,e,_,_,_⟩
      ·refine ⟨k + 1,[],by have := (List.getElem?_eq_some_iff.1 hk').1;omega,by rw [e,List.append_nil],fun i oi hoi hci _ hik=>notB i oi hoi (hall i oi hoi hci (by omega)),lowL _ fun k2 o2 h1 h2 h3=>by have := hmax k2 o2 h1 h2 h3;omega⟩
      ·exact ⟨0,[],Nat.zero_le _,by rw [e,hs0,List.append_nil],fun i oi hoi hci _ hik=>by omega,lowL _ fun k2 o2 h1 h2 h3=>by rw [hnow k2 o2 h1 h2] at h3;cases h3⟩
      ·refine ⟨q,[⟨0,t,0,[]⟩] ++ [y],by have := (List.getElem?_eq_some_iff.1 hq).1;omega,by rw [e,List.append_assoc],fun i oi hoi hci _ hik=>notB i oi hoi (hlow i oi hoi hci hik),?_⟩
       rcases zj6 (kc := kc) ops j with ⟨e2,_⟩|⟨p,op',hp,e2,hop,hcp,hap,_⟩
       ·omega
       ·have h1 := hmax p op' hop hcp (hafter p hap)
        have h2 : p ≠ q := fun e=>by subst e;rw [hafter p hap] at hlq;cases hlq
        have h3 : p ≠ q + 1 := fun e=>by
         subst e
         rw [hafter q (odd_no hod hjl hap)] at hlq;cases hlq
        omega
     refine hdoH ?_ ?_
     ·rcases hlg with hg|⟨k,want,t,hgd,ht,hb⟩
      ·simp [Region.wanted,hg]
      ·have htL : t ∈ L := List.mem_append_right _ (by simp only [hgd,ht];simp)
       have hy : yielded ops.toArray a.tmps k = some want := za6 hfrj ht (by
        show get (L.map fun t=>(t,get _ t)) t = _
        rw [(hTj L _ t).1 htL];exact hb)
       simp [Region.wanted,hgd,hy]
     rw [hX]
     refine zmy ?_
     have this : aLoad (kindT P lt) (hs q) (ev G (envs T (ops.take j) (vs.take j)) lx) (· = vs.getD j .nil) := hlf (hs q) ⟨q,hq,rfl,hnB,hlw⟩
     obtain ⟨dst,op,ty,pos,af,gd⟩ := o
     dsimp only at hlo
     subst hlo
     refine ⟨rfl,?_⟩
     rw [zux]
     exact zbz (fun d e=>⟨rfl,e⟩) this
    unfold zm5 at hfact
    split at hfact
    ·rename_i hgd
     exact hdo (by simp [Region.wanted,hgd]) hfact
    ·rename_i k want hgd
     obtain ⟨t,ht,⟨b,hb,hyes,hno⟩|⟨⟨q,hb⟩,hno⟩⟩ := hfact
     ·have htL : t ∈ L := List.mem_append_right _ (by simp only [hgd,ht];simp)
      have hy : yielded ops.toArray a.tmps k = some b := za6 hfrj ht (by
       show get (L.map fun t=>(t,get _ t)) t = _
       rw [(hTj L _ t).1 htL];exact hb)
      by_cases e : b = want
      ·exact hdo (by simp [Region.wanted,hgd,hy,e]) (hyes e)
      ·unfold Leads wpList
       rw [if_neg (by simp [Region.wanted,hgd,hy,e])]
       exact ⟨rfl,S,μ,Hc,upd hHDq hJ.rel (Step.refl _ _ _ _ _) fun _ _=>by rw [hno e];exact zmc _ _⟩
     ·have htL : t ∈ L := List.mem_append_right _ (by simp only [hgd,ht];simp)
      have hy : yielded ops.toArray a.tmps k = none := zfB hfrj ht (q := q) (by
       show get (L.map fun t=>(t,get _ t)) t = _
       rw [(hTj L _ t).1 htL];exact hb)
      unfold Leads wpList
      rw [if_neg (by simp [Region.wanted,hgd,hy])]
      exact ⟨rfl,S,μ,Hc,upd hHDq hJ.rel (Step.refl _ _ _ _ _) fun _ _=>by rw [hno];exact zmc _ _⟩
 ·
  rintro listed a w hall ⟨S,μ,Hc,hJ⟩
  have hall' : ∀ (k : Nat) (o : Oper),ops[k]? = some o → listed.getD k false = true := fun k o ho=>hall k (by simpa using (List.getElem?_eq_some_iff.1 ho).1)
  have hHc : Hc = hs ops.length := by
   rcases hJ.hd with ⟨k,ok',hk',hw',hl,hmax,_,e⟩|⟨hnos,e⟩|⟨q,oq,o1,t,x,y,hq,hcq,hq1,hcq1,hod,hlq,_⟩
   ·rw [e]
    refine (hsc' (k + 1) ops.length (by have := (List.getElem?_eq_some_iff.1 hk').1;omega) (Nat.le_refl _) fun i oi h1 h2 hoi=>z0 fun hi=>?_).symm
    have := hmax i oi hoi hi (hall' i oi hoi);omega
   ·rw [e,← hs0]
    refine (hsc' 0 ops.length (Nat.zero_le _) (Nat.le_refl _) fun i oi h1 h2 hoi=>z0 fun hi=>?_).symm
    have := hnos i oi hoi hi;rw [hall' i oi hoi] at this;cases this
   ·rw [hall' q oq hq] at hlq;cases hlq
  subst hHc
  refine ⟨⟨hs ops.length,envs T ops vs⟩,S,μ,hend,hJ.rel,⟨hJ.size,hJ.nodef,fun i=>hJ.slot i ?_⟩,hJ.step⟩
  by_cases hi : ∃ (k : Nat) (o : Oper),ops[k]? = some o ∧ o.dst = some i
  ·obtain ⟨k,o,ho,hd⟩ := hi
   exact .inr ⟨k,o,ho,hd,hall' k o ho⟩
  ·refine .inl fun o ho e=>?_
   obtain ⟨k,hk⟩ := List.getElem?_of_mem ho
   exact hi ⟨k,o,hk,e⟩
 ·
  intro listed hl
  obtain ⟨r,st⟩ := hrel.grow (w' := w0.drew) ((Below.refl _ _).drew) (fun _ _ _ q=>q) (fun _ _ _ q=>.inl q) (fun b j d q hb=>by have := hrel.still_lt q;omega)
  refine ⟨S0,μ0,B, .inr (.inl ⟨fun k o _ _=>hl k,rfl⟩),r,st.less hn,hn,hfr.size,hfr.nodef,fun t ht=>?_,fun t _=>hfr.slot t⟩
  rcases ht with hu|⟨k,o,_,_,h⟩
  ·rw [za9 _ _ _ _ hu];exact hfr.slot t
  ·rw [hl k] at h;cases h
end
end Go.Proofs.Ytaaogcnjfkgnoaa

namespace Go.Proofs.Ytaaogcnjfkgnoaa
open Go.RowKit
section
variable {R : Type}
abbrev RO := Option (AV × List AObj)
def whenE (b : Bool) (x : Option R) : Option R := match b with|true=>x|false=>none
theorem z03 {b : Bool} {x : Option R} {r : R} (h : whenE b x = some r) : b = true ∧ x = some r := by
 cases b with
 |true=>exact ⟨rfl,h⟩
 |false=>cases h
theorem zbO {x : Option R} : whenE true x = x := rfl
theorem zrV {x : Option R} : whenE false x = none := rfl
def nthE (l : List AV) (i : Nat) (K : AV → Option R) : Option R := match l[i]? with|some d=>K d|none=>none
theorem zpv {l : List AV} {i : Nat} {K : AV → Option R} {r : R} (h : nthE l i K = some r) : nth l i fun d=>K d = some r := by
 unfold nthE at h
 split at h
 ·rename_i d hd;exact ⟨d,hd,h⟩
 ·cases h
def nthOE (H : List AObj) (i : Nat) (K : AObj → Option R) : Option R := match H[i]? with|some d=>K d|none=>none
theorem ziR {H : List AObj} {i : Nat} {K : AObj → Option R} {r : R} (h : nthOE H i K = some r) : nthO H i fun d=>K d = some r := by
 unfold nthOE at h
 split at h
 ·rename_i d hd;exact ⟨d,hd,h⟩
 ·cases h
def intE (op : BinOp) (k : IntKind) (a : Int) (k' : IntKind) (b : Int) (K : AV → Option R) : Option R :=
 match op with
 |.add=>whenE (decide (k = k')) (K (V (.int k (k.wrap (a + b)))))
 |.sub=>whenE (decide (k = k')) (K (V (.int k (k.wrap (a - b)))))
 |.mul=>whenE (decide (k = k')) (K (V (.int k (k.wrap (a * b)))))
 |.quo=>whenE (decide (k = k')) (whenE (decide (¬ b = 0)) (K (V (.int k (k.wrap (a.tdiv b))))))
 |.rem=>whenE (decide (k = k')) (whenE (decide (¬ b = 0)) (K (V (.int k (a.tmod b)))))
 |.and=>whenE (decide (k = k')) (K (V (.int k (bits .and k a b))))
 |.or=>whenE (decide (k = k')) (K (V (.int k (bits .or k a b))))
 |.xor=>whenE (decide (k = k')) (K (V (.int k (bits .xor k a b))))
 |.andNot=>whenE (decide (k = k')) (K (V (.int k (bits .andNot k a b))))
 |.shl=>whenE (decide (0 ≤ b)) (K (V (.int k (k.wrap (a * 2 ^ (min b.toNat k.bits))))))
 |.shr=>whenE (decide (0 ≤ b)) (K (V (.int k (a.fdiv (2 ^ (min b.toNat k.bits))))))
 |.eql=>whenE (decide (k = k')) (K (V (.bool (decide (a = b)))))
 |.neq=>whenE (decide (k = k')) (K (V (.bool (!decide (a = b)))))
 |.lss=>whenE (decide (k = k')) (K (V (.bool (decide (a < b)))))
 |.leq=>whenE (decide (k = k')) (K (V (.bool (decide (a ≤ b)))))
 |.gtr=>whenE (decide (k = k')) (K (V (.bool (decide (b < a)))))
 |.geq=>whenE (decide (k = k')) (K (V (.bool (decide (b ≤ a)))))
theorem zvP {op : BinOp} {k k' : IntKind} {a b : Int} {K : AV → Option R} {r : R} (h : intE op k a k' b K = some r) : aInt op k a k' b fun d=>K d = some r := by
 have e1 : (a == b) = decide (a = b) := rfl
 have e2 : (a != b) = !decide (a = b) := rfl
 cases op <;> simp only [intE,aInt,e1,e2] at h ⊢ <;> obtain ⟨h1,h2⟩ := z03 h <;> first
  |exact ⟨of_decide_eq_true h1,h2⟩
  |(obtain ⟨h3,h4⟩ := z03 h2;exact ⟨of_decide_eq_true h1,of_decide_eq_true h3,h4⟩)
def strE (op : BinOp) (a b : ByteArray) (K : AV → Option R) : Option R :=
 match op with
 |.add=>whenE (decide (((a.size + b.size : Nat) : Int) ≤ 9223372036854775807)) (K (V (.string ⟨(a.data.toList ++ b.data.toList).toArray⟩)))
 |.eql=>K (V (.bool (decide (a.data.toList = b.data.toList))))
 |.neq=>K (V (.bool (!decide (a.data.toList = b.data.toList))))
 |.lss=>K (V (.bool (Op.bytesLess a.data.toList b.data.toList)))
 |.leq=>K (V (.bool (Op.bytesLess a.data.toList b.data.toList || decide (a.data.toList = b.data.toList))))
 |.gtr=>K (V (.bool (!(Op.bytesLess a.data.toList b.data.toList || decide (a.data.toList = b.data.toList)))))
 |.geq=>K (V (.bool (!Op.bytesLess a.data.toList b.data.toList)))
 |_=>none
theorem zme (a : ByteArray) : a.toList = a.data.toList := by
 obtain ⟨⟨l⟩⟩ := a
 exact zt7
theorem zvq (a b : ByteArray) : a ++ b = ⟨(a.data.toList ++ b.data.toList).toArray⟩ := by
 apply ByteArray.ext
 simp [ByteArray.data_append]
theorem zwF {op : BinOp} {a b : ByteArray} {K : AV → Option R} {r : R} (h : strE op a b K = some r) : aStr op a b fun d=>K d = some r := by
 have e1 : (a.data.toList == b.data.toList) = decide (a.data.toList = b.data.toList) := by rw [Bool.eq_iff_iff];simp
 cases op <;> simp only [strE,aStr,zme,zvq,e1] at h ⊢ <;> first|exact h|(obtain ⟨h1,h2⟩ := z03 h;exact ⟨of_decide_eq_true h1,h2⟩)|(cases h)
end
end Go.Proofs.Ytaaogcnjfkgnoaa

namespace Go.Proofs.Ytaaogcnjfkgnoaa
open Go.RowKit
section
variable {R : Type} {P : Program} {G : Gl}
def z8U (k : Nat) (l : List AV) (o : Nat) (K : AV → Option R) : Option R :=
 match k with
 |0=>none
 |1=>nthE l o K
 |k + 2=>whenE (decide (o + k ≤ l.length)) (K (.agg ((l.drop o).take k)))
theorem zbW {k : Nat} {l : List AV} {o : Nat} {K : AV → Option R} {r : R} (h : z8U k l o K = some r) : z7X k l o fun d=>K d = some r := by
 unfold z7X
 match k,h with
 |1,h=>rw [if_pos rfl];exact zpv h
 |k + 2,h =>
  rw [if_neg (by omega)]
  obtain ⟨h1,h2⟩ := z03 h
  exact ⟨by omega,by simpa using h1,h2⟩
def zh8 (ob : AObj) (K : List AV → Option R) : Option R := match ob.k with
 |1=>K ob.c
 |4=>whenE (decide (0 < ob.c.length)) (K (flat ob.c))
 |_=>none
theorem zqq {ob : AObj} {K : List AV → Option R} {r : R} (h : zh8 ob K = some r) : zgt ob fun l=>K l = some r := by
 unfold zh8 at h
 unfold zgt
 split at h
 ·rename_i e;rw [e];exact h
 ·rename_i e;rw [e];obtain ⟨h1,h2⟩ := z03 h;exact ⟨of_decide_eq_true h1,h2⟩
 ·cases h
def loadE (k : Nat) (H : List AObj) (a : AV) (K : AV → Option R) : Option R :=
 match a with
 |.ptr (.agg cs)=>whenE (decide (k = cs.length + 2)) (K (.agg cs))
 |.ptr d=>whenE (decide (k = 1)) (K d)
 |.held (.inr (.inl (i,o)))=>nthOE H i fun ob=>zh8 ob fun l=>z8U k l o K
 |_=>none
theorem zje {k : Nat} {H : List AObj} {a : AV} {K : AV → Option R} {r : R} (h : loadE k H a K = some r) : aLoad k H a fun d=>K d = some r := by
 unfold loadE at h
 unfold aLoad
 split at h
 ·obtain ⟨h1,h2⟩ := z03 h;exact ⟨of_decide_eq_true h1,h2⟩
 ·rename_i d hne
  obtain ⟨h1,h2⟩ := z03 h
  split
  ·rename_i e;injection e with e;subst e;exact absurd rfl (hne _)
  ·rename_i d' _ e;injection e with e;subst e;exact ⟨of_decide_eq_true h1,h2⟩
  ·rename_i e;cases e
  ·rename_i e1 e2;exact absurd rfl (e1 _)
 ·obtain ⟨ob,h1,h2⟩ := ziR h
  exact ⟨ob,h1,zgR (zqq h2) fun l q=>zbW q⟩
 ·cases h
def putE (ob : AObj) (k o : Nat) (x : AV) (K : AObj → Option R) : Option R := whenE (decide (¬ k = 0) && decide ((cellsOf x).length = szOf k) && (cellsOf x).all sure) (match ob.k with
 |1=>whenE (decide (o + szOf k ≤ ob.c.length)) (K { ob with c := z06 ob.c o (cellsOf x) })
 |4=>whenE (decide (0 < ob.z) && decide (szOf k = ob.z) && decide (o % ob.z = 0) && decide (o / ob.z < ob.c.length)) (K { ob with c := ob.c.set (o / ob.z) x })
 |_=>none)
theorem zu5 {ob : AObj} {k o : Nat} {x : AV} {K : AObj → Option R} {r : R} (h : putE ob k o x K = some r) : putP ob k o x fun d=>K d = some r := by
 obtain ⟨kk,te,z,c⟩ := ob
 obtain ⟨h1,h2⟩ := z03 h
 simp only [Bool.and_eq_true,decide_eq_true_eq] at h1
 refine ⟨h1.1.1,h1.1.2,h1.2,?_⟩
 dsimp only at h2 ⊢
 split at h2
 ·obtain ⟨h3,h4⟩ := z03 h2;exact ⟨of_decide_eq_true h3,h4⟩
 ·obtain ⟨h3,h4⟩ := z03 h2
  simp only [Bool.and_eq_true,decide_eq_true_eq] at h3
  exact ⟨h3.1.1.1,h3.1.1.2,h3.1.2,h3.2,h4⟩
 ·cases h2
def z1e (k : Nat) (H : List AObj) (a x : AV) (K : List AObj → Option R) : Option R :=
 match a with
 |.held (.inr (.inl (i,o)))=>nthOE H i fun ob=>putE ob k o x fun ob'=>K (H.set i ob')
 |_=>none
theorem znc {k : Nat} {H : List AObj} {a x : AV} {K : List AObj → Option R} {r : R} (h : z1e k H a x K = some r) : zkV k H a x fun d=>K d = some r := by
 unfold z1e at h
 unfold zkV
 split at h
 ·obtain ⟨ob,h1,h2⟩ := ziR h
  exact ⟨ob,h1,zmW (zu5 h2) fun _ q=>q⟩
 ·cases h
def z02 (fk : Option (Nat × Nat)) (a : AV) (K : AV → Option R) : Option R :=
 match fk with
 |some (off,k)=>match a with
  |.ptr (.agg cs)=>z8U k cs off fun d=>K (.ptr d)
  |.held (.inr (.inl (i,o)))=>K (OP i (o + off))
  |_=>none
 |none=>none
theorem zpD {fk : Option (Nat × Nat)} {a : AV} {K : AV → Option R} {r : R} (h : z02 fk a K = some r) : zis fk a fun d=>K d = some r := by
 unfold z02 at h
 unfold zis
 split at h
 ·split at h
  ·exact zbW h
  ·exact h
  ·cases h
 ·cases h
def zlc (fk : Option (Nat × Nat)) (a : AV) (K : AV → Option R) : Option R :=
 match fk with
 |some (off,k)=>match a with
  |.agg cs=>z8U k cs off K
  |_=>none
 |none=>none
theorem zpw {fk : Option (Nat × Nat)} {a : AV} {K : AV → Option R} {r : R} (h : zlc fk a K = some r) : zed fk a fun d=>K d = some r := by
 unfold zlc at h
 unfold zed
 split at h
 ·split at h
  ·exact zbW h
  ·cases h
 ·cases h
def zbx (H : List AObj) (x : AV) (K : List AV → Option R) : Option R :=
 match x with
 |.slice es []=>K es
 |.held (.inr (.inr (i,n)))=>nthOE H i fun o=>whenE (decide (o.k = 2) && decide (n = o.c.length)) (K o.c)
 |.held (.inl (.slice none 0 0))=>K []
 |.slice _ [.held (.inl (.bool _))]=>K []
 |_=>none
theorem zi5 {H : List AObj} {x : AV} {K : List AV → Option R} {r : R} (h : zbx H x K = some r) : z9l H x fun d=>K d = some r := by
 unfold zbx at h
 unfold z9l
 split at h
 ·exact h
 ·obtain ⟨ob,h1,h2⟩ := ziR h
  obtain ⟨h3,h4⟩ := z03 h2
  simp only [Bool.and_eq_true,decide_eq_true_eq] at h3
  exact ⟨ob,h1,h3.1,h3.2,h4⟩
 ·exact h
 ·exact h
 ·cases h
def idxSE (ek : Nat) (H : List AObj) (x ix : AV) (K : AV → Option R) : Option R :=
 match ix with
 |.held (.inl (.int k i))=>whenE (decide (0 ≤ i)) (match x with
  |.slice _ [.held (.inr (.inl (q,n)))]=>whenE (decide (i < n)) (nthOE H q fun ob=>whenE (decide (ob.k = 4) && decide (ob.z = szOf ek) && decide (n = ob.c.length)) (K (OP q (i.toNat * szOf ek))))
  |x=>zbx H x fun es=>nthE es i.toNat fun d=>whenE (decide ((cellsOf d).length = szOf ek)) (K (.ptr d)))
 |_=>none
theorem zsd {ek : Nat} {H : List AObj} {x ix : AV} {K : AV → Option R} {r : R} (h : idxSE ek H x ix K = some r) : ze9 ek H x ix fun d=>K d = some r := by
 unfold idxSE at h
 unfold ze9
 split at h
 ·obtain ⟨h1,h2⟩ := z03 h
  refine ⟨of_decide_eq_true h1,?_⟩
  split at h2
  ·obtain ⟨a1,a2⟩ := z03 h2
   obtain ⟨ob,a3,a4⟩ := ziR a2
   obtain ⟨a5,a6⟩ := z03 a4
   simp only [Bool.and_eq_true,decide_eq_true_eq] at a5
   exact ⟨of_decide_eq_true a1,ob,a3,a5.1.1,a5.1.2,a5.2,a6⟩
  rename_i hne
  split
  ·exact (hne _ _ _ rfl).elim
  refine z4z (zi5 h2) fun es q=>?_
  obtain ⟨d,h3,h4⟩ := zpv q
  obtain ⟨h5,h6⟩ := z03 h4
  exact ⟨d,h3,of_decide_eq_true h5,h6⟩
 ·cases h
def idxPE (n ek : Nat) (x ix : AV) (K : AV → Option R) : Option R :=
 match ix with
 |.held (.inl (.int _ i))=>whenE (decide (0 ≤ i) && decide (i < n)) (match x with
  |.ptr (.agg cs)=>z8U ek cs (i.toNat * szOf ek) fun d=>K (.ptr d)
  |.held (.inr (.inl (j,q)))=>K (OP j (q + i.toNat * szOf ek))
  |_=>none)
 |_=>none
def idxAE (st : Option (TypeId × Nat)) (at_ : Option (Nat × Nat)) (H : List AObj) (x ix : AV) (K : AV → Option R) : Option R :=
 match st with
 |some (_,ek)=>idxSE ek H x ix K
 |none=>match at_ with
  |some (n,ek)=>idxPE n ek x ix K
  |none=>none
theorem zsV {t : TypeId} {H : List AObj} {x ix : AV} {K : AV → Option R} {r : R} (h : idxAE (zdj P t) (zhN P t) H x ix K = some r) : zcU P t H x ix fun d=>K d = some r := by
 unfold idxAE at h
 unfold zcU
 generalize zdj P t = st at h ⊢
 generalize zhN P t = at_ at h ⊢
 rcases st with _|⟨e,ek⟩
 rotate_left
 ·exact zsd h
 ·rcases at_ with _|⟨m,ek⟩
  rotate_left
  ·dsimp only at h ⊢
   unfold idxPE at h
   split at h
   ·obtain ⟨h1,h2⟩ := z03 h
    simp only [Bool.and_eq_true,decide_eq_true_eq] at h1
    refine ⟨h1.1,h1.2,?_⟩
    split at h2
    ·exact zbW h2
    ·exact h2
    ·cases h2
   ·cases h
  ·cases h
def lenE (isS isL : Bool) (H : List AObj) (x : AV) (K : AV → Option R) : Option R :=
 match x with
 |.held (.inl (.string s))=>whenE isS (K (V (.int .i64 s.data.toList.length)))
 |.slice _ [.held (.inr (.inl (_,n)))]=>whenE isL (K (V (.int .i64 n)))
 |.held (.inr (.inr (_,n)))=>whenE isL (K (V (.int .i64 n)))
 |x=>whenE isL (zbx H x fun es=>K (V (.int .i64 es.length)))
def z9n (P : Program) (t : TypeId) : Bool := match P.underlying t with|some .string=>true|_=>false
theorem zaX {t : TypeId} (h : z9n P t = true) : P.underlying t = some .string := by
 unfold z9n at h
 split at h
 ·assumption
 ·cases h
def zjQ (P : Program) (t : TypeId) : Bool := match P.underlying t with|some .bool=>true|_=>false
theorem zoP {t : TypeId} (h : zjQ P t = true) : P.underlying t = some .bool := by
 unfold zjQ at h
 split at h
 ·assumption
 ·cases h
theorem lenE_ok {t : TypeId} {H : List AObj} {x : AV} {K : AV → Option R} {r : R} (h : lenE (z9n    P t) (zdj    P t).isSome H x K = some r) : aLen P t H x fun d => K d = some r := by
  unfold lenE at h
  unfold aLen
  split at h
  · rename_i s
    obtain ⟨h1, h2⟩ := z03        h
    exact ⟨zaX       h1, by have e : s.size = s.data.toList.length := rfl
                            rw [e]; exact h2⟩
  · exact z03        h
  · exact z03        h
  · rename_i x hne hne2 hne3
    obtain ⟨h1, h2⟩ := z03        h
    split
    · rename_i s; exact absurd rfl (hne s)
    · exact (hne2 _ _ _ rfl).elim
    · exact (hne3 _ _ rfl).elim
    · exact ⟨h1, zi5       h2⟩
def allCE (z : Nat) (es : List AV) : Bool := es.all fun d=>decide ((cellsOf d).length = z)
theorem zm6 {z : Nat} {es : List AV} (h : allCE z es = true) : allC z es := fun d hd=>by
 have := List.all_eq_true.1 h d hd
 exact of_decide_eq_true this
def appE (at_ : Option (TypeId × Nat)) (H : List AObj) (x y : AV) (K : AV → List AObj → Option R) : Option R :=
 match at_ with
 |some (e,z)=>zbx H y fun es=>whenE (allCE z es) (match x with
  |.held (.inl (.slice none 0 0))=>whenE (decide (es.length ≤ 34359738368)) (K (OW H.length es.length) (H ++ [⟨2,e,z,es⟩]))
  |.slice _ [.held (.inl (.bool _))]=>whenE (decide (es.length ≤ 34359738368)) (K (OW H.length es.length) (H ++ [⟨2,e,z,es⟩]))
  |.held (.inr (.inr (i,n)))=>nthOE H i fun ob=>whenE (decide (ob.k = 2) && decide (ob.e = e) && decide (ob.z = z) && decide (n = ob.c.length) && decide (n + es.length ≤ 34359738368)) (K (OW i (n + es.length)) (H.set i { ob with c := ob.c ++ es }))
  |_=>none)
 |none=>none
theorem zrN {t : TypeId} {H : List AObj} {x y : AV} {K : AV → List AObj → Option R} {r : R} (h : appE (appT P t) H x y K = some r) : aApp P t H x y fun d H'=>K d H' = some r := by
 unfold appE at h
 unfold aApp
 generalize appT P t = st at h ⊢
 rcases st with _|⟨e,z⟩
 rotate_left
 ·refine z4z (zi5 h) fun es q=>?_
  obtain ⟨h1,h2⟩ := z03 q
  refine ⟨zm6 h1,?_⟩
  split at h2
  ·obtain ⟨h3,h4⟩ := z03 h2
   exact ⟨of_decide_eq_true h3,h4⟩
  ·obtain ⟨h3,h4⟩ := z03 h2
   exact ⟨of_decide_eq_true h3,h4⟩
  ·obtain ⟨ob,h3,h4⟩ := ziR h2
   obtain ⟨h5,h6⟩ := z03 h4
   simp only [Bool.and_eq_true,decide_eq_true_eq] at h5
   exact ⟨ob,h3,h5.1.1.1.1,h5.1.1.1.2,h5.1.1.2,h5.1.2,h5.2,h6⟩
  ·cases h2
 ·cases h
def appSE (at_ : Option (TypeId × Nat)) (H : List AObj) (x y : AV) (K : AV → List AObj → Option R) : Option R := match y with
 |.held (.inl (.string q))=>appE at_ H x (SL (strA q)) K
 |_=>none
theorem zse {t : TypeId} {H : List AObj} {x y : AV} {K : AV → List AObj → Option R} {r : R} (h : appSE (appT P t) H x y K = some r) : aAppS P t H x y fun d H'=>K d H' = some r := by
 unfold appSE at h
 unfold aAppS
 split at h
 ·exact zrN h
 ·cases h
abbrev appQE (same isS : Bool) (at_ : Option (TypeId × Nat)) (H : List AObj) (x y : AV) (K : AV → List AObj → Option R) : Option R := match same with
 |true=>appE at_ H x y K
 |false=>whenE isS (appSE at_ H x y K)
def asIE (x : Option AV) (d : Int) (K : Int → Option R) : Option R :=
 match x with
 |none=>K d
 |some (.held (.inl (.int _ i)))=>K i
 |_=>none
theorem znf {x : Option AV} {d : Int} {K : Int → Option R} {r : R} (h : asIE x d K = some r) : asI x d fun i=>K i = some r := by
 unfold asIE at h
 unfold asI
 split at h
 ·exact h
 ·exact h
 ·cases h
def zgo (isS : Bool) (st : Option (TypeId × Nat)) (H : List AObj) (x : AV) (lo hi : Option AV) (K : AV → Option R) : Option R :=
 match x with
 |.held (.inl (.string s))=>whenE isS (asIE lo 0 fun l=>asIE hi s.data.toList.length fun h=>whenE (decide (0 ≤ l) && decide (l ≤ h) && decide (h ≤ s.data.toList.length)) (K (V (.string ⟨((s.data.toList.take h.toNat).drop l.toNat).toArray⟩))))
 |x=>match st with
  |some (_,ek)=>zbx H x fun es=>whenE (allCE (szOf ek) es) (asIE lo 0 fun l=>asIE hi es.length fun h=>whenE (decide (0 ≤ l) && decide (l ≤ h) && decide (h ≤ es.length)) (K (SL (cutE es l h))))
  |none=>none
theorem zxl (s : ByteArray) (l h : Nat) : s.extract l h = ⟨((s.data.toList.take h).drop l).toArray⟩ := by
 obtain ⟨⟨q⟩⟩ := s
 rw [zul]
 show ByteArray.mk _ = ByteArray.mk ((q.take h).drop l).toArray
 rw [List.drop_take]
theorem zpV {t : TypeId} {H : List AObj} {x : AV} {lo hi : Option AV} {K : AV → Option R} {r : R} (h : zgo (z9n P t) (zdj P t) H x lo hi K = some r) : zhH P t H x lo hi fun d=>K d = some r := by
 unfold zgo at h
 unfold zhH
 split at h
 ·rename_i s
  obtain ⟨h1,h2⟩ := z03 h
  refine ⟨zaX h1,z9B (znf h2) fun l hl=>z9B (znf hl) fun q hq=>?_⟩
  obtain ⟨h3,h4⟩ := z03 hq
  simp only [Bool.and_eq_true,decide_eq_true_eq] at h3
  refine ⟨h3.1.1,h3.1.2,h3.2,?_⟩
  rw [zxl];exact h4
 ·rename_i x hne
  split
  ·rename_i s;exact absurd rfl (hne s)
  ·generalize zdj P t = st at h ⊢
   rcases st with _|⟨e,ek⟩
   rotate_left
   ·refine z4z (zi5 h) fun es q=>?_
    obtain ⟨h1,h2⟩ := z03 q
    refine ⟨zm6 h1,z9B (znf h2) fun l hl=>z9B (znf hl) fun q hq=>?_⟩
    obtain ⟨h3,h4⟩ := z03 hq
    simp only [Bool.and_eq_true,decide_eq_true_eq] at h3
    exact ⟨h3.1.1,h3.1.2,h3.2,h4⟩
   ·cases h
def idxVE (isS : Bool) (at_ : Option (Nat × Nat)) (x ix : AV) (K : AV → Option R) : Option R :=
 match ix with
 |.held (.inl (.int _ i))=>(match x with
  |.held (.inl (.string s))=>whenE (isS && decide (0 ≤ i) && decide (i < s.data.toList.length)) (K (V (.int .u8 ((s.data.toList.getD i.toNat 0).toNat : Int))))
  |.agg cs=>(match at_ with
   |some (n,ek)=>whenE (decide (0 ≤ i) && decide (i < n)) (z8U ek cs (i.toNat * szOf ek) K)
   |none=>none)
  |_=>none)
 |_=>none
theorem zsx {t : TypeId} {x ix : AV} {K : AV → Option R} {r : R} (h : idxVE (z9n P t) (zhN P t) x ix K = some r) : zdY P t x ix fun d=>K d = some r := by
 unfold idxVE at h
 unfold zdY
 split at h
 ·split at h
  ·rename_i s
   obtain ⟨h1,h2⟩ := z03 h
   simp only [Bool.and_eq_true,decide_eq_true_eq] at h1
   exact ⟨zaX h1.1.1,h1.1.2,h1.2,h2⟩
  ·generalize zhN P t = at_ at h ⊢
   rcases at_ with _|⟨m,ek⟩
   rotate_left
   ·obtain ⟨h1,h2⟩ := z03 h
    simp only [Bool.and_eq_true,decide_eq_true_eq] at h1
    exact ⟨h1.1,h1.2,zbW h2⟩
   ·cases h
  ·cases h
 ·cases h
def nilE (x : AV) (K : AV → Option R) : Option R := match x with
 |.held (.inr (.inl (i,q)))=>K (OP i q)
 |.ptr d=>K (.ptr d)
 |_=>none
theorem zwz {x : AV} {K : AV → Option R} {r : R} (h : nilE x K = some r) : aNil x fun d=>K d = some r := by
 unfold nilE at h
 unfold aNil
 split at h
 ·exact h
 ·exact h
 ·cases h
def convE (isS : Bool) (dk : Option IntKind) (srcOk isB isT : Bool) (x : AV) (K : AV → Option R) : Option R := match x with
 |.held (.inl (.int _ n))=>whenE srcOk (match dk with|some k=>K (V (.int k (k.wrap n)))|none=>none)
 |.held (.inl (.string s))=>(match isT with|true=>whenE (decide (s.size ≤ 34359738368)) (K (SL (strA s)))|false=>whenE isS (K (V (.string s))))
 |.slice es []=>whenE isB (match zeT es with|some l=>K (V (.string ⟨l.toArray⟩))|none=>none)
 |_=>none
theorem zsR {src dst : TypeId} {x : AV} {K : AV → Option R} {r : R} (h : convE (z9n P src && z9n P dst) (intT P dst) (P.underlying src).isSome (bytT P src && z9n P dst) (z9n P src && bytT P dst) x K = some r) : aConv P src dst x fun d=>K d = some r := by
 unfold convE at h
 unfold aConv
 split at h
 ·obtain ⟨h1,h2⟩ := z03 h
  refine ⟨h1,?_⟩
  generalize intT P dst = dk at h2 ⊢
  rcases dk with _|k
  ·cases h2
  ·exact h2
 ·cases ht : z9n P src && bytT P dst with
  |true =>
   rw [ht] at h
   rw [Bool.and_eq_true] at ht
   obtain ⟨h1,h2⟩ := z03 (show whenE (decide _) _ = _ from h)
   exact .inr ⟨zaX ht.1,ht.2,of_decide_eq_true h1,h2⟩
  |false =>
   rw [ht] at h
   obtain ⟨h1,h2⟩ := z03 (show whenE _ _ = _ from h)
   rw [Bool.and_eq_true] at h1
   exact .inl ⟨zaX h1.1,zaX h1.2,h2⟩
 ·obtain ⟨h1,h2⟩ := z03 h
  rw [Bool.and_eq_true] at h1
  refine ⟨h1.1,zaX h1.2,?_⟩
  split at h2
  ·rename_i l hl
   rw [hl]
   exact h2
  ·cases h2
 ·cases h
def znF : AV → Option Bool
 |.held (.inl (.bool b))=>some b
 |_=>none
theorem znp {x : AV} {b : Bool} (h : znF x = some b) : x = V (.bool b) := by
 unfold znF at h
 split at h
 ·injection h with h;subst h;rfl
 ·cases h
noncomputable abbrev boolB (x : AV) (K : Bool → Option R) : Option R := Option.rec (motive := fun _=>Option R) none K (znF x)
theorem zkZ {x : AV} {K : Bool → Option R} {r : R} (h : boolB x K = some r) : ∃ b,x = V (.bool b) ∧ K b = some r := by
 cases hb : znF x with
 |none=>rw [show boolB x K = Option.rec (motive := fun _=>Option R) none K (znF x) from rfl,hb] at h;cases h
 |some b=>rw [show boolB x K = Option.rec (motive := fun _=>Option R) none K (znF x) from rfl,hb] at h;exact ⟨b,znp hb,h⟩
noncomputable abbrev boolC (x : AV) (A B : Option R) : Option R := boolB x fun b=>Bool.rec (motive := fun _=>Option R) B A b
theorem zlk {x : AV} {A B : Option R} {r : R} (h : boolC x A B = some r) : (x = V (.bool true) ∧ A = some r) ∨ (x = V (.bool false) ∧ B = some r) := by
 obtain ⟨b,h1,h2⟩ := zkZ h
 cases b with
 |true=>exact .inl ⟨h1,h2⟩
 |false=>exact .inr ⟨h1,h2⟩
noncomputable def unE (op : UnOp) (x : AV) (K : AV → Option R) : Option R :=
 match op with
 |.not=>boolB x fun b=>K (V (.bool (!b)))
 |.neg=>match x with
  |.held (.inl (.int k n))=>K (V (.int k (k.wrap (0 - n))))
  |_=>none
 |.xor=>match x with
  |.held (.inl (.int k n))=>K (V (.int k (bits .xor k (if k.signed then -1 else k.max) n)))
  |_=>none
 |.plus=>none
theorem zye {op : UnOp} {x : AV} {K : AV → Option R} {r : R} (h : unE op x K = some r) : aUn op x fun d=>K d = some r := by
 cases op with
 |not =>
  obtain ⟨b,rfl,h⟩ := zkZ (show boolB x (fun b=>K (V (.bool (!b)))) = some r from h)
  exact h
 |neg =>
  simp only [unE] at h
  unfold aUn
  split at h
  ·exact h
  ·cases h
 |xor =>
  simp only [unE] at h
  unfold aUn
  split at h
  ·exact h
  ·cases h
 |plus=>cases h
noncomputable def pickE (c x y : AV) (K : AV → Option R) : Option R := boolC c (K x) (K y)
theorem zs8 {c x y : AV} {K : AV → Option R} {r : R} (h : pickE c x y K = some r) : aPick c x y fun d=>K d = some r := by
 rcases zlk (show boolC c (K x) (K y) = some r from h) with ⟨rfl,h⟩|⟨rfl,h⟩
 ·exact h
 ·exact h
def extE (x : AV) (i : Nat) (K : AV → Option R) : Option R := match x with
 |.iface _ (.agg ds)=>nthE ds i K
 |_=>none
theorem zwS {x : AV} {i : Nat} {K : AV → Option R} {r : R} (h : extE x i K = some r) : zae x i fun d=>K d = some r := by
 unfold extE at h
 unfold zae
 split at h
 ·exact zpv h
 ·cases h
def z49 (pl : Option (List (Nat × Nat))) (z : Option (List AV)) (ps : List (Nat × AV)) (K : AV → Option R) : Option R :=
 match pl,z with
 |some pl,some z=>(match aFill (pl[·]?) ps z with|some cs=>K (.agg cs)|none=>none)
 |_,_=>none
theorem zpx {t : TypeId} {ps : List (Nat × AV)} {K : AV → Option R} {r : R} (h : z49 (zlK P t) (zeroC P t) ps K = some r) : zin P t ps fun d=>K d = some r := by
 unfold z49 at h
 unfold zin
 split at h
 ·rename_i h1 h2
  split at h
  ·rename_i h3;simp only [h1,h2,h3];exact h
  ·cases h
 ·cases h
def z1a (at_ : Option (TypeId × Nat)) (n : Nat) (ps : List (Nat × AV)) (K : AV → Option R) : Option R :=
 match at_ with
 |some (_,z)=>whenE (decide (ps.map (·.1) = List.range n) && allCE z (ps.map (·.2)) && (ps.map (·.2)).all pure1 && decide (n * z ≤ 16777216)) (K (bsV (ps.map (·.2))))
 |none=>none
theorem znU {t : TypeId} {n : Nat} {ps : List (Nat × AV)} {K : AV → Option R} {r : R} (h : z1a (appT P t) n ps K = some r) : zdU P t n ps fun d=>K d = some r := by
 unfold z1a at h
 unfold zdU
 generalize appT P t = st at h ⊢
 rcases st with _|⟨e,z⟩
 rotate_left
 ·obtain ⟨h1,h2⟩ := z03 h
  simp only [Bool.and_eq_true,decide_eq_true_eq] at h1
  exact ⟨h1.1.1.1,zm6 h1.1.1.2,h1.1.2,h1.2,h2⟩
 ·cases h
def z4P (z : Option (List AV)) (t : TypeId) (H : List AObj) (K : AV → List AObj → Option R) : Option R := match z with
 |some c=>K (OP H.length 0) (H ++ [⟨1,t,0,c⟩])
 |none=>none
def boxE (t : TypeId) (H : List AObj) (x : AV) (K : AV → List AObj → Option R) : Option R :=
 whenE ((cellsOf x).all sure) (K (OP H.length 0) (H ++ [⟨1,t,0,cellsOf x⟩]))
end
end Go.Proofs.Ytaaogcnjfkgnoaa

namespace Go.Proofs.Ytaaogcnjfkgnoaa
open Go.RowKit
inductive CK|b|i (k : IntKind)|s
deriving DecidableEq
def fitK : CK → Value → Bool
 |.b, .bool _=>true
 |.i k, .int k' _=>decide (k' = k)
 |.s, .string _=>true
 |_,_=>false
def sameK : Value → Value → Bool
 |.bool a, .bool b=>decide (a = b)
 |.int _ a, .int _ b=>decide (a = b)
 |.string a, .string b=>decide (a.data.toList = b.data.toList)
 |_,_=>false
def zph (P : Program) (F : TypeId → Option (List CK)) : List Field → Nat → Option (List CK)
 |[],_=>some []
 | f :: r, o => if f.name == "_" || !(f.offset == o) then none else match F f.type with
  |some ks=>if P.cellsOf f.type == ks.length then (zph P F r (o + ks.length)).map (ks ++ ·) else none
  |none=>none
def flatK (P : Program) : Nat → TypeId → Option (List CK)
 |0,_=>none
 |d + 1,t=>match P.underlying t with
  |some .bool=>some [.b]
  |some (.int k)=>some [.i k]
  |some .string=>some [.s]
  |some (.struct fs)=>if P.stoodInHeld t then none else zph P (flatK P d) fs.toList 0
  |_=>none
def fitKs : List CK → List Value → Bool
 |[],[]=>true
 |k :: ks,v :: vs=>fitK k v && fitKs ks vs
 |_,_=>false
def zcu : List Value → List Value → Bool
 |[],[]=>true
 |u :: us,v :: vs=>sameK u v && zcu us vs
 |_,_=>false
theorem zup {u : Value} (h : fitK .b u = true) : ∃ a,u = .bool a := by
 cases u <;> simp only [fitK,Bool.false_eq_true] at h
 exact ⟨_,rfl⟩
theorem zwu {k : IntKind} {u : Value} (h : fitK (.i k) u = true) : ∃ a,u = .int k a := by
 cases u <;> simp only [fitK,Bool.false_eq_true,decide_eq_true_eq] at h
 subst h
 exact ⟨_,rfl⟩
theorem zuq {u : Value} (h : fitK .s u = true) : ∃ a,u = .string a := by
 cases u <;> simp only [fitK,Bool.false_eq_true] at h
 exact ⟨_,rfl⟩
theorem zel : ∀ {ks : List CK} {vs : List Value},fitKs ks vs = true → vs.length = ks.length
 |[],[],_=>rfl
 |k :: ks,v :: vs,h=>by
  simp only [fitKs,Bool.and_eq_true] at h
  simp [zel h.2]
 |[],_ :: _,h=>by cases h
 |_ :: _,[],h=>by cases h
theorem zkv : ∀ {ks js : List CK} {vs : List Value},fitKs (ks ++ js) vs = true → fitKs ks (vs.take ks.length) = true ∧ fitKs js (vs.drop ks.length) = true
 |[],js,vs,h=>⟨rfl,by simpa using h⟩
 |k :: ks,js,v :: vs,h=>by
  simp only [List.cons_append,fitKs,Bool.and_eq_true] at h
  have := zkv h.2
  simp only [List.length_cons,List.take_succ_cons,List.drop_succ_cons,fitKs,Bool.and_eq_true]
  exact ⟨⟨h.1,this.1⟩,this.2⟩
 |k :: ks,js,[],h=>by cases h
theorem zlj : ∀ {n : Nat} {us vs : List Value},us.length = vs.length → zcu us vs = (zcu (us.take n) (vs.take n) && zcu (us.drop n) (vs.drop n))
 |0,us,vs,h=>by simp [zcu]
 |n + 1,[],[],h=>by simp [zcu]
 |n + 1,u :: us,v :: vs,h=>by
  simp only [zcu,List.take_succ_cons,List.drop_succ_cons,Bool.and_assoc]
  rw [zlj (n := n) (by simpa using h)]
 |n + 1,[],v :: vs,h=>by simp at h
 |n + 1,u :: us,[],h=>by simp at h
section
variable {P : Program} (w : World)
def valT (P : Program) (t : TypeId) (vs : List Value) : Option Value := match P.underlying t with
 |some (.struct _)=>some (.agg vs.toArray)
 |_=>vs[0]?
theorem zmX {d : Nat} {t : TypeId} {ks : List CK} (h : flatK P d t = some ks) {xs : Array Value} {o : Nat} (hc : P.cellsOf t = ks.length) (hf : fitKs ks ((xs.toList.drop o).take ks.length) = true) :
  ∃ v,valT P t ((xs.toList.drop o).take ks.length) = some v ∧ (part t xs o).run P w = .ok v w := by
 cases d with
 |zero=>simp [flatK] at h
 |succ d =>
  have sc : ∀ k : CK,ks = [k] → P.plainKey t = true → (∀ fs,P.underlying t ≠ some (.struct fs)) → ∃ v,valT P t ((xs.toList.drop o).take ks.length) = some v ∧ (part t xs o).run P w = .ok v w := by
   intro k hk hp hns
   subst hk
   have hl := zel hf
   simp only [List.length_cons,List.length_nil,Nat.zero_add] at hl ⊢
   obtain ⟨v,hv⟩ := List.length_eq_one_iff.1 hl
   refine ⟨v,?_,run_part_plain w hp (getElem?_of_chunk hv)⟩
   unfold valT
   split
   ·rename_i fs e;exact absurd e (hns fs)
   ·rw [hv];rfl
  unfold flatK at h
  split at h
  ·rename_i e;exact sc _ (Option.some.inj h).symm (by simp [Program.plainKey,e]) (by simp [e])
  ·rename_i e;exact sc _ (Option.some.inj h).symm (by simp [Program.plainKey,e]) (by simp [e])
  ·rename_i e;exact sc _ (Option.some.inj h).symm (by simp [Program.plainKey,e]) (by simp [e])
  ·rename_i fs e
   obtain ⟨i,hi⟩ := info_of_underlying e
   refine ⟨.agg (xs.extract o (o + P.cellsOf t)),?_,?_⟩
   ·simp only [valT,e]
    congr 2
    rw [hc]
    apply Array.ext'
    simp [List.extract]
   ·simp [part,isAgg,run_underlying e,run_sizeOf w hi]
  ·cases h
theorem zl2 : ∀ (d D : Nat) (t : TypeId) (ks : List CK),flatK P d t = some ks → d ≤ D → ∀ (w : World) (us vs : List Value) (x y : Value),fitKs ks us = true → fitKs ks vs = true → valT P t us = some x → valT P t vs = some y →
  (Op.equalIn D t x y).run P w = .ok (zcu us vs) w
 |0,_,_,_,h,_,_,_,_,_,_,_,_,_,_=>by simp [flatK] at h
 |d + 1,0,t,ks,h,hD,_,_,_,_,_,_,_,_,_=>by omega
 |d + 1,D + 1,t,ks,h,hD,w,us,vs,x,y,hu,hv,hx,hy=>by
  have one : ∀ {k : CK} {us : List Value},fitKs [k] us = true → ∃ u,us = [u] ∧ fitK k u = true := by
   intro k us h
   match us,h with
   |[u],h=>exact ⟨u,rfl,by simpa [fitKs] using h⟩
   |[],h=>cases h
   |u :: v :: r,h=>simp [fitKs] at h
  unfold flatK at h
  split at h
  ·rename_i e
   obtain rfl := (Option.some.inj h).symm
   obtain ⟨u,rfl,fu⟩ := one hu
   obtain ⟨v,rfl,fv⟩ := one hv
   simp only [valT,e,List.getElem?_cons_zero,Option.some.injEq] at hx hy
   subst hx hy
   obtain ⟨a,rfl⟩ := zup fu
   obtain ⟨b,rfl⟩ := zup fv
   rw [run_equalIn_bool w D t a b e]
   have : (a == b) = decide (a = b) := by rw [Bool.eq_iff_iff];simp
   simp [zcu,sameK,this]
  ·rename_i k e
   obtain rfl := (Option.some.inj h).symm
   obtain ⟨u,rfl,fu⟩ := one hu
   obtain ⟨v,rfl,fv⟩ := one hv
   simp only [valT,e,List.getElem?_cons_zero,Option.some.injEq] at hx hy
   subst hx hy
   obtain ⟨a,rfl⟩ := zwu fu
   obtain ⟨b,rfl⟩ := zwu fv
   rw [run_equalIn_int w D t k k a b e]
   have : (a == b) = decide (a = b) := by rw [Bool.eq_iff_iff];simp
   simp [zcu,sameK,this]
  ·rename_i e
   obtain rfl := (Option.some.inj h).symm
   obtain ⟨u,rfl,fu⟩ := one hu
   obtain ⟨v,rfl,fv⟩ := one hv
   simp only [valT,e,List.getElem?_cons_zero,Option.some.injEq] at hx hy
   subst hx hy
   obtain ⟨a,rfl⟩ := zuq fu
   obtain ⟨b,rfl⟩ := zuq fv
   rw [run_equalIn_string w D t a b e]
   have : (a.toList == b.toList) = decide (a.data.toList = b.data.toList) := by rw [zme,zme,Bool.eq_iff_iff];simp
   simp [zcu,sameK,this]
  ·rename_i fs e
   split at h
   ·cases h
   rename_i hst
   have hst : P.stoodInHeld t = false := by simpa using hst
   have hfs : P.fieldsOf t = fs := by simp [Program.fieldsOf,e]
   simp only [valT,e,Option.some.injEq] at hx hy
   subst hx hy
   rw [run_equalIn_struct w D t us.toArray vs.toArray (by rw [hfs];exact e) hst,hfs]
   have fields : ∀ (l : List Field) (o : Nat) (ks : List CK),zph P (flatK P d) l o = some ks → fitKs ks (us.drop o) = true → fitKs ks (vs.drop o) = true →
     (Op.eqFields D us.toArray vs.toArray l).run P w = .ok (zcu (us.drop o) (vs.drop o)) w := by
    intro l
    induction l with
    |nil =>
     intro o ks h1 h2 h3
     simp only [zph,Option.some.injEq] at h1
     subst h1
     have e1 : us.drop o = [] := List.length_eq_zero_iff.1 (by simpa using zel h2)
     have e2 : vs.drop o = [] := List.length_eq_zero_iff.1 (by simpa using zel h3)
     rw [e1,e2]
     simp [Op.eqFields,zcu]
    |cons f r ih =>
     intro o ks h1 h2 h3
     simp only [zph] at h1
     split at h1
     ·cases h1
     rename_i hno
     have hno : ¬ f.name = "_" ∧ f.offset = o := by simpa using hno
     obtain ⟨hname,hoff⟩ := hno
     split at h1
     rotate_left
     ·cases h1
     rename_i k1 hk1
     split at h1
     rotate_left
     ·cases h1
     rename_i hcell
     have hcell : P.cellsOf f.type = k1.length := by simpa using hcell
     rw [Option.map_eq_some_iff] at h1
     obtain ⟨k2,hk2,rfl⟩ := h1
     obtain ⟨a1,a2⟩ := zkv h2
     obtain ⟨b1,b2⟩ := zkv h3
     rw [List.drop_drop] at a2 b2
     obtain ⟨x,vx,px⟩ := zmX w hk1 (xs := us.toArray) (o := o) hcell (by simpa using a1)
     obtain ⟨y,vy,py⟩ := zmX w hk1 (xs := vs.toArray) (o := o) hcell (by simpa using b1)
     have hq := zl2 d D f.type k1 hk1 (by omega) w _ _ x y a1 b1 (by simpa using vx) (by simpa using vy)
     have hl : (us.drop o).length = (vs.drop o).length := by rw [zel h2,zel h3]
     rw [zlj (n := k1.length) hl,List.drop_drop,List.drop_drop]
     simp only [Op.eqFields,hname,ne_eq,not_false_eq_true,if_true,Sem.run_bind,hoff,px,py,hq,Result.andThen_ok]
     cases hs : zcu ((us.drop o).take k1.length) ((vs.drop o).take k1.length) with
     |false=>simp
     |true=>simpa using ih _ _ hk2 a2 b2
   have := fields fs.toList 0 ks h (by simpa using hu) (by simpa using hv)
   simpa using this
  ·cases h
end
end Go.Proofs.Ytaaogcnjfkgnoaa

namespace Go.Proofs.Ytaaogcnjfkgnoaa
open Go.RowKit
def znD : List AV → Option (List Value)
 |[]=>some []
 |.held (.inl v) :: r=>(match znD r with|some vs=>some (v :: vs)|none=>none)
 |_=>none
theorem zeo : ∀ {xs : List AV} {us : List Value},znD xs = some us → xs = us.map fun u=>V u
 |[],us,h=>by cases h;rfl
 |x :: r,us,h=>by
  unfold znD at h
  split at h
  ·rename_i e;cases e
  ·rename_i v r' e
   injection e with e1 e2;subst e1 e2
   split at h
   ·rename_i vs hv;cases h;rw [zeo hv];rfl
   ·cases h
  ·cases h
def cmpT (P : Program) (t : TypeId) : Option (List CK) := if P.eqGuardType P.depth t then none else match P.underlying t with|some (.struct _)=>flatK P 20 t|_=>none
inductive Ent
 |tell (g : List AV → RO)
 |keep (g : List AV → List AObj → RO)
 |add (g : List AV → Nat → RO)
 |pan (g : List AV → List AObj → RO)
abbrev Env := List (FuncId × Ent)
def EnvOk (P : Program) (G : Gl) (E : Env) : Prop := ∀ f e,(f,e) ∈ E → match e with
 |.tell g=>∀ args X H',g args = some (X,H') → ACp P G f args X
 |.keep g=>∀ args H X H',g args H = some (X,H') → AC P G f args H (Is X H')
 |.add g=>∀ args H X Y,g args H.length = some (X,Y) → AC P G f args H (Is X (H ++ Y))
 |.pan g=>∀ args H X H',g args H = some (X,H') → ACx P G f args H (Is X H')
def findE : Env → FuncId → Option Ent
 |[],_=>none
 |(g,e) :: r,f=>if f = g then some e else findE r f
def kcE (E : Env) : KC := fun f=>match findE E f with
 |some (.keep _)=>2
 |some (.pan _)=>2
 |some (.add _)=>1
 |_=>0
theorem findE_mem : ∀ {E : Env} {f : FuncId} {e : Ent}, findE E f = some e → (f, e) ∈ E
  | (g, e') :: r, f, e, h => by
    unfold findE at h
    split at h
    · rename_i q; subst q; cases h; exact List.mem_cons_self ..
    · exact List.mem_cons_of_mem _ (findE_mem h)
section
variable {R : Type} {P : Program} {G : Gl} {E : Env} {N : FS} {n : Nat}
def aggE (ks : Option (List CK)) (op : BinOp) (xs ys : List AV) (K : AV → Option R) : Option R :=
 match ks,znD xs,znD ys with
 |some ks,some us,some vs=>whenE (fitKs ks us && fitKs ks vs) (match op with
  |.eql=>K (V (.bool (zcu us vs)))
  |.neq=>K (V (.bool (!zcu us vs)))
  |_=>none)
 |_,_,_=>none
def isSlT (P : Program) (t : TypeId) : Bool := match P.underlying t with|some (.slice _)=>true|_=>false
theorem ztN {t : TypeId} (h : isSlT P t = true) : ∃ e,P.underlying t = some (.slice e) := by
 unfold isSlT at h
 split at h
 ·exact ⟨_,by assumption⟩
 ·cases h
def binE (ks : Option (List CK)) (isB sl : Bool) (op : BinOp) (x y : AV) (K : AV → Option R) : Option R :=
 match x,y with
 |.agg xs, .agg ys=>aggE ks op xs ys K
 |.held (.inl (.int k a)), .held (.inl (.int k' b))=>intE op k a k' b K
 |.held (.inl (.string a)), .held (.inl (.string b))=>strE op a b K
 |.held (.inl (.bool a)), .held (.inl (.bool b))=>whenE isB (match op with|.eql=>K (V (.bool (decide (a = b))))|.neq=>K (V (.bool (!decide (a = b))))|_=>none)
 |.slice (_ :: _) [], .held (.inl (.slice none 0 0))=>whenE sl (match op with|.eql=>K (V (.bool false))|.neq=>K (V (.bool true))|_=>none)
 |_,_=>none
theorem zp8 {t : TypeId} {ks : List CK} (h : cmpT P t = some ks) {us vs : List Value} (hu : fitKs ks us = true) (hv : fitKs ks vs = true) : eqAgg P t .eql us vs (zcu us vs) ∧ eqAgg P t .neq us vs (!zcu us vs) := by
 unfold cmpT at h
 split at h
 ·cases h
 rename_i hg
 have hg : P.eqGuardType P.depth t = false := by simpa using hg
 split at h <;> try (cases h;done)
 rename_i fs e
 have key : ∀ w : World,(Op.equalIn Op.maxDepth t (.agg us.toArray) (.agg vs.toArray)).run P w = .ok (zcu us vs) w := fun w =>
  zl2 20 Op.maxDepth t ks h (by decide) w us vs _ _ hu hv (by simp [valT,e]) (by simp [valT,e])
 constructor
 ·intro ox oy w
  simp only [Sem.run_bind,run_eqGuard_agg _ _ _ _ _ _ _ hg,Result.andThen_ok]
  simp only [binOp,Op.equal,Sem.run_bind,key,Result.andThen_ok]
  rfl
 ·intro ox oy w
  simp only [Sem.run_bind,run_eqGuard_agg _ _ _ _ _ _ _ hg,Result.andThen_ok]
  simp only [binOp,Op.equal,Sem.run_bind,key,Result.andThen_ok]
  rfl
theorem zva {t : TypeId} {op : BinOp} {x y : AV} {K : AV → Option R} {r : R} (h : binE (cmpT P t) (zjQ P t) (isSlT P t) op x y K = some r) : aBin P t op x y fun d=>K d = some r := by
 unfold binE at h
 unfold aBin
 split at h
 ·rename_i xs ys
  unfold aggE at h
  split at h
  ·rename_i ks us vs h1 h2 h3
   obtain ⟨h4,h5⟩ := z03 h
   rw [Bool.and_eq_true] at h4
   obtain ⟨e1,e2⟩ := zp8 h1 h4.1 h4.2
   split at h5
   ·exact ⟨us,vs,_,zeo h2,zeo h3,e1,h5⟩
   ·exact ⟨us,vs,_,zeo h2,zeo h3,e2,h5⟩
   ·cases h5
  ·cases h
 ·exact zvP h
 ·exact zwF h
 ·obtain ⟨h1,h2⟩ := z03 h
  refine ⟨zoP h1,?_⟩
  split at h2
  ·exact h2
  ·exact h2
  ·cases h2
 ·obtain ⟨h1,h2⟩ := z03 h
  refine ⟨ztN h1,?_⟩
  split at h2
  ·exact h2
  ·exact h2
  ·cases h2
 ·cases h
def znr (P : Program) (t : TypeId) : Bool := match P.underlying t with|some (.pointer _)=>true|_=>false
theorem zmL {t : TypeId} (h : znr P t = true) : P.underlying t = some (.pointer (P.pointee t)) := by
 unfold znr at h
 unfold Program.pointee
 split at h
 ·rename_i e;rw [e]
 ·cases h
def ptrE (op : BinOp) (x y : AV) (K : AV → Option R) : Option R :=
 match x,y with
 |.held (.inr (.inl _)), .held (.inl (.pointer none))=>(match op with|.eql=>K (V (.bool false))|.neq=>K (V (.bool true))|_=>none)
 |.held (.inl (.pointer none)), .held (.inl (.pointer none))=>(match op with|.eql=>K (V (.bool true))|.neq=>K (V (.bool false))|_=>none)
 |_,_=>none
theorem zvf {t : TypeId} (ht : znr P t = true) {op : BinOp} {x y : AV} {K : AV → Option R} {r : R} (h : ptrE op x y K = some r) : aBin P t op x y fun d=>K d = some r := by
 unfold ptrE at h
 unfold aBin
 split at h
 ·refine ⟨zmL ht,?_⟩
  split at h
  ·exact h
  ·exact h
  ·cases h
 ·refine ⟨zmL ht,?_⟩
  split at h
  ·exact h
  ·exact h
  ·cases h
 ·cases h
def binPE (p : Bool) (ks : Option (List CK)) (isB sl : Bool) (op : BinOp) (x y : AV) (K : AV → Option R) : Option R := match p with|true=>ptrE op x y K|false=>binE ks isB sl op x y K
theorem zsj {t : TypeId} {op : BinOp} {x y : AV} {K : AV → Option R} {r : R} (h : binPE (znr P t) (cmpT P t) (zjQ P t) (isSlT P t) op x y K = some r) : aBin P t op x y fun d=>K d = some r := by
 unfold binPE at h
 split at h
 ·rename_i ht;exact zvf ht h
 ·exact zva h
def tellE (m : RO) (args : List AV) (K : AV → Option R) : Option R := whenE (args.all (ltT 0)) (match m with|some (X,_)=>K X|none=>none)
def keepE (m : RO) (K : AV → List AObj → Option R) : Option R := match m with|some (X,H')=>K X H'|none=>none
def addE (m : RO) (H : List AObj) (K : AV → List AObj → Option R) : Option R := match m with|some (X,Y)=>K X (H ++ Y)|none=>none
def callE (e : Option Ent) (args : List AV) (H : List AObj) (K : AV → List AObj → Option R) : Option R :=
 match e with
 |some (.tell g)=>tellE (g args) args fun X=>K X H
 |some (.keep g)=>keepE (g args H) K
 |some (.add g)=>addE (g args H.length) H K
 |_=>none
theorem zkM (hE : EnvOk P G E) {f : FuncId} {args : List AV} {H : List AObj} {K : AV → List AObj → Option R} {r : R} (h : callE (findE E f) args H K = some r) : AC P G f args H fun d H'=>K d H' = some r := by
 unfold callE at h
 split at h
 ·rename_i g hg
  obtain ⟨h1,h2⟩ := z03 h
  split at h2
  ·rename_i X H' hx
   exact zpU (hE _ _ (findE_mem hg) _ _ _ hx) h1 h2
  ·cases h2
 ·rename_i g hg
  unfold keepE at h
  split at h
  ·rename_i X H' hx
   exact zkw (hE _ _ (findE_mem hg) _ _ _ _ hx) h
  ·cases h
 ·rename_i g hg
  unfold addE at h
  split at h
  ·rename_i X Y hx
   exact zkw (hE _ _ (findE_mem hg) _ _ _ _ hx) h
  ·cases h
 ·cases h
def zqt (e : Option Ent) (args : List AV) (K : AV → Option R) : Option R :=
 match e with
 |some (.tell g)=>tellE (g args) args K
 |_=>none
theorem zqB (hE : EnvOk P G E) {f : FuncId} {args : List AV} {K : AV → Option R} {r : R} (h : zqt (findE E f) args K = some r) : callD P G f args fun d=>K d = some r := by
 unfold zqt at h
 split at h
 ·rename_i g hg
  obtain ⟨h1,h2⟩ := z03 h
  split at h2
  ·rename_i X H' hx
   exact ⟨X,hE _ _ (findE_mem hg) _ _ _ hx,h1,h2⟩
  ·cases h2
 ·cases h
def zec (E : Env) (x : AV) (args : List AV) (H : List AObj) (K : AV → List AObj → Option R) : Option R :=
 match x with
 |.slice caps [.held (.inl (.func (.func f) _ _)), .held (.inr (.inl (k,_)))]=>callE (findE E f) ((caps.take k ++ args ++ caps.drop k).map (ro H)) H K
 |.held (.inl (.func (.func f) ⟨[]⟩ ⟨[]⟩))=>callE (findE E f) (args.map (ro H)) H K
 |_=>none
theorem zpB (hE : EnvOk P G E) {x : AV} {args : List AV} {H : List AObj} {K : AV → List AObj → Option R} {r : R} (h : zec E x args H K = some r) : zlF P G x args H fun d H'=>K d H' = some r := by
 unfold zec at h
 unfold zlF
 split at h
 ·exact zkM hE h
 ·exact zkM hE h
 ·cases h
def mmE (mx : Bool) (x y : AV) (K : AV → Option R) : Option R := match x,y with
 |.held (.inl (.int k a)), .held (.inl (.int k' b))=>whenE (decide (k = k')) (K (V (.int k (if mx = true then (if b > a then b else a) else (if b < a then b else a)))))
 |_,_=>none
theorem zu6 {mx : Bool} {x y : AV} {K : AV → Option R} {r : R} (h : mmE mx x y K = some r) : aMM mx x y fun d=>K d = some r := by
 unfold mmE at h
 unfold aMM
 split at h
 ·obtain ⟨h1,h2⟩ := z03 h
  exact ⟨of_decide_eq_true h1,h2⟩
 ·cases h
noncomputable def lookE (P : Program) (t : TypeId) (H : List AObj) (m x : AV) (ok : Bool) (K : AV → Option R) : Option R :=
 @dite _ (∃ d,LookP P t H m x ok d) (Classical.propDecidable _) (fun h=>K h.choose) (fun _=>none)
theorem ztu {t : TypeId} {H : List AObj} {m x : AV} {ok : Bool} {K : AV → Option R} {r : R} (h : lookE P t H m x ok K = some r) : aLook P t H m x ok fun d=>K d = some r := by
 unfold lookE at h
 split at h
 ·rename_i hh;exact ⟨_,hh.choose_spec,h⟩
 ·cases h
theorem zrf {t : TypeId} {H : List AObj} {m x d : AV} {ok : Bool} {K : AV → Option R} (h : LookP P t H m x ok d) : lookE P t H m x ok K = K d := by
 have hh : ∃ d,LookP P t H m x ok d := ⟨d,h⟩
 unfold lookE
 rw [dif_pos hh,hh.choose_spec.det h]
noncomputable def putME (P : Program) (t : TypeId) (H : List AObj) (m x y : AV) (K : List AObj → Option R) : Option R :=
 @dite _ (∃ H',PutP P t H m x y H') (Classical.propDecidable _) (fun h=>K h.choose) (fun _=>none)
theorem zoj {t : TypeId} {H : List AObj} {m x y : AV} {K : List AObj → Option R} {r : R} (h : putME P t H m x y K = some r) : aPut P t H m x y fun d=>K d = some r := by
 unfold putME at h
 split at h
 ·rename_i hh;exact ⟨_,hh.choose_spec,h⟩
 ·cases h
theorem zqR {t : TypeId} {H H' : List AObj} {m x y : AV} {K : List AObj → Option R} (h : PutP P t H m x y H') : putME P t H m x y K = K H' := by
 have hh : ∃ d,PutP P t H m x y d := ⟨H',h⟩
 unfold putME
 rw [dif_pos hh,hh.choose_spec.det h]
def mapT (P : Program) (t : TypeId) : Option (TypeId × TypeId) := match P.underlying t with|some (.map k e)=>some (k,e)|_=>none
def makeE (kt : Option (TypeId × TypeId)) (H : List AObj) (K : AV → List AObj → Option R) : Option R := match kt with|some (k,e)=>K (MP H.length) (H ++ [⟨5,k,e,[]⟩])|none=>none
theorem zsy {t : TypeId} {H : List AObj} {K : AV → List AObj → Option R} {r : R} (h : makeE (mapT P t) H K = some r) : aMake P t H fun d H'=>K d H' = some r := by
 unfold makeE mapT at h
 unfold aMake
 split at h
 ·rename_i k e hk
  split at hk
  ·rename_i k' e' hu;rw [hu];cases hk;exact h
  ·cases hk
 ·cases h
noncomputable def stepE (P : Program) (G : Gl) (E : Env) (o : Oper) (s : ASt) (K : AV → List AObj → Option R) : Option R :=
 match o.op with
 |.move x=>K (ev G s.T x) s.H
 |.assign x=>K (ev G s.T x) s.H
 |.pick c x y=>pickE (ev G s.T c) (ev G s.T x) (ev G s.T y) fun r=>K r s.H
 |.binOp op t x y _=>binPE (znr P t) (cmpT P t) (zjQ P t) (isSlT P t) op (ev G s.T x) (ev G s.T y) fun r=>K r s.H
 |.unOp op _ x=>unE op (ev G s.T x) fun r=>K r s.H
 |.alloc t=>z4P (zeroC P t) t s.H K
 |.box t x=>boxE t s.H (ev G s.T x) K
 |.build t ps=>z49 (zlK P t) (zeroC P t) (ps.toList.map fun p=>(p.1,ev G s.T p.2)) fun r=>K r s.H
 |.buildSlice t n ps=>z1a (appT P t) n (ps.toList.map fun p=>(p.1,ev G s.T p.2)) fun r=>K r s.H
 |.load t x=>loadE (kindT P t) s.H (ev G s.T x) fun r=>K r s.H
 |.store t x y=>z1e (kindT P t) s.H (ev G s.T x) (ev G s.T y) fun H'=>K .nil H'
 |.nilCheck x=>nilE (ev G s.T x) fun r=>K r s.H
 |.convert src dst x=>convE (z9n P src && z9n P dst) (intT P dst) (P.underlying src).isSome (bytT P src && z9n P dst) (z9n P src && bytT P dst) (ro s.H (ev G s.T x)) fun r=>K r s.H
 |.extract x i=>extE (ev G s.T x) i fun r=>K r s.H
 |.fieldAddr t x f=>z02 (zjt P t f) (ev G s.T x) fun r=>K r s.H
 |.field t x f=>zlc (zjt P t f) (ev G s.T x) fun r=>K r s.H
 |.indexAddr t x y=>idxAE (zdj P t) (zhN P t) s.H (ev G s.T x) (ev G s.T y) fun r=>K r s.H
 |.index t x y=>idxVE (z9n P t) (zhN P t) (ev G s.T x) (ev G s.T y) fun r=>K r s.H
 |.slice t x lo hi none=>zgo (z9n P t) (zdj P t) s.H (ev G s.T x) (lo.map (ev G s.T)) (hi.map (ev G s.T)) fun r=>K r s.H
 |.call { callee := .value (.func f),args := args,argTypes := _ }=>callE (findE E f) (roF f s.H (args.toList.map (ev G s.T))) s.H K
 |.makeFunc fn first caps=>whenE (((first.toList ++ caps.toList).map (ev G s.T)).all cap0) (K (CL fn first.toList.length ((first.toList ++ caps.toList).map (ev G s.T))) s.H)
 |.call { callee := .value (.tmp t),args := args,argTypes := _ }=>zec E (get s.T t) (args.toList.map (ev G s.T)) s.H K
 |.call { callee := .builtin .len,args := ⟨[x]⟩,argTypes := ⟨[t]⟩ }=>lenE (z9n P t) (zdj P t).isSome s.H (ev G s.T x) fun r=>K r s.H
 |.call { callee := .builtin .append,args := ⟨[x,y]⟩,argTypes := ⟨[t,t']⟩ }=>appQE (decide (t' = t)) (z9n P t') (appT P t) s.H (ev G s.T x) (ev G s.T y) K
 |.call { callee := .builtin .max,args := ⟨[x,y]⟩,argTypes := _ }=>mmE true (ev G s.T x) (ev G s.T y) fun r=>K r s.H
 |.call { callee := .builtin .min,args := ⟨[x,y]⟩,argTypes := _ }=>mmE false (ev G s.T x) (ev G s.T y) fun r=>K r s.H
 |.lookup t x y ok=>lookE P t s.H (ev G s.T x) (ev G s.T y) ok fun r=>K r s.H
 |.mapUpdate t x y z=>putME P t s.H (ev G s.T x) (ev G s.T y) (ev G s.T z) fun H'=>K .nil H'
 |.makeMap t none=>makeE (mapT P t) s.H K
 |_=>none
theorem zgJ (hE : EnvOk P G E) {o : Oper} {s : ASt} {K : AV → List AObj → Option R} {r : R} (h : stepE P G E o s K = some r) : z0w P G o s fun d H'=>K d H' = some r := by
 obtain ⟨dst,op,ty,pos,af,gd⟩ := o
 unfold stepE at h
 unfold z0w
 dsimp only at h ⊢
 split at h
 ·exact h
 ·exact h
 ·exact zs8 h
 ·exact zsj h
 ·exact zye h
 ·rename_i t
  unfold z4P at h
  dsimp only
  split at h
  ·rename_i hc;rw [hc];exact h
  ·cases h
 ·exact z03 h
 ·exact zpx h
 ·exact znU h
 ·exact zje h
 ·exact znc h
 ·exact zwz h
 ·exact zsR h
 ·exact zwS h
 ·exact zpD h
 ·exact zpw h
 ·exact zsV h
 ·exact zsx h
 ·exact zpV h
 ·exact zkM hE h
 ·exact z03 h
 ·exact zpB hE h
 ·exact lenE_ok h
 ·rename_i t t'
  show (if t' = t then _ else _)
  by_cases e : t' = t
  ·rw [if_pos e]
   rw [decide_eq_true e] at h
   exact zrN h
  ·rw [if_neg e]
   rw [decide_eq_false e] at h
   obtain ⟨h1,h2⟩ := z03 (show whenE _ _ = _ from h)
   exact ⟨zaX h1,zse h2⟩
 ·exact zu6 h
 ·exact zu6 h
 ·exact ztu h
 ·exact zoj h
 ·exact zsy h
 ·cases h
end
end Go.Proofs.Ytaaogcnjfkgnoaa

namespace Go.Proofs.Ytaaogcnjfkgnoaa
open Go.RowKit
section
variable {R : Type} {P : Program} {G : Gl} {E : Env} {N : FS} {n : Nat} {o : Oper} {H : List AObj} {T T' : Tm}
def TEq (T T' : Tm) : Prop := ∀ i,get T i = get T' i
theorem TEq.refl (T : Tm) : TEq T T := fun _=>rfl
theorem TEq.set (h : TEq T T') (H H' : List AObj) (K : List AObj) (d : Option Tmp) (v : AV) : TEq (ASt.set ⟨H,T⟩ K d v).T (ASt.set ⟨H',T'⟩ K d v).T := by
 cases d with
 |none=>exact h
 |some d =>
  intro i
  show get ((d,v) :: T) i = get ((d,v) :: T') i
  simp only [_root_.Go.Proofs.Ytaaogcnjfkgnoaa.get]
  split
  ·rfl
  ·exact h i
theorem TEq.lit (h : TEq T T') {t : Nat} {v : AV} (hv : get T t = v) : TEq T ((t,v) :: T') := by
 intro i
 simp only [_root_.Go.Proofs.Ytaaogcnjfkgnoaa.get]
 split
 ·rename_i e;subst e;exact hv
 ·exact h i
theorem zc1 (h : TEq T T') {K : AV → List AObj → Prop} (hs : z0w P G o ⟨H,T'⟩ K) : z0w P G o ⟨H,T⟩ K := by
 have hg : get T = get T' := funext h
 have he : ev G T = ev G T' := by
  funext x
  cases x <;> simp only [ev,hg]
 unfold z0w at hs ⊢
 dsimp only at hs ⊢
 rw [he,hg]
 exact hs
theorem zqd (h : TEq T T') {K : AV → Prop} (hs : stepD P G o ⟨H,T'⟩ K) : stepD P G o ⟨H,T⟩ K :=
 zk7 (fun t _=>(h t).symm) hs
theorem AWp.text {c : Code} {Q : Exit → ASt → Prop} (h : TEq T T') (k : AWp P G N n c Q ⟨H,T'⟩) : AWp P G N n c Q ⟨H,T⟩ := by
 intro w S μ a hr hf hg
 exact k w S μ a hr ⟨hf.size,hf.nodef,fun i=>by rw [← h i];exact hf.slot i⟩ hg
theorem AWp.forget {c : Code} {Q : Exit → ASt → Prop} (h : ∀ i,get T' i = get T i ∨ get T' i = .nil) (k : AWp P G N n c Q ⟨H,T'⟩) : AWp P G N n c Q ⟨H,T⟩ := by
 intro w S μ a hr hf hg
 refine k w S μ a hr ⟨hf.size,hf.nodef,fun i=>?_⟩ hg
 rcases h i with e|e
 ·rw [e];exact hf.slot i
 ·rw [e];exact zlJ _ _ _
theorem AWp.len {c : Code} {Q : Exit → ASt → Prop} {s : ASt} (h : AWp P G N n c Q s) (hn : n ≤ s.H.length) : AWp P G N n c (fun e s'=>Q e s' ∧ n ≤ s'.H.length) s := by
 intro w S μ a hr hf hg
 refine wp_mono (h w S μ a hr hf hg) ?_
 rintro e a' w' ⟨s',S',μ',hq,hr',hf',hst⟩
 refine ⟨s',S',μ',⟨hq,?_⟩,hr',hf',hst⟩
 rw [← hr'.len]
 cases n with
 |zero=>exact Nat.zero_le _
 |succ m =>
  have hm : m < μ.length := by rw [hr.len];omega
  obtain ⟨x',hx',_⟩ := hst.objs m _ (Nat.lt_succ_self m) (List.getElem?_eq_getElem hm)
  exact (List.getElem?_eq_some_iff.1 hx').1
noncomputable def condE (x : AV) (A B : Option R) : Option R := boolC x A B
noncomputable def stepX (P : Program) (G : Gl) (E : Env) (D : Bool) (o : Oper) (s : ASt) (K : AV → List AObj → Option R) : Option R :=
 match D with
 |false=>stepE P G E o s K
 |true=>match o.op with
  |.call { callee := .value (.func f),args := args,argTypes := _ }=>zqt (findE E f) ((args.toList.map (ev G s.T)).map (ro s.H)) fun r=>K r s.H
  |_=>stepE P G E o s K
def skO (sk : List Nat) : Option Tmp → List Nat|some d=>sk.filter fun i=>i != d|none=>sk
def skN (sk : List Nat) : Option Tmp → List Nat|some d=>d :: sk|none=>sk
noncomputable def runE (P : Program) (G : Gl) (E : Env) (D : Bool) (ops : List Oper) : List Nat → List Oper → ASt → (ASt → Option R) → Option R
  | _, [], s, K => K s
  | sk, o :: r, s, K => match o.guard with
    | none => stepX P G E D o s fun d H => runE P G E D ops (skO sk o.dst) r (s.set H o.dst d) K
    | some (j, want) => match dstAt ops j with
      | some t => match sk.contains t with
        | true => runE P G E D ops (skN sk o.dst) r (s.set s.H o.dst UD) K
        | false => condE (get s.T t)
          (match want with
            | true => stepX P G E D o ⟨s.H, (t, V (.bool true)) :: s.T⟩ fun d H => runE P G E D ops (skO sk o.dst) r (ASt.set ⟨s.H, (t, V (.bool true)) :: s.T⟩ H o.dst d) K
            | false => runE P G E D ops (skN sk o.dst) r (ASt.set ⟨s.H, (t, V (.bool true)) :: s.T⟩ s.H o.dst UD) K)
          (match want with
            | false => stepX P G E D o ⟨s.H, (t, V (.bool false)) :: s.T⟩ fun d H => runE P G E D ops (skO sk o.dst) r (ASt.set ⟨s.H, (t, V (.bool false)) :: s.T⟩ H o.dst d) K
            | true => runE P G E D ops (skN sk o.dst) r (ASt.set ⟨s.H, (t, V (.bool false)) :: s.T⟩ s.H o.dst UD) K)
      | none => none
noncomputable def stepA (P : Program) (G : Gl) (E : Env) (o : Oper) (s : ASt) (K : AV → List AObj → Option R) : Option R :=
 match o.op with
 |.alloc t=>(match zeroC P t with|some c=>K (OP s.H.length 0) [⟨1,t,0,c⟩]|none=>none)
 |.call { callee := .value (.func f),args := args,argTypes := _ }=>(match findE E f with
  |some (.add g)=>(match g (roF f s.H (args.toList.map (ev G s.T))) s.H.length with|some (X,Y)=>K X Y|none=>none)
  |_=>none)
 |_=>none
noncomputable def eqE (d d' : AV) (K : Option R) : Option R := by
 classical exact if d' = d then K else none
theorem zs2 {d : AV} {K : Option R} : eqE d d K = K := by
 unfold eqE
 exact if_pos rfl
theorem zod {d d' : AV} {K : Option R} {r : R} (h : eqE d d' K = some r) : d' = d ∧ K = some r := by
 unfold eqE at h
 split at h
 ·rename_i e;exact ⟨e,h⟩
 ·cases h
noncomputable def oldE (n k : Nat) (a d : AV) : List (Nat × List AObj) → Option R → Option R
 |[],K=>K
 |p :: r,K=>match Nat.ble n p.1 with|true=>loadE k p.2 a fun d'=>eqE d d' (oldE n k a d r K)|false=>oldE n k a d r K
noncomputable def opnE (H : List AObj) : List OpI → Option R → Option R
 |[],K=>K
 |x :: r,K=>loadE x.2.1 H x.2.2.1 fun d'=>eqE x.2.2.2 d' (opnE H r K)
theorem oldE_some {n k : Nat} {a d : AV} {K : Option R} {r : R} : ∀ {l : List (Nat × List AObj)}, oldE n k a d l K = some r → (∀ p ∈ l, n ≤ p.1 → openF p.2 (k, a, d)) ∧ K = some r
  | [], h => ⟨fun H q => (by cases q), h⟩
  | (q, H) :: l, h => by
    unfold oldE at h
    cases hb : Nat.ble n q with
    | true =>
      rw [show Nat.ble n (q, H).1 = true from hb] at h
      have h1 := zje      h
      obtain ⟨d', h2, h3⟩ := zc9       h1
      obtain ⟨rfl, h4⟩ := zod      h3
      obtain ⟨h5, h6⟩ := oldE_some h4
      refine ⟨fun p hp _ => ?_, h6⟩
      rcases List.mem_cons.1 hp with rfl | hp
      · exact h2
      · exact h5 p hp (by assumption)
    | false =>
      rw [show Nat.ble n (q, H).1 = false from hb] at h
      obtain ⟨h5, h6⟩ := oldE_some h
      refine ⟨fun p hp hle => ?_, h6⟩
      rcases List.mem_cons.1 hp with rfl | hp
      · rw [Nat.ble_eq_true_of_le hle] at hb; cases hb
      · exact h5 p hp hle
theorem zkz {H : List AObj} {K : Option R} {r : R} : ∀ {l : List OpI},opnE H l K = some r → (∀ x ∈ l,openF H x.2) ∧ K = some r
 |[],h=>⟨fun H q=>(by cases q),h⟩
 |x :: l,h=>by
  unfold opnE at h
  have h1 := zje h
  obtain ⟨d',h2,h3⟩ := zc9 h1
  obtain ⟨e,h4⟩ := zod h3
  obtain ⟨h5,h6⟩ := zkz h4
  refine ⟨fun y q=>?_,h6⟩
  rcases List.mem_cons.1 q with rfl|q
  ·rw [e] at h2;exact h2
  ·exact h5 y q
noncomputable def runD (P : Program) (G : Gl) (E : Env) (ops : List Oper) : List Nat → List (List AObj) → List (Nat × List AObj) → List OpI → List Oper → ASt → (ASt → Option R) → Option R
  | _, _, _, _, [], s, K => K s
  | sk, acc, old, opn, o :: r, s, K => match clsO (kcE E) o.op with
    | 0 => (match o.guard with
      | none => (match openA (freeI (kcE E) ops (ancs ops []) acc.length) o with
        | some (t2, x) => loadE (kindT P t2) s.H (ev G s.T x) fun d => oldE (loI (kcE E) ops (ancs ops []) acc.length) (kindT P t2) (ev G s.T x) d old (runD P G E ops (skO sk o.dst) (acc ++ [s.H]) old ((acc.length, kindT P t2, ev G s.T x, d) :: opn) r (s.set s.H o.dst d) K)
        | none => stepX P G E true o ⟨lowH (kcE E) ops (ancs ops []) (acc ++ [s.H]) acc.length, s.T⟩ fun d _ => runD P G E ops (skO sk o.dst) (acc ++ [s.H]) old opn r (s.set s.H o.dst d) K)
      | some (j, want) => match dstAt ops j with
        | some t => match sk.contains t with
          | true => runD P G E ops (skN sk o.dst) (acc ++ [s.H]) old opn r (s.set s.H o.dst UD) K
          | false => condE (get s.T t)
              (match want with
                | true => (match openA (freeI (kcE E) ops (ancs ops []) acc.length) o with
        | some (t2, x) => loadE (kindT P t2) s.H (ev G ((t, V (.bool true)) :: s.T) x) fun d => oldE (loI (kcE E) ops (ancs ops []) acc.length) (kindT P t2) (ev G ((t, V (.bool true)) :: s.T) x) d old (runD P G E ops (skO sk o.dst) (acc ++ [s.H]) old ((acc.length, kindT P t2, ev G ((t, V (.bool true)) :: s.T) x, d) :: opn) r (ASt.set ⟨s.H, (t, V (.bool true)) :: s.T⟩ s.H o.dst d) K)
        | none => stepX P G E true o ⟨lowH (kcE E) ops (ancs ops []) (acc ++ [s.H]) acc.length, ((t, V (.bool true)) :: s.T)⟩ fun d _ => runD P G E ops (skO sk o.dst) (acc ++ [s.H]) old opn r (ASt.set ⟨s.H, (t, V (.bool true)) :: s.T⟩ s.H o.dst d) K)
                | false => runD P G E ops (skN sk o.dst) (acc ++ [s.H]) old opn r (ASt.set ⟨s.H, (t, V (.bool true)) :: s.T⟩ s.H o.dst UD) K)
              (match want with
                | false => (match openA (freeI (kcE E) ops (ancs ops []) acc.length) o with
        | some (t2, x) => loadE (kindT P t2) s.H (ev G ((t, V (.bool false)) :: s.T) x) fun d => oldE (loI (kcE E) ops (ancs ops []) acc.length) (kindT P t2) (ev G ((t, V (.bool false)) :: s.T) x) d old (runD P G E ops (skO sk o.dst) (acc ++ [s.H]) old ((acc.length, kindT P t2, ev G ((t, V (.bool false)) :: s.T) x, d) :: opn) r (ASt.set ⟨s.H, (t, V (.bool false)) :: s.T⟩ s.H o.dst d) K)
        | none => stepX P G E true o ⟨lowH (kcE E) ops (ancs ops []) (acc ++ [s.H]) acc.length, ((t, V (.bool false)) :: s.T)⟩ fun d _ => runD P G E ops (skO sk o.dst) (acc ++ [s.H]) old opn r (ASt.set ⟨s.H, (t, V (.bool false)) :: s.T⟩ s.H o.dst d) K)
                | true => runD P G E ops (skN sk o.dst) (acc ++ [s.H]) old opn r (ASt.set ⟨s.H, (t, V (.bool false)) :: s.T⟩ s.H o.dst UD) K)
        | none => none)
    | 1 => (match o.guard with | none => stepA P G E o s fun d Y => opnE (s.H ++ Y) (liveO (ancs ops []) acc.length opn) (runD P G E ops (skO sk o.dst) (acc ++ [s.H]) ((acc.length, s.H) :: old) (liveO (ancs ops []) acc.length opn) r (s.set (s.H ++ Y) o.dst d) K) | some _ => none)
    | _ => (match o.guard with
      | none => stepE P G E o s fun d H' => opnE H' (liveO (ancs ops []) acc.length opn) (runD P G E ops (skO sk o.dst) (acc ++ [s.H]) ((acc.length, s.H) :: old) (liveO (ancs ops []) acc.length opn) r (s.set H' o.dst d) K)
      | some (j, want) => match dstAt ops j with
        | some t => match sk.contains t with
          | true => runD P G E ops (skN sk o.dst) (acc ++ [s.H]) old opn r (s.set s.H o.dst UD) K
          | false => condE (get s.T t)
              (match want with
                | true => stepE P G E o ⟨s.H, (t, V (.bool true)) :: s.T⟩ fun d H' => opnE H' (liveO (ancs ops []) acc.length opn) (runD P G E ops (skO sk o.dst) (acc ++ [s.H]) ((acc.length, s.H) :: old) (liveO (ancs ops []) acc.length opn) r (ASt.set ⟨s.H, (t, V (.bool true)) :: s.T⟩ H' o.dst d) K)
                | false => runD P G E ops (skN sk o.dst) (acc ++ [s.H]) old opn r (ASt.set ⟨s.H, (t, V (.bool true)) :: s.T⟩ s.H o.dst UD) K)
              (match want with
                | false => stepE P G E o ⟨s.H, (t, V (.bool false)) :: s.T⟩ fun d H' => opnE H' (liveO (ancs ops []) acc.length opn) (runD P G E ops (skO sk o.dst) (acc ++ [s.H]) ((acc.length, s.H) :: old) (liveO (ancs ops []) acc.length opn) r (ASt.set ⟨s.H, (t, V (.bool false)) :: s.T⟩ H' o.dst d) K)
                | true => runD P G E ops (skN sk o.dst) (acc ++ [s.H]) old opn r (ASt.set ⟨s.H, (t, V (.bool false)) :: s.T⟩ s.H o.dst UD) K)
        | none => none)
theorem zdS {x : AV} {A B : Option R} {r : R} (h : condE x A B = some r) : (x = V (.bool true) ∧ A = some r) ∨ (x = V (.bool false) ∧ B = some r) := zlk h
def Aft (K : ASt → Option R) (r : R) (s1 : ASt) : Prop := ∃ T2,TEq s1.T T2 ∧ K ⟨s1.H,T2⟩ = some r
def SkOk (sk : List Nat) (T : Tm) : Prop := ∀ t ∈ sk,get T t = UD
theorem SkOk.nil {T : Tm} : SkOk [] T := fun t h=>by cases h
theorem SkOk.out {sk : List Nat} {T : Tm} (h : SkOk sk T) (H H' : List AObj) (dst : Option Tmp) (v : AV) : SkOk (skO sk dst) (ASt.set ⟨H,T⟩ H' dst v).T := by
 intro t ht
 cases dst with
 |none=>exact h t ht
 |some d =>
  simp only [skO,List.mem_filter,bne_iff_ne] at ht
  exact (za2 T d t v ht.2).trans (h t ht.1)
theorem SkOk.skip {sk : List Nat} {T : Tm} (h : SkOk sk T) (H H' : List AObj) (dst : Option Tmp) : SkOk (skN sk dst) (ASt.set ⟨H,T⟩ H' dst UD).T := by
 intro t ht
 cases dst with
 |none=>exact h t ht
 |some d =>
  by_cases e : t = d
  ·subst e;exact ze3 T t UD
  ·simp only [skN,List.mem_cons,e,false_or] at ht
   exact (za2 T d t UD e).trans (h t ht)
theorem zfD (hE : EnvOk P G E) {ops : List Oper} {K : ASt → Option R} {r : R} : ∀ {l : List Oper} {sk : List Nat} {H : List AObj} {T T' : Tm},TEq T T' → SkOk sk T → runE P G E false ops sk l ⟨H,T'⟩ K = some r → zbu P G ops l ⟨H,T⟩ (Aft K r)
 |[],sk,H,T,T',ht,hk,h=>⟨T',ht,h⟩
 |o :: l,sk,H,T,T',ht,hk,h=>by
  unfold runE at h
  unfold zbu
  split at h
  ·rename_i hg
   simp only [hg]
   refine zc1 ht ?_
   refine z6k (fun d H' q=>?_) (zgJ (o := o) (s := ⟨H,T'⟩) (K := fun d H'=>runE P G E false ops (skO sk o.dst) l (ASt.set ⟨H,T'⟩ H' o.dst d) K) hE h)
   exact zfD hE (ht.set H H H' o.dst d) (hk.out H H' o.dst d) q
  ·rename_i j want hg
   simp only [hg]
   split at h
   rotate_left
   ·cases h
   rename_i t hd
   simp only [hd]
   split at h
   ·rename_i hc
    rw [show get (⟨H,T⟩ : ASt).T t = UD from hk t (by simpa using hc)]
    exact zfD hE (ht.set H H H o.dst UD) (hk.skip H H o.dst) h
   rcases zdS h with ⟨h1,h2⟩|⟨h1,h2⟩
   ·rw [show get (⟨H,T⟩ : ASt).T t = V (.bool true) from (ht t).trans h1]
    cases want with
    |true =>
     refine ⟨fun _=>?_,fun q=>by cases q⟩
     have hl := ht.lit ((ht t).trans h1)
     refine zc1 hl ?_
     refine z6k (fun d H' q=>?_) (zgJ (o := o) (s := ⟨H,(t,V (.bool true)) :: T'⟩) (K := fun d H'=>runE P G E false ops (skO sk o.dst) l (ASt.set ⟨H,(t,V (.bool true)) :: T'⟩ H' o.dst d) K) hE h2)
     exact zfD hE (hl.set H H H' o.dst d) (hk.out H H' o.dst d) q
    |false =>
     refine ⟨fun q=>(by cases q),fun _=>?_⟩
     exact zfD hE ((ht.lit ((ht t).trans h1)).set H H H o.dst UD) (hk.skip H H o.dst) h2
   ·rw [show get (⟨H,T⟩ : ASt).T t = V (.bool false) from (ht t).trans h1]
    cases want with
    |false =>
     refine ⟨fun _=>?_,fun q=>by cases q⟩
     have hl := ht.lit ((ht t).trans h1)
     refine zc1 hl ?_
     refine z6k (fun d H' q=>?_) (zgJ (o := o) (s := ⟨H,(t,V (.bool false)) :: T'⟩) (K := fun d H'=>runE P G E false ops (skO sk o.dst) l (ASt.set ⟨H,(t,V (.bool false)) :: T'⟩ H' o.dst d) K) hE h2)
     exact zfD hE (hl.set H H H' o.dst d) (hk.out H H' o.dst d) q
    |true =>
     refine ⟨fun q=>(by cases q),fun _=>?_⟩
     exact zfD hE ((ht.lit ((ht t).trans h1)).set H H H o.dst UD) (hk.skip H H o.dst) h2
end
end Go.Proofs.Ytaaogcnjfkgnoaa

