/-
  Texts laid together, part 4 of 7: laws of a walk over data, contracts of functions, each whole by itself.
-/
import Derived.Test.YtaplemeamcgpkaaDoorMgc
import Derived.Test.YtaplemeamcgpkaaDoorRows
import Derived.Test.YtaplemeamcgpkaaDoorMga
import Derived.Deep.DeepCutAuto
import Derived.Deep.CutBlock
import Derived.BigGuardPart
import Derived.Test.YtaplemeamcgpkaaDoorMgb
import Derived.Outline
import Derived.IntWalk
import Derived.Deep.RegionHeld3
import Derived.Deep.Onto
import Derived.Deep.DrawnRows
import Derived.Test.YtaplemeamcgpkaaDoorProg
import Derived.KernelRfl
import Derived.Lib.ItoaNum
set_option maxRecDepth 100000
noncomputable section
set_option linter.unusedVariables false
set_option linter.unusedSimpArgs false
namespace Go.Proofs.YtaplemeamcgpkaaDoor
open Go.RowKit
section
variable {R : Type} {P : Program} {G : Gl} {E : Env} {M n : Nat} {N : FS}
abbrev zr4 (b : Bool) (x : Option R) : Option R := Bool.rec (motive := fun _=>Option R) none x b
theorem zgt (b : Bool) (x : Option R) : zr4 b x = z0q b x := by cases b <;> rfl
abbrev zDJ {α : Type} (b : Bool) (x y : α) : α := Bool.rec (motive := fun _=>α) y x b
abbrev zFU {α : Type} (l : List α) (n : Nat) : Option α := List.rec (motive := fun _=>Nat → Option α) (fun _=>none) (fun a _ ih n=>Nat.rec (motive := fun _=>Option α) (some a) (fun m _=>ih m) n) l n
theorem zq2 {α : Type} : ∀ (l : List α) (n : Nat),zFU l n = l[n]?
 |[],n=>rfl
 |a :: r,0=>rfl
 |a :: r,n + 1=>(zq2 r n : zFU r n = r[n]?)
abbrev zcO (T : Tm) (i : Nat) : AV := List.rec (motive := fun _=>AV) .nil (fun p _ ih=>zDJ (Nat.beq p.1 i) p.2 ih) T
theorem slotK_eq : ∀ (T : Tm) (i : Nat), zcO   T i = get T i
  | [], i => rfl
  | (j, d) :: r, i => by
    have := slotK_eq r i
    show zDJ  (Nat.beq j i) d (zcO   r i) = if j = i then d else get r i
    by_cases e : j = i
    · rw [if_pos e, Nat.beq_eq.mpr e]
    · rw [if_neg e]
      cases hb : Nat.beq j i with
      | false => exact this
      | true => exact absurd (Nat.eq_of_beq_eq_true hb) e
abbrev evK (G : Gl) (T : Tm) (x : Operand) : AV := Operand.rec (motive := fun _=>AV) (fun t=>zcO T t) (fun v=>cv v) (fun g=>zEA G g) (fun f=>V (.func (.func f) #[] #[])) x
theorem z4e (G : Gl) (T : Tm) (x : Operand) : evK G T x = ev G T x := by
 cases x with
 |tmp t=>exact slotK_eq T t
 |const v=>rfl
 |global g=>rfl
 |func f=>rfl
abbrev zDo {α β : Type} (f : α → β) (l : List α) : List β := List.rec (motive := fun _=>List β) [] (fun a _ ih=>f a :: ih) l
theorem z5Z {α β : Type} (f : α → β) : ∀ (l : List α),zDo f l = l.map f
 |[]=>rfl
 |a :: r=>by
  have := z5Z f r
  show f a :: zDo f r = f a :: r.map f
  rw [this]
abbrev zpc (E : Env) (f : FuncId) : Option Ent := List.rec (motive := fun _=>Option Ent) none (fun p _ ih=>zDJ (Nat.beq f p.1) (some p.2) ih) E
theorem findK_eq : ∀ (E : Env) (f : FuncId), zpc   E f = zbU   E f
  | [], f => rfl
  | (g, e) :: r, f => by
    have := findK_eq r f
    show zDJ  (Nat.beq f g) (some e) (zpc   r f) = if f = g then some e else zbU   r f
    by_cases q : f = g
    · rw [if_pos q, Nat.beq_eq.mpr q]
    · rw [if_neg q]
      cases hb : Nat.beq f g with
      | false => exact this
      | true => exact absurd (Nat.eq_of_beq_eq_true hb) q
abbrev unK (op : UnOp) (x : AV) (K : AV → Option R) : Option R :=
 UnOp.rec (motive := fun _=>Option R) (unE .neg x K) (unE .xor x K) (zr2 x fun b=>K (V (.bool (!b)))) (unE .plus x K) op
theorem zyA (op : UnOp) (x : AV) (K : AV → Option R) : unK op x K = unE op x K := by cases op <;> rfl
abbrev zzp (E : Env) (x : AV) (args : List AV) (H : List AObj) (K : AV → List AObj → Option R) : Option R :=
 match x with
 |.slice caps [.held (.inl (.func (.func f) _ _)), .held (.inr (.inl (k,_)))]=>zfS (zbU E f) ((caps.take k ++ args ++ caps.drop k).map (ro H)) H K
 |.held (.inl (.func (.func f) ⟨[]⟩ ⟨[]⟩))=>zfS (zbU E f) (args.map (ro H)) H K
 |_=>none
abbrev zCd (st : Option (TypeId × Nat)) (at_ : Option (Nat × Nat)) (H : List AObj) (x ix : AV) (K : AV → Option R) : Option R :=
 match st with
 |some (_,ek)=>zcV ek H x ix K
 |none=>match at_ with
  |some (n,ek)=>zbF n ek x ix K
  |none=>none
abbrev zAD (e : Option Ent) (args : List AV) (H : List AObj) (K : AV → List AObj → Option R) : Option R :=
 match e with
 |some (.tell g)=>z3o (g args) args fun X=>K X H
 |some (.keep g)=>zaG (g args H) K
 |some (.add g)=>zDu (g args H.length) H K
 |_=>none
abbrev zvc (e : Option Ent) (args : List AV) (K : AV → Option R) : Option R :=
 match e with
 |some (.tell g)=>z3o (g args) args K
 |_=>none
abbrev zCS (_ : FuncId) (H : List AObj) (l : List AV) : List AV := zDo (ro H) l
theorem ztG (f : FuncId) (H : List AObj) (l : List AV) : zCS f H l = roF f H l := by
 unfold zCS roF
 rw [z5Z]
abbrev zBs (p : Bool) (ks : Option (List CK)) (isB sl : Bool) (op : BinOp) (x y : AV) (K : AV → Option R) : Option R := zDJ p (zEk op x y K) (zED ks isB sl op x y K)
theorem zr3 (p : Bool) (ks : Option (List CK)) (isB sl : Bool) (op : BinOp) (x y : AV) (K : AV → Option R) : zBs p ks isB sl op x y K = zxn p ks isB sl op x y K := by cases p <;> rfl
abbrev zel (P : Program) (G : Gl) (E : Env) (D : Bool) (o : Op) (s : ASt) (K : AV → List AObj → Option R) : Option R :=
 match o with
 |.move x=>K (evK G s.T x) s.H
 |.assign x=>K (evK G s.T x) s.H
 |.pick c x y=>ziy (evK G s.T c) (K (evK G s.T x) s.H) (K (evK G s.T y) s.H)
 |.binOp op t x y _=>zBs (zj9 P t) (zFw P t) (zd6 P t) (zt1 P t) op (evK G s.T x) (evK G s.T y) fun r=>K r s.H
 |.unOp op _ x=>unK op (evK G s.T x) fun r=>K r s.H
 |.alloc t=>z1G (z7r P t) t s.H K
 |.box t x=>zE6 t s.H (evK G s.T x) K
 |.build t ps=>z0X (z7I P t) (z7r P t) (zDo (fun p=>(p.1,evK G s.T p.2)) ps.toList) fun r=>K r s.H
 |.buildSlice t n ps=>z3z (zEP P t) n (zDo (fun p=>(p.1,evK G s.T p.2)) ps.toList) fun r=>K r s.H
 |.load t x=>z0l (z0z P t) s.H (evK G s.T x) fun r=>K r s.H
 |.store t x y=>z0s (z0z P t) s.H (evK G s.T x) (evK G s.T y) fun H'=>K .nil H'
 |.nilCheck x=>zEC (evK G s.T x) fun r=>K r s.H
 |.convert src dst x=>zkv (z3f P src && z3f P dst) (zF0 P dst) (P.underlying src).isSome (zCB P src && z3f P dst) (z3f P src && zCB P dst) (ro s.H (evK G s.T x)) fun r=>K r s.H
 |.extract x i=>zEN (evK G s.T x) i fun r=>K r s.H
 |.fieldAddr t x f=>z0b (z20 P t f) (evK G s.T x) fun r=>K r s.H
 |.field t x f=>zfw (z20 P t f) (evK G s.T x) fun r=>K r s.H
 |.indexAddr t x y=>zCd (z1Y P t) (z4m P t) s.H (evK G s.T x) (evK G s.T y) fun r=>K r s.H
 |.index t x y=>zla (z3f P t) (z4m P t) (evK G s.T x) (evK G s.T y) fun r=>K r s.H
 |.slice t x lo hi none=>zeb (z3f P t) (z1Y P t) s.H (evK G s.T x) (lo.map (evK G s.T)) (hi.map (evK G s.T)) fun r=>K r s.H
 |.call { callee := .value (.func f),args := args,argTypes := _ }=>zDJ D (zvc (zpc E f) (zDo (ro s.H) (zDo (evK G s.T) args.toList)) fun r=>K r s.H) (zAD (zpc E f) (zCS f s.H (zDo (evK G s.T) args.toList)) s.H K)
 |.makeFunc fn first caps=>z0q ((zDo (evK G s.T) (first.toList ++ caps.toList)).all zDh) (K (CL fn first.toList.length (zDo (evK G s.T) (first.toList ++ caps.toList))) s.H)
 |.call { callee := .value (.tmp t),args := args,argTypes := _ }=>zzp E (zcO s.T t) (zDo (evK G s.T) args.toList) s.H K
 |.call { callee := .builtin .len,args := ⟨[x]⟩,argTypes := ⟨[t]⟩ }=>zEU (z3f P t) (z1Y P t).isSome s.H (evK G s.T x) fun r=>K r s.H
 |.call { callee := .builtin .append,args := ⟨[x,y]⟩,argTypes := ⟨[t,t']⟩ }=>zDJ (Nat.beq t' t) (zF4 (zEP P t) s.H (evK G s.T x) (evK G s.T y) K) (zr4 (z3f P t') (zsv (zEP P t) s.H (evK G s.T x) (evK G s.T y) K))
 |.call { callee := .builtin .max,args := ⟨[x,y]⟩,argTypes := _ }=>mmE true (evK G s.T x) (evK G s.T y) fun r=>K r s.H
 |.call { callee := .builtin .min,args := ⟨[x,y]⟩,argTypes := _ }=>mmE false (evK G s.T x) (evK G s.T y) fun r=>K r s.H
 |.lookup t x y ok=>zqg P t s.H (evK G s.T x) (evK G s.T y) ok fun r=>K r s.H
 |.mapUpdate t x y z=>zpD P t s.H (evK G s.T x) (evK G s.T y) (evK G s.T z) fun H'=>K .nil H'
 |.makeMap t none=>zpo (zFr P t) s.H K
 |_=>none
theorem zxb (a b : Nat) : Nat.beq a b = decide (a = b) := by
 rw [Bool.eq_iff_iff]
 simp
theorem z7e (o : Oper) (s : ASt) (K : AV → List AObj → Option R) : zel P G E false o.op s K = zep P G E o s K := by
 obtain ⟨dst,op,ty,pos,af,gd⟩ := o
 have e1 : ∀ T,evK G T = ev G T := fun T=>funext (z4e G T)
 have e4 : ∀ T,(fun p : Nat × Operand=>(p.1,evK G T p.2)) = fun p=>(p.1,ev G T p.2) := fun T=>funext fun p=>by rw [z4e]
 unfold zep zel
 dsimp only
 cases op
 case slice t x lo hi mx =>
  cases mx
  ·dsimp only;rw [z4e,e1]
  ·rfl
 case call c =>
  obtain ⟨cal,⟨args⟩,⟨ts⟩⟩ := c
  cases cal
  case value f =>
   cases f
   case tmp t=>show zaK E (zcO s.T t) (zDo (evK G s.T) args) s.H K = zaK E (get s.T t) (args.map (ev G s.T)) s.H K;rw [slotK_eq,z5Z,e1]
   case func f=>show zAD (zpc E f) (zCS f s.H (zDo (evK G s.T) args)) s.H K = zfS (zbU E f) (roF f s.H (args.map (ev G s.T))) s.H K;rw [findK_eq,ztG,z5Z,e1];rfl
   all_goals rfl
  case invoke r m=>rfl
  case builtin b =>
   cases b
   case len =>
    rcases args with _|⟨x,_|⟨y,r⟩⟩ <;> rcases ts with _|⟨t,_|⟨t',q⟩⟩ <;> first|rfl|(dsimp only;rw [z4e])
   case append =>
    rcases args with _|⟨x,_|⟨y,_|⟨z,r⟩⟩⟩ <;> rcases ts with _|⟨t,_|⟨t',_|⟨t2,q⟩⟩⟩ <;> first|rfl|(dsimp only;rw [z4e,z4e,zgt,zxb];cases decide (t' = t) <;> rfl)
   case max=>rcases args with _|⟨x,_|⟨y,_|⟨z,r⟩⟩⟩ <;> first|rfl|(dsimp only;rw [z4e,z4e])
   case min=>rcases args with _|⟨x,_|⟨y,_|⟨z,r⟩⟩⟩ <;> first|rfl|(dsimp only;rw [z4e,z4e])
   all_goals rfl
 case binOp op' t x y yt=>exact (zr3 ..).trans (by rw [z4e,z4e])
 case makeMap t r=>cases r <;> rfl
 case pick c x y =>
  show ziy (evK G s.T c) (K (evK G s.T x) s.H) (K (evK G s.T y) s.H) = ziy (ev G s.T c) (K (ev G s.T x) s.H) (K (ev G s.T y) s.H)
  rw [z4e,z4e,z4e]
 case unOp op t x =>
  show unK op (evK G s.T x) _ = unE op (ev G s.T x) _
  rw [zyA,z4e]
 case build t ps =>
  show z0X _ _ (zDo (fun p=>(p.1,evK G s.T p.2)) ps.toList) _ = z0X _ _ (ps.toList.map fun p=>(p.1,ev G s.T p.2)) _
  rw [z5Z,e4]
 case buildSlice t n ps =>
  show z3z _ _ (zDo (fun p=>(p.1,evK G s.T p.2)) ps.toList) _ = z3z _ _ (ps.toList.map fun p=>(p.1,ev G s.T p.2)) _
  rw [z5Z,e4]
 case makeFunc fn first caps =>
  show z0q ((zDo (evK G s.T) (first.toList ++ caps.toList)).all zDh) (K (CL fn _ (zDo (evK G s.T) (first.toList ++ caps.toList))) s.H) = _
  rw [z5Z,e1]
 all_goals first
  |rfl
  |((repeat (first|rw [z4e]|rw [e1]|rw [slotK_eq])) <;> first|done|rfl)
theorem zwB (op : Op) (s : ASt) (K : AV → List AObj → Option R) (hne : ∀ f args ts,op ≠ .call { callee := .value (.func f),args := args,argTypes := ts }) : zel P G E true op s K = zel P G E false op s K := by
 cases op
 case makeMap t r=>cases r <;> rfl
 case slice t x lo hi mx=>cases mx <;> rfl
 case call c =>
  obtain ⟨cal,⟨args⟩,⟨ts⟩⟩ := c
  cases cal
  case value f =>
   cases f
   case func f=>exact (hne _ _ _ rfl).elim
   all_goals rfl
  case invoke r m=>rfl
  case builtin b =>
   cases b
   case len=>rcases args with _|⟨x,_|⟨y,r⟩⟩ <;> rcases ts with _|⟨t,_|⟨t',q⟩⟩ <;> rfl
   case append=>rcases args with _|⟨x,_|⟨y,_|⟨z,r⟩⟩⟩ <;> rcases ts with _|⟨t,_|⟨t',_|⟨t2,q⟩⟩⟩ <;> rfl
   case max=>rcases args with _|⟨x,_|⟨y,_|⟨z,r⟩⟩⟩ <;> rfl
   case min=>rcases args with _|⟨x,_|⟨y,_|⟨z,r⟩⟩⟩ <;> rfl
   all_goals rfl
 all_goals rfl
theorem z5t (D : Bool) (o : Oper) (s : ASt) (K : AV → List AObj → Option R) : zel P G E D o.op s K = zcu P G E D o s K := by
 cases D with
 |false=>exact z7e o s K
 |true =>
  have key := z7e (P := P) (G := G) (E := E) o s K
  unfold zcu
  dsimp only
  split
  ·rename_i f args ts he
   have e1 : ∀ T,evK G T = ev G T := fun T=>funext (z4e G T)
   rw [he]
   show zvc (zpc E f) (zDo (ro s.H) (zDo (evK G s.T) args.toList)) (fun r=>K r s.H) = zor (zbU E f) ((args.toList.map (ev G s.T)).map (ro s.H)) (fun r=>K r s.H)
   rw [findK_eq,z5Z,z5Z,e1]
   rfl
  ·rename_i hne
   rw [← key]
   exact zwB _ _ _ fun f args ts he=>hne f args ts he
abbrev zDK (T : Tm) (d : Option Tmp) (v : AV) : Tm := Option.rec (motive := fun _=>Tm) T (fun d=>(d,v) :: T) d
theorem z0Z (s : ASt) (H : List AObj) (d : Option Tmp) (v : AV) : (⟨H,zDK s.T d v⟩ : ASt) = s.set H d v := by cases d <;> rfl
abbrev zDD (ops : List Oper) (j : Nat) : Option Tmp := Option.rec (motive := fun _=>Option Tmp) none (fun o=>o.dst) (zFU ops j)
theorem zff (ops : List Oper) (j : Nat) : zDD ops j = z1N ops j := by
 unfold z1N
 show Option.rec (motive := fun _=>Option Tmp) none (fun o=>o.dst) (zFU ops j) = _
 rw [zq2]
 cases ops[j]? <;> rfl
abbrev runK (P : Program) (G : Gl) (E : Env) (D : Bool) (ops : List Oper) (K : ASt → Option R) (l : List Oper) : List Nat → ASt → Option R :=
  List.rec (motive := fun _ => List Nat → ASt → Option R) (fun _ s => K s)
    (fun o _ ih sk s => match o.guard with
      | none => zel   P G E D o.op s fun d H => ih (skO sk o.dst) ⟨H, zDK  s.T o.dst d⟩
      | some (j, want) => match zDD  ops j with
        | none => none
        | some t => zDJ  (sk.contains t) (ih (skN sk o.dst) ⟨s.H, zDK  s.T o.dst UD⟩)
          (ziy   (zcO   s.T t)
            (zDJ  want (zel   P G E D o.op ⟨s.H, (t, V (.bool true)) :: s.T⟩ fun d H => ih (skO sk o.dst) ⟨H, zDK  ((t, V (.bool true)) :: s.T) o.dst d⟩) (ih (skN sk o.dst) ⟨s.H, zDK  ((t, V (.bool true)) :: s.T) o.dst UD⟩))
            (zDJ  want (ih (skN sk o.dst) ⟨s.H, zDK  ((t, V (.bool false)) :: s.T) o.dst UD⟩) (zel   P G E D o.op ⟨s.H, (t, V (.bool false)) :: s.T⟩ fun d H => ih (skO sk o.dst) ⟨H, zDK  ((t, V (.bool false)) :: s.T) o.dst d⟩)))) l
theorem z5i {x x' : AV} {A A' B B' : Option R} (h1 : x = x') (h2 : A = A') (h3 : B = B') : ziy x A B = z0U x' A' B' := by subst h1 h2 h3;rfl
theorem zpu (D : Bool) (ops : List Oper) (K : ASt → Option R) : ∀ (l : List Oper) (sk : List Nat) (s : ASt),runK P G E D ops K l sk s = runE P G E D ops sk l s K
 |[],sk,s=>rfl
 |o :: r,sk,s=>by
  have ih : ∀ sk s,List.rec (motive := fun _=>List Nat → ASt → Option R) _ _ r sk s = _ := fun sk s=>zpu D ops K r sk s
  unfold runE
  unfold runK
  dsimp only
  cases hg : o.guard with
  |none =>
   dsimp only
   rw [z5t]
   refine congrArg (zcu P G E D o s) (funext fun d=>funext fun H=>?_)
   exact (ih _ _).trans (by rw [z0Z])
  |some g =>
   obtain ⟨j,want⟩ := g
   dsimp only
   rw [zff]
   cases hd : z1N ops j with
   |none=>rfl
   |some t =>
    dsimp only
    cases hc : sk.contains t with
    |true =>
     dsimp only
     exact (ih _ _).trans (by rw [z0Z])
    |false =>
     refine z5i (slotK_eq _ _) ?_ ?_
     ·cases want with
      |true=>exact (z5t D o _ _).trans (congrArg (zcu P G E D o _) (funext fun d=>funext fun H=>(ih (skO sk o.dst) ⟨H,zDK ((t,V (.bool true)) :: s.T) o.dst d⟩).trans (by rw [z0Z ⟨s.H,(t,V (.bool true)) :: s.T⟩])))
      |false=>exact (ih (skN sk o.dst) ⟨s.H,zDK ((t,V (.bool true)) :: s.T) o.dst UD⟩).trans (by rw [z0Z ⟨s.H,(t,V (.bool true)) :: s.T⟩])
     ·cases want with
      |true=>exact (ih (skN sk o.dst) ⟨s.H,zDK ((t,V (.bool false)) :: s.T) o.dst UD⟩).trans (by rw [z0Z ⟨s.H,(t,V (.bool false)) :: s.T⟩])
      |false=>exact (z5t D o _ _).trans (congrArg (zcu P G E D o _) (funext fun d=>funext fun H=>(ih (skO sk o.dst) ⟨H,zDK ((t,V (.bool false)) :: s.T) o.dst d⟩).trans (by rw [z0Z ⟨s.H,(t,V (.bool false)) :: s.T⟩])))
abbrev zDR (n k : Nat) (a d : AV) (l : List (Nat × List AObj)) (K : Option R) : Option R := List.rec (motive := fun _=>Option R) K (fun p _ ih=>zDJ (Nat.ble n p.1) (z0l k p.2 a fun d'=>eqE d d' ih) ih) l
theorem zoK (n k : Nat) (a d : AV) (K : Option R) : ∀ (l : List (Nat × List AObj)),zDR n k a d l K = zEJ n k a d l K
 |[]=>rfl
 |p :: r=>by
  have ih := zoK n k a d K r
  unfold zEJ
  show zDJ (Nat.ble n p.1) (z0l k p.2 a fun d'=>eqE d d' (zDR n k a d r K)) (zDR n k a d r K) = _
  rw [ih]
  cases Nat.ble n p.1 <;> rfl
abbrev zDw (H : List AObj) (l : List OpI) (K : Option R) : Option R := List.rec (motive := fun _=>Option R) K (fun x _ ih=>z0l x.2.1 H x.2.2.1 fun d'=>eqE x.2.2.2 d' ih) l
theorem zph (H : List AObj) (K : Option R) : ∀ (l : List OpI),zDw H l K = zDT H l K
 |[]=>rfl
 |x :: r=>by
  have ih := zph H K r
  show z0l x.2.1 H x.2.2.1 (fun d'=>eqE x.2.2.2 d' (zDw H r K)) = z0l x.2.1 H x.2.2.1 (fun d'=>eqE x.2.2.2 d' (zDT H r K))
  rw [ih]
abbrev zBW (o : Oper) : Option (TypeId × Operand) := match o.op with|.load t x=>some (t,x)|_=>none
abbrev zng (f : Bool) (o : Oper) : Option (TypeId × Operand) := Option.rec (motive := fun _=>Option (TypeId × Operand)) none (fun p=>zDJ f (some p) none) (zBW o)
theorem znn (f : Bool) (o : Oper) : zng f o = zd7 f o := by
 obtain ⟨dst,op,ty,pos,af,gd⟩ := o
 cases op <;> cases f <;> rfl
abbrev ziQ (A : List Nat) (p : Nat) (l : List OpI) : List OpI := List.rec (motive := fun _=>List OpI) [] (fun x _ ih=>zDJ ((A.getD p 0).testBit x.1) ih (x :: ih)) l
theorem zlu (A : List Nat) (p : Nat) : ∀ (l : List OpI),ziQ A p l = z8C A p l
 |[]=>rfl
 |x :: r=>by
  have ih := zlu A p r
  show zDJ ((A.getD p 0).testBit x.1) (ziQ A p r) (x :: ziQ A p r) = z8C A p (x :: r)
  rw [ih]
  show _ = (match (A.getD p 0).testBit x.1 with|true=>z8C A p r|false=>x :: z8C A p r)
  cases (A.getD p 0).testBit x.1 <;> rfl
abbrev cls3 {α : Type} (n : Nat) (a b c : α) : α := Nat.rec (motive := fun _=>α) a (fun k _=>Nat.rec (motive := fun _=>α) b (fun _ _=>c) k) n
abbrev runDK (P : Program) (G : Gl) (E : Env) (ops : List Oper) (A : List Nat) (K : ASt → Option R) (l : List Oper) : List Nat → List (List AObj) → List (Nat × List AObj) → List OpI → ASt → Option R :=
  List.rec (motive := fun _ => List Nat → List (List AObj) → List (Nat × List AObj) → List OpI → ASt → Option R) (fun _ _ _ _ s => K s)
    (fun o _ ih sk acc old opn s => cls3 (zDp  (kcE E) o.op)
      (match o.guard with
        | none => (Option.rec (motive := fun _ => Option R) (zel   P G E true o.op ⟨zEe  (kcE E) ops A (acc ++ [s.H]) acc.length, s.T⟩ fun d _ => ih (skO sk o.dst) (acc ++ [s.H]) old opn ⟨s.H, zDK  (s.T) o.dst d⟩)
          (fun p => z0l   (z0z   P p.1) s.H (evK G (s.T) p.2) fun d => zDR  (loI (kcE E) ops A acc.length) (z0z   P p.1) (evK G (s.T) p.2) d old (ih (skO sk o.dst) (acc ++ [s.H]) old ((acc.length, z0z   P p.1, evK G (s.T) p.2, d) :: opn) ⟨s.H, zDK  (s.T) o.dst d⟩))
          (zng    (z9i   (kcE E) ops A acc.length) o))
        | some (j, want) => match zDD  ops j with
          | none => none
          | some t => zDJ  (sk.contains t) (ih (skN sk o.dst) (acc ++ [s.H]) old opn ⟨s.H, zDK  s.T o.dst UD⟩)
            (ziy   (zcO   s.T t)
              (zDJ  want (Option.rec (motive := fun _ => Option R) (zel   P G E true o.op ⟨zEe  (kcE E) ops A (acc ++ [s.H]) acc.length, (t, V (.bool true)) :: s.T⟩ fun d _ => ih (skO sk o.dst) (acc ++ [s.H]) old opn ⟨s.H, zDK  ((t, V (.bool true)) :: s.T) o.dst d⟩)
          (fun p => z0l   (z0z   P p.1) s.H (evK G ((t, V (.bool true)) :: s.T) p.2) fun d => zDR  (loI (kcE E) ops A acc.length) (z0z   P p.1) (evK G ((t, V (.bool true)) :: s.T) p.2) d old (ih (skO sk o.dst) (acc ++ [s.H]) old ((acc.length, z0z   P p.1, evK G ((t, V (.bool true)) :: s.T) p.2, d) :: opn) ⟨s.H, zDK  ((t, V (.bool true)) :: s.T) o.dst d⟩))
          (zng    (z9i   (kcE E) ops A acc.length) o)) (ih (skN sk o.dst) (acc ++ [s.H]) old opn ⟨s.H, zDK  ((t, V (.bool true)) :: s.T) o.dst UD⟩))
              (zDJ  want (ih (skN sk o.dst) (acc ++ [s.H]) old opn ⟨s.H, zDK  ((t, V (.bool false)) :: s.T) o.dst UD⟩) (Option.rec (motive := fun _ => Option R) (zel   P G E true o.op ⟨zEe  (kcE E) ops A (acc ++ [s.H]) acc.length, (t, V (.bool false)) :: s.T⟩ fun d _ => ih (skO sk o.dst) (acc ++ [s.H]) old opn ⟨s.H, zDK  ((t, V (.bool false)) :: s.T) o.dst d⟩)
          (fun p => z0l   (z0z   P p.1) s.H (evK G ((t, V (.bool false)) :: s.T) p.2) fun d => zDR  (loI (kcE E) ops A acc.length) (z0z   P p.1) (evK G ((t, V (.bool false)) :: s.T) p.2) d old (ih (skO sk o.dst) (acc ++ [s.H]) old ((acc.length, z0z   P p.1, evK G ((t, V (.bool false)) :: s.T) p.2, d) :: opn) ⟨s.H, zDK  ((t, V (.bool false)) :: s.T) o.dst d⟩))
          (zng    (z9i   (kcE E) ops A acc.length) o)))))
      (match o.guard with | none => zw0   P G E o s fun d Y => zDw  (s.H ++ Y) (ziQ   A acc.length opn) (ih (skO sk o.dst) (acc ++ [s.H]) ((acc.length, s.H) :: old) (ziQ   A acc.length opn) ⟨s.H ++ Y, zDK  s.T o.dst d⟩) | some _ => none)
      (match o.guard with
        | none => zel   P G E false o.op s fun d H' => zDw  H' (ziQ   A acc.length opn) (ih (skO sk o.dst) (acc ++ [s.H]) ((acc.length, s.H) :: old) (ziQ   A acc.length opn) ⟨H', zDK  s.T o.dst d⟩)
        | some (j, want) => match zDD  ops j with
          | none => none
          | some t => zDJ  (sk.contains t) (ih (skN sk o.dst) (acc ++ [s.H]) old opn ⟨s.H, zDK  s.T o.dst UD⟩)
            (ziy   (zcO   s.T t)
              (zDJ  want (zel   P G E false o.op ⟨s.H, (t, V (.bool true)) :: s.T⟩ fun d H' => zDw  H' (ziQ   A acc.length opn) (ih (skO sk o.dst) (acc ++ [s.H]) ((acc.length, s.H) :: old) (ziQ   A acc.length opn) ⟨H', zDK  ((t, V (.bool true)) :: s.T) o.dst d⟩)) (ih (skN sk o.dst) (acc ++ [s.H]) old opn ⟨s.H, zDK  ((t, V (.bool true)) :: s.T) o.dst UD⟩))
              (zDJ  want (ih (skN sk o.dst) (acc ++ [s.H]) old opn ⟨s.H, zDK  ((t, V (.bool false)) :: s.T) o.dst UD⟩) (zel   P G E false o.op ⟨s.H, (t, V (.bool false)) :: s.T⟩ fun d H' => zDw  H' (ziQ   A acc.length opn) (ih (skO sk o.dst) (acc ++ [s.H]) ((acc.length, s.H) :: old) (ziQ   A acc.length opn) ⟨H', zDK  ((t, V (.bool false)) :: s.T) o.dst d⟩)))))) l
theorem zkn (ops : List Oper) (K : ASt → Option R) : ∀ (l : List Oper) (sk : List Nat) (acc : List (List AObj)) (old : List (Nat × List AObj)) (opn : List OpI) (s : ASt),runDK P G E ops (zEu ops []) K l sk acc old opn s = runD P G E ops sk acc old opn l s K
 |[],sk,acc,old,opn,s=>rfl
 |o :: r,sk,acc,old,opn,s=>by
  have ih : ∀ sk acc old opn s,List.rec (motive := fun _=>List Nat → List (List AObj) → List (Nat × List AObj) → List OpI → ASt → Option R) _ _ r sk acc old opn s = _ := fun sk acc old opn s=>zkn ops K r sk acc old opn s
  have iho : ∀ sk acc old (n : Nat) opn H0 s,zDw H0 (ziQ (zEu ops []) n opn) (List.rec (motive := fun _=>List Nat → List (List AObj) → List (Nat × List AObj) → List OpI → ASt → Option R) _ _ r sk acc old (ziQ (zEu ops []) n opn) s) = zDT H0 (z8C (zEu ops []) n opn) (runD P G E ops sk acc old (z8C (zEu ops []) n opn) r s K) := fun sk acc old n opn H0 s=>(zph H0 _ _).trans ((congrArg (zDT H0 _) (ih sk acc old _ s)).trans (by rw [zlu]))
  unfold runD
  unfold runDK
  dsimp only
  generalize zDp (kcE E) o.op = cl
  rcases cl with _|_|cl
  ·rw [znn]
   cases hop : zd7 (z9i (kcE E) ops (zEu ops []) acc.length) o with
   |some p =>
    obtain ⟨t',x⟩ := p
    dsimp only
    have go : ∀ T,z0l (z0z P t') s.H (evK G T x) (fun d=>zDR (loI (kcE E) ops (zEu ops []) acc.length) (z0z P t') (evK G T x) d old (runDK P G E ops (zEu ops []) K r (skO sk o.dst) (acc ++ [s.H]) old ((acc.length,z0z P t',evK G T x,d) :: opn) ⟨s.H,zDK T o.dst d⟩)) = z0l (z0z P t') s.H (ev G T x) (fun d=>zEJ (loI (kcE E) ops (zEu ops []) acc.length) (z0z P t') (ev G T x) d old (runD P G E ops (skO sk o.dst) (acc ++ [s.H]) old ((acc.length,z0z P t',ev G T x,d) :: opn) r (ASt.set ⟨s.H,T⟩ s.H o.dst d) K)) := fun T=>by
     rw [z4e]
     refine congrArg (z0l (z0z P t') s.H (ev G T x)) (funext fun d=>?_)
     refine (zoK (loI (kcE E) ops (zEu ops []) acc.length) (z0z P t') (ev G T x) d _ old).trans (congrArg (zEJ (loI (kcE E) ops (zEu ops []) acc.length) (z0z P t') (ev G T x) d old) ?_)
     exact (ih _ _ _ _ _).trans (by rw [z0Z ⟨s.H,T⟩])
    cases hg : o.guard with
    |none=>exact go s.T
    |some g =>
     obtain ⟨j,want⟩ := g
     dsimp only
     rw [zff]
     cases hd : z1N ops j with
     |none=>rfl
     |some t =>
      dsimp only
      cases hc : sk.contains t with
      |true =>
       exact (ih (skN sk o.dst) (acc ++ [s.H]) old opn ⟨s.H,zDK s.T o.dst UD⟩).trans (by rw [z0Z];rfl)
      |false =>
       refine z5i (slotK_eq _ _) ?_ ?_
       ·cases want with
        |true=>exact go _
        |false=>exact (ih (skN sk o.dst) (acc ++ [s.H]) old opn ⟨s.H,zDK ((t,V (.bool true)) :: s.T) o.dst UD⟩).trans (by rw [z0Z ⟨s.H,(t,V (.bool true)) :: s.T⟩])
       ·cases want with
        |true=>exact (ih (skN sk o.dst) (acc ++ [s.H]) old opn ⟨s.H,zDK ((t,V (.bool false)) :: s.T) o.dst UD⟩).trans (by rw [z0Z ⟨s.H,(t,V (.bool false)) :: s.T⟩])
        |false=>exact go _
   |none =>
   dsimp only
   cases hg : o.guard with
   |none =>
    dsimp only
    rw [z5t]
    exact congrArg (zcu P G E true o _) (funext fun d=>funext fun H=>(ih (skO sk o.dst) (acc ++ [s.H]) old opn ⟨s.H,zDK s.T o.dst d⟩).trans (by rw [z0Z]))
   |some g =>
    obtain ⟨j,want⟩ := g
    dsimp only
    rw [zff]
    cases hd : z1N ops j with
    |none=>rfl
    |some t =>
     dsimp only
     cases hc : sk.contains t with
     |true =>
      exact (ih (skN sk o.dst) (acc ++ [s.H]) old opn ⟨s.H,zDK s.T o.dst UD⟩).trans (by rw [z0Z];rfl)
     |false =>
      refine z5i (slotK_eq _ _) ?_ ?_
      ·cases want with
       |true=>exact (z5t true o _ _).trans (congrArg (zcu P G E true o _) (funext fun d=>funext fun H=>(ih (skO sk o.dst) (acc ++ [s.H]) old opn ⟨s.H,zDK ((t,V (.bool true)) :: s.T) o.dst d⟩).trans (by rw [z0Z ⟨s.H,(t,V (.bool true)) :: s.T⟩])))
       |false=>exact (ih (skN sk o.dst) (acc ++ [s.H]) old opn ⟨s.H,zDK ((t,V (.bool true)) :: s.T) o.dst UD⟩).trans (by rw [z0Z ⟨s.H,(t,V (.bool true)) :: s.T⟩])
      ·cases want with
       |true=>exact (ih (skN sk o.dst) (acc ++ [s.H]) old opn ⟨s.H,zDK ((t,V (.bool false)) :: s.T) o.dst UD⟩).trans (by rw [z0Z ⟨s.H,(t,V (.bool false)) :: s.T⟩])
       |false=>exact (z5t true o _ _).trans (congrArg (zcu P G E true o _) (funext fun d=>funext fun H=>(ih (skO sk o.dst) (acc ++ [s.H]) old opn ⟨s.H,zDK ((t,V (.bool false)) :: s.T) o.dst d⟩).trans (by rw [z0Z ⟨s.H,(t,V (.bool false)) :: s.T⟩])))
  ·cases hg : o.guard with
   |none =>
    exact congrArg (zw0 P G E o s) (funext fun d=>funext fun Y=>(iho (skO sk o.dst) (acc ++ [s.H]) ((acc.length,s.H) :: old) acc.length opn (s.H ++ Y) ⟨s.H ++ Y,zDK s.T o.dst d⟩).trans (by rw [z0Z]))
   |some g=>rfl
  ·cases hg : o.guard with
   |none =>
    exact (z7e o s _).trans (congrArg (zep P G E o s) (funext fun d=>funext fun Y=>(iho (skO sk o.dst) (acc ++ [s.H]) ((acc.length,s.H) :: old) acc.length opn Y ⟨Y,zDK s.T o.dst d⟩).trans (by rw [z0Z])))
   |some g =>
    obtain ⟨j,want⟩ := g
    dsimp only
    rw [zff]
    cases hd : z1N ops j with
    |none=>rfl
    |some t =>
     dsimp only
     cases hc : sk.contains t with
     |true =>
      exact (ih (skN sk o.dst) (acc ++ [s.H]) old opn ⟨s.H,zDK s.T o.dst UD⟩).trans (by rw [z0Z];rfl)
     |false =>
      refine z5i (slotK_eq _ _) ?_ ?_
      ·cases want with
       |true=>exact (z7e o ⟨s.H,(t,V (.bool true)) :: s.T⟩ _).trans (congrArg (zep P G E o _) (funext fun d=>funext fun Y=>(iho (skO sk o.dst) (acc ++ [s.H]) ((acc.length,s.H) :: old) acc.length opn Y ⟨Y,zDK ((t,V (.bool true)) :: s.T) o.dst d⟩).trans (by rw [z0Z ⟨s.H,(t,V (.bool true)) :: s.T⟩])))
       |false=>exact (ih (skN sk o.dst) (acc ++ [s.H]) old opn ⟨s.H,zDK ((t,V (.bool true)) :: s.T) o.dst UD⟩).trans (by rw [z0Z ⟨s.H,(t,V (.bool true)) :: s.T⟩])
      ·cases want with
       |true=>exact (ih (skN sk o.dst) (acc ++ [s.H]) old opn ⟨s.H,zDK ((t,V (.bool false)) :: s.T) o.dst UD⟩).trans (by rw [z0Z ⟨s.H,(t,V (.bool false)) :: s.T⟩])
       |false=>exact (z7e o ⟨s.H,(t,V (.bool false)) :: s.T⟩ _).trans (congrArg (zep P G E o _) (funext fun d=>funext fun Y=>(iho (skO sk o.dst) (acc ++ [s.H]) ((acc.length,s.H) :: old) acc.length opn Y ⟨Y,zDK ((t,V (.bool false)) :: s.T) o.dst d⟩).trans (by rw [z0Z ⟨s.H,(t,V (.bool false)) :: s.T⟩])))
abbrev z8x (L : List Nat) (T : Tm) : Tm := List.rec (motive := fun _=>Tm) [] (fun i _ ih=>(i,zcO T i) :: ih) L
theorem zaP : ∀ (L : List Nat) (T : Tm),z8x L T = z4S L T
 |[],T=>rfl
 |i :: r,T=>by
  have := zaP r T
  show (i,zcO T i) :: z8x r T = (i,get T i) :: z4S r T
  rw [this,slotK_eq]
abbrev ghK (g : Option (Nat × Nat × TypeId × Nat)) (s : ASt) : ASt := Option.rec (motive := fun _=>ASt) s (fun q=>ghS q.1 q.2.1 q.2.2.1 q.2.2.2 s) g
theorem zA2 (g : Option (Nat × Nat × TypeId × Nat)) (s : ASt) : ghK g s = ghJ g s := by cases g <;> rfl
abbrev zyb (K : ASt → Option R) (l : List (Nat × TypeId × Nat)) : ASt → Option R :=
 List.rec (motive := fun _=>ASt → Option R) (fun s=>K s) (fun p _ ih s=>zFn (zcO s.T p.1) p.2.1 p.2.2 s.H fun d H=>ih ⟨H,(p.1,d) :: s.T⟩) l
theorem rowsK_eq (K : ASt → Option R) : ∀ (l : List (Nat × TypeId × Nat)) (s : ASt), zyb   K l s = zsQ   l s K
  | [], s => rfl
  | (i, e, z) :: r, s => by
    have ih : ∀ s, List.rec (motive := fun _ => ASt → Option R) _ _ r s = _ := fun s => rowsK_eq K r s
    unfold zsQ  
    unfold zyb  
    dsimp only
    rw [slotK_eq]
    exact congrArg (zFn  _ e z s.H) (funext fun d => funext fun H => ih _)
abbrev zFh (c : Operand) (b : Bool) (T : Tm) : Tm := Operand.rec (motive := fun _=>Tm) (fun t=>(t,V (.bool b)) :: T) (fun _=>T) (fun _=>T) (fun _=>T) c
theorem zp6 (c : Operand) (b : Bool) (T : Tm) : zFh c b T = zFv c b T := by cases c <;> rfl
abbrev zqy (n0 : Nat) (L Lo : List Nat) (kc : ASt → Option R) (kx : KO R) : KO R := fun e s=>match e with|.normal=>zd5 n0 s.H (z8x L s.T) kc|e=>kx e ⟨s.H,z8x Lo s.T⟩
theorem zdK (n0 : Nat) : ∀ (L : List Nat) (T : Tm),(z4S L T).all (fun p=>ltT n0 p.2) = L.all fun i=>ltT n0 (get T i)
 |[],T=>rfl
 |i :: r,T=>by simp only [z4S,List.all_cons,zdK n0 r T]
theorem zhP (n0 : Nat) (L Lo : List Nat) (kc : ASt → Option R) (kx : KO R) : zqy n0 L Lo kc kx = zoc n0 L Lo kc kx := by
 funext e s
 have e1 : ∀ L,z8x L s.T = z4S L s.T := fun L=>zaP L s.T
 cases e with
 |normal =>
  show zd5 n0 s.H (z8x L s.T) kc = zrf n0 L s kc
  unfold zd5 zrf
  rw [e1,zdK]
 |exit i=>show kx _ ⟨s.H,z8x Lo s.T⟩ = kx _ ⟨s.H,z4S Lo s.T⟩;rw [e1]
 |goto i=>show kx _ ⟨s.H,z8x Lo s.T⟩ = kx _ ⟨s.H,z4S Lo s.T⟩;rw [e1]
 |ret=>show kx _ ⟨s.H,z8x Lo s.T⟩ = kx _ ⟨s.H,z4S Lo s.T⟩;rw [e1]
 |panic i=>show kx _ ⟨s.H,z8x Lo s.T⟩ = kx _ ⟨s.H,z4S Lo s.T⟩;rw [e1]
 |outgrown=>show kx _ ⟨s.H,z8x Lo s.T⟩ = kx _ ⟨s.H,z4S Lo s.T⟩;rw [e1]
def gt (T : Tm) (i : Nat) : AV := zcO T i
theorem zxv (T : Tm) (i : Nat) : gt T i = get T i := slotK_eq T i
def z3n (P : Program) (G : Gl) (E : Env) (M : Nat) (N : FS) (c : Code) (h : Hint) (s : ASt) (k : KO R) : Option R := zF9 P G E M N c h s k
def zdP (P : Program) (G : Gl) (E : Env) (M : Nat) (N : FS) (c : Code) (h : Hint) (L Lo : List Nat) (s : ASt) (kc : ASt → Option R) (kx : KO R) : Option R := zF9 P G E M N c h s (zoc s.H.length L Lo kc kx)
def zfV (n0 : Nat) (L Lo : List Nat) (kc : ASt → Option R) (kx : KO R) : KO R := (fun _ : Program → Gl → Env → Nat → FS → Code → Hint → List Nat → List Nat → ASt → (ASt → Option R) → KO R → Option R=>zqy n0 L Lo kc kx) zdP
theorem zgZ (n0 : Nat) (L Lo : List Nat) (kc : ASt → Option R) (kx : KO R) : zfV n0 L Lo kc kx = zoc n0 L Lo kc kx := zhP n0 L Lo kc kx
def zCu (next : ASt → Option R) (k : KO R) : KO R := (fun _ : Program → Gl → Env → Nat → FS → Code → Hint → List Nat → List Nat → ASt → (ASt → Option R) → KO R → Option R=>fun e s=>match e with|.normal=>next s|e=>k e s) zdP
def z4k (id : Nat) (k : KO R) : KO R := (fun _ : Program → Gl → Env → Nat → FS → Code → Hint → List Nat → List Nat → ASt → (ASt → Option R) → KO R → Option R=>fun e s=>match e with|.exit i=>(match Nat.beq i id with|true=>k .normal s|false=>k (.exit i) s)|e=>k e s) zdP
abbrev zll {α X : Type} (l : List α) (k : List α → X) : X := List.rec (motive := fun _=>(List α → X) → X) (fun k=>k []) (fun a _ ih k=>ih (fun r=>k (a :: r))) l k
theorem zdl {α X : Type} : ∀ (l : List α) (k : List α → X),zll l k = k l
 |[],k=>rfl
 |a :: r,k=>(zdl r (fun r=>k (a :: r)) : zll r (fun r=>k (a :: r)) = k (a :: r))
abbrev zA8 {X : Type} (l : List Oper) (acc : List Nat) (k : List Nat → X) : X := List.rec (motive := fun _=>List Nat → (List Nat → X) → X) (fun acc k=>k acc) (fun o _ ih acc k=>zll (acc ++ [zlU acc o]) fun acc=>ih acc k) l acc k
theorem zm5 {X : Type} : ∀ (l : List Oper) (acc : List Nat) (k : List Nat → X),zA8 l acc k = k (zEu l acc)
 |[],acc,k=>rfl
 |o :: r,acc,k=>by
  show zll (acc ++ [zlU acc o]) (fun acc=>zA8 r acc k) = k (zEu r (acc ++ [zlU acc o]))
  rw [zdl,zm5 r]
abbrev zFm (l : List Oper) (f : Nat → Oper → Bool) (j : Nat) : Bool := List.rec (motive := fun _=>Nat → Bool) (fun _=>true) (fun o _ ih j=>Bool.rec (motive := fun _=>Bool) false (ih (j + 1)) (f j o)) l j
theorem zmG (o : Oper) (r : List Oper) (f : Nat → Oper → Bool) : zE9 (o :: r) f = (f 0 o && zE9 r fun k=>f (k + 1)) := by
 unfold zE9
 rw [List.length_cons,List.range_succ_eq_map,List.all_cons,List.all_map]
 rfl
theorem zpH : ∀ (l : List Oper) (f : Nat → Oper → Bool) (j : Nat),zFm l f j = zE9 l fun k=>f (k + j)
 |[],f,j=>rfl
 |o :: r,f,j=>by
  rw [zmG]
  have := zpH r f (j + 1)
  show Bool.rec (motive := fun _=>Bool) false (zFm r f (j + 1)) (f j o) = _
  rw [this]
  have e : (fun k=>f (k + (j + 1))) = fun k=>f (k + 1 + j) := by funext k;congr 1;omega
  rw [e]
  simp only [Nat.zero_add]
  cases f j o <;> rfl
theorem zv7 (l : List Oper) (f : Nat → Oper → Bool) : zE9 l f = zFm l f 0 := (zpH l f 0).symm
abbrev zCL (ops : List Oper) (A : List Nat) (p : Nat) : Bool := zFD ops p && zFD ops (p + 1) && zFm ops (fun j _=>!((A.getD j 0).testBit (p + 1)) || (A.getD j 0).testBit p) 0
abbrev tailA (kc : KC) (ops : List Oper) (N : Nat) (A : List Nat) : Bool :=
  zFm  ops (fun k o =>
    (match o.dst with
      | some d => decide (d < N) && zFm  ops (fun q oq => q == k || oq.dst != some d) 0
      | none => zDp  kc o.op != 0) &&
    (decide (zDp  kc o.op ≤ 1) || zFm  ops (fun i oi => i == k || zDp  kc oi.op == 0 || (if i < k then (A.getD k 0).testBit i else (A.getD i 0).testBit k)) 0) &&
    (decide (zDp  kc o.op ≠ 1) || zFm  ops (fun i oi => i == k || decide (zDp  kc oi.op ≠ 1) || (if i < k then (A.getD k 0).testBit i || (k == i + 1 && zCL  ops A i) else (A.getD i 0).testBit k || (i == k + 1 && zCL  ops A k))) 0)) 0
abbrev zA1 (ops : List Oper) (A : List Nat) : Bool :=
 zFm ops (fun j o=>(zji o ++ (match o.guard with|some (k,_)=>(z1N ops k).toList|none=>[])).all fun t =>
  (zFm ops (fun k ok=>ok.dst != some t || (A.getD k 0).testBit j) 0) || !(zFm ops (fun k ok=>!(decide (k < j) && ok.dst == some t && (A.getD j 0).testBit k)) 0)) 0
abbrev zzq (kc : KC) (N : Nat) (ops : List Oper) (A : List Nat) : Bool := z1O ops.toArray && tailA kc ops N A && zA1 ops A
theorem zrC (kc : KC) (N : Nat) (ops : List Oper) : zzq kc N ops (zEu ops []) = zjd kc N ops := by
 unfold zjd tailY zqH zEQ
 simp only [zv7]
 rfl
abbrev runQK (P : Program) (G : Gl) (E : Env) (ops : List Oper) (K : ASt → Option R) (l : List Oper) : List Nat → ASt → Option R :=
  List.rec (motive := fun _ => List Nat → ASt → Option R) (fun _ s => K s)
    (fun o _ ih sk s => match o.guard with
        | none => zel   P G E true o.op s fun d _ => ih (skO sk o.dst) ⟨s.H, zDK  s.T o.dst d⟩
        | some (j, want) => match zDD  ops j with
          | none => none
          | some t => zDJ  (sk.contains t) (ih (skN sk o.dst) ⟨s.H, zDK  s.T o.dst UD⟩)
            (ziy   (zcO   s.T t)
              (zDJ  want (zel   P G E true o.op ⟨s.H, (t, V (.bool true)) :: s.T⟩ fun d _ => ih (skO sk o.dst) ⟨s.H, zDK  ((t, V (.bool true)) :: s.T) o.dst d⟩) (ih (skN sk o.dst) ⟨s.H, zDK  ((t, V (.bool true)) :: s.T) o.dst UD⟩))
              (zDJ  want (ih (skN sk o.dst) ⟨s.H, zDK  ((t, V (.bool false)) :: s.T) o.dst UD⟩) (zel   P G E true o.op ⟨s.H, (t, V (.bool false)) :: s.T⟩ fun d _ => ih (skO sk o.dst) ⟨s.H, zDK  ((t, V (.bool false)) :: s.T) o.dst d⟩)))) l
theorem zlf (ops : List Oper) (K : ASt → Option R) (hq : ∀ (k : Nat) (o : Oper),ops[k]? = some o → zDp (kcE E) o.op = 0) : ∀ (l : List Oper) (sk : List Nat) (acc : List (List AObj)) (old : List (Nat × List AObj)) (opn : List OpI) (s : ASt),(∀ o ∈ l,zDp (kcE E) o.op = 0) → (∀ x ∈ acc,x = s.H) → runQK P G E ops K l sk s = runD P G E ops sk acc old opn l s K
 |[],sk,acc,old,opn,s,hl,ha=>rfl
 |o :: r,sk,acc,old,opn,s,hl,ha=>by
  have ih : ∀ sk T,List.rec (motive := fun _=>List Nat → ASt → Option R) _ _ r sk (⟨s.H,T⟩ : ASt) = _ := fun sk T=>zlf ops K hq r sk (acc ++ [s.H]) old opn ⟨s.H,T⟩ (fun o h=>hl o (List.mem_cons_of_mem _ h)) (fun x h=>by
   rcases List.mem_append.1 h with h|h
   ·exact ha x h
   ·exact List.mem_singleton.1 h)
  have h0 : zDp (kcE E) o.op = 0 := hl o (List.mem_cons_self ..)
  have hlo : loI (kcE E) ops (zEu ops []) acc.length = 0 := by
   rcases zbJ (kc := kcE E) ops acc.length with h|⟨q,o',h1,h2,h3,h4,h5⟩
   ·exact h.1
   ·exact absurd (hq q o' h3) h4
  have hH : zEe (kcE E) ops (zEu ops []) (acc ++ [s.H]) acc.length = s.H := by
   unfold zEe
   rw [zcI hq]
   dsimp only
   rw [hlo]
   cases acc with
   |nil=>rfl
   |cons x a=>exact ha x (List.mem_cons_self ..)
  unfold runD
  unfold runQK
  rw [h0,hH]
  dsimp only
  rw [show zd7 (z9i (kcE E) ops (zEu ops []) acc.length) o = none by rw [zcI hq];unfold zd7;rfl]
  dsimp only
  cases hg : o.guard with
   |none =>
    dsimp only
    rw [z5t]
    exact congrArg (zcu P G E true o _) (funext fun d=>funext fun H=>(ih (skO sk o.dst) (zDK s.T o.dst d)).trans (by rw [z0Z]))
   |some g =>
    obtain ⟨j,want⟩ := g
    dsimp only
    rw [zff]
    cases hd : z1N ops j with
    |none=>rfl
    |some t =>
     dsimp only
     cases hc : sk.contains t with
     |true =>
      exact (ih (skN sk o.dst) (zDK s.T o.dst UD)).trans (by rw [z0Z];rfl)
     |false =>
      refine z5i (slotK_eq _ _) ?_ ?_
      ·cases want with
       |true=>exact (z5t true o _ _).trans (congrArg (zcu P G E true o _) (funext fun d=>funext fun H=>(ih (skO sk o.dst) (zDK ((t,V (.bool true)) :: s.T) o.dst d)).trans (by rw [z0Z ⟨s.H,(t,V (.bool true)) :: s.T⟩])))
       |false=>exact (ih (skN sk o.dst) (zDK ((t,V (.bool true)) :: s.T) o.dst UD)).trans (by rw [z0Z ⟨s.H,(t,V (.bool true)) :: s.T⟩])
      ·cases want with
       |true=>exact (ih (skN sk o.dst) (zDK ((t,V (.bool false)) :: s.T) o.dst UD)).trans (by rw [z0Z ⟨s.H,(t,V (.bool false)) :: s.T⟩])
       |false=>exact (z5t true o _ _).trans (congrArg (zcu P G E true o _) (funext fun d=>funext fun H=>(ih (skO sk o.dst) (zDK ((t,V (.bool false)) :: s.T) o.dst d)).trans (by rw [z0Z ⟨s.H,(t,V (.bool false)) :: s.T⟩])))
abbrev zvM (P : Program) (G : Gl) (E : Env) (ops : List Oper) (A : List Nat) (K : ASt → Option R) (s : ASt) : Option R :=
 zDJ (zFm ops (fun _ o=>Nat.beq (zDp (kcE E) o.op) 0) 0) (runQK P G E ops K ops [] s) (runDK P G E ops A K ops [] [] [] [] s)
theorem zsk (ops : List Oper) (K : ASt → Option R) (s : ASt) : zvM P G E ops (zEu ops []) K s = runD P G E ops [] [] [] [] ops s K := by
 unfold zvM
 cases h : zFm ops (fun _ o=>Nat.beq (zDp (kcE E) o.op) 0) 0 with
 |false=>exact zkn ops K ops [] [] [] [] s
 |true =>
  rw [← zv7] at h
  have hq : ∀ (k : Nat) (o : Oper),ops[k]? = some o → zDp (kcE E) o.op = 0 := fun k o ho=>Nat.eq_of_beq_eq_true (z4w h ho)
  exact zlf ops K hq ops [] [] [] [] s (fun o ho=>by obtain ⟨k,hk⟩ := List.getElem?_of_mem ho;exact hq k o hk) (fun x hx=>absurd hx List.not_mem_nil)
abbrev zxl (E : Env) : Bool := List.rec (motive := fun _=>Bool) false (fun p _ ih=>Ent.rec (motive := fun _=>Bool) (fun _=>ih) (fun _=>ih) (fun _=>ih) (fun _=>true) p.2) E
theorem zeh : ∀ (E : Env),zxl E = E.any zAA
 |[]=>rfl
 |(f, .tell g) :: r=>zeh r
 |(f, .keep g) :: r=>zeh r
 |(f, .add g) :: r=>zeh r
 |(f, .pan g) :: r=>rfl
abbrev zFM (l : List Oper) : Bool := List.rec (motive := fun _=>Bool) true (fun o _ ih=>Option.rec (motive := fun _=>Bool) ih (fun _=>false) o.guard) l
theorem zoX : ∀ (l : List Oper),zFM l = l.all zEh
 |[]=>rfl
 |⟨d,op,ty,ps,af,none⟩ :: r=>by
  have := zoX r
  rw [List.all_cons,← this];rfl
 |⟨d,op,ty,ps,af,some g⟩ :: r=>rfl
abbrev zzu (E : Env) (ops : List Oper) : Bool := zDJ (zxl E) (zFM ops) false
theorem zrI (E : Env) (ops : List Oper) : zzu E ops = zFl E ops := by
 unfold zFl
 rw [← zeh,← zoX]
 show zDJ (zxl E) (zFM ops) false = _
 cases zxl E <;> rfl
abbrev zrS (e : Option Ent) (args : List AV) (H : List AObj) (K : AV → List AObj → Option R) (KP : Value → List AObj → Option R) : Option R :=
 match e with
 |some (.pan g)=>zFG (g args H) K KP
 |some (.tell g)=>z3o (g args) args fun X=>K X H
 |some (.keep g)=>zaG (g args H) K
 |some (.add g)=>zDu (g args H.length) H K
 |none=>none
theorem zod (e : Option Ent) (args : List AV) (H : List AObj) (K : AV → List AObj → Option R) (KP : Value → List AObj → Option R) : zrS e args H K KP = zjh e args H K KP := by
 rcases e with _|(_|_|_|_) <;> rfl
abbrev zss (P : Program) (G : Gl) (E : Env) (o : Op) (s : ASt) (K : AV → List AObj → Option R) (KP : Value → List AObj → Option R) : Option R :=
 match o with
 |.panic x=>zfv (evK G s.T x) s.H KP
 |.makeInterface t x=>z0q (P.concrete t) (ifE t (evK G s.T x) fun d=>K d s.H)
 |.call { callee := .value (.func f),args := args,argTypes := _ }=>zrS (zpc E f) (zDo (ro s.H) (zDo (evK G s.T) args.toList)) s.H K KP
 |.call { callee := .value (.tmp t),args := args,argTypes := _ }=>zes E (zcO s.T t) (zDo (evK G s.T) args.toList) s.H K KP
 |o=>zel P G E false o s K
theorem znF (o : Oper) (s : ASt) (K : AV → List AObj → Option R) (KP : Value → List AObj → Option R) : zss P G E o.op s K KP = zwN P G E o s K KP := by
 have key := z7e (P := P) (G := G) (E := E) o s K
 obtain ⟨dst,op,ty,pos,af,gd⟩ := o
 have e1 : ∀ T,evK G T = ev G T := fun T=>funext (z4e G T)
 unfold zwN
 unfold zss
 dsimp only at key ⊢
 cases op
 case call c =>
  obtain ⟨cal,⟨args⟩,⟨ts⟩⟩ := c
  cases cal
  case value f =>
   cases f
   case tmp t=>show zes E (zcO s.T t) (zDo (evK G s.T) args) s.H K KP = zes E (get s.T t) (args.map (ev G s.T)) s.H K KP;rw [slotK_eq,z5Z,e1]
   case func f=>show zrS (zpc E f) (zDo (ro s.H) (zDo (evK G s.T) args)) s.H K KP = zjh (zbU E f) ((args.map (ev G s.T)).map (ro s.H)) s.H K KP;rw [findK_eq,z5Z,z5Z,e1,zod]
   all_goals exact key
  case invoke r m=>exact key
  case builtin b=>exact key
 case panic x =>
  show zfv (evK G s.T x) s.H KP = zfv (ev G s.T x) s.H KP
  rw [z4e]
 case makeInterface t x =>
  show z0q (P.concrete t) (ifE t (evK G s.T x) fun d=>K d s.H) = z0q (P.concrete t) (ifE t (ev G s.T x) fun d=>K d s.H)
  rw [z4e]
 all_goals exact key
abbrev runPK (P : Program) (G : Gl) (E : Env) (K : ASt → Option R) (KP : Value → ASt → Option R) (l : List Oper) : ASt → Option R :=
  List.rec (motive := fun _ => ASt → Option R) (fun s => K s)
    (fun o _ ih s => match o.guard with
      | none => zss    P G E o.op s (fun d H => ih ⟨H, zDK  s.T o.dst d⟩) (fun u H => KP u ⟨H, s.T⟩)
      | some _ => none) l
theorem zjQ (K : ASt → Option R) (KP : Value → ASt → Option R) : ∀ (l : List Oper) (s : ASt),runPK P G E K KP l s = zD3 P G E l s K KP
 |[],s=>rfl
 |o :: r,s=>by
  have ih : ∀ s,List.rec (motive := fun _=>ASt → Option R) _ _ r s = _ := fun s=>zjQ K KP r s
  unfold zD3
  unfold runPK
  dsimp only
  cases hg : o.guard with
  |none =>
   dsimp only
   rw [znF]
   congr 1
   funext d H
   exact (ih _).trans (by rw [z0Z])
  |some g=>rfl
abbrev execK (P : Program) (G : Gl) (E : Env) (M : Nat) (N : FS) (c : Code) : Hint → ASt → KO R → Option R :=
  Code.rec (motive := fun _ => Hint → ASt → KO R → Option R)
    (fun h s k => k .normal s)
    (fun id ops draw h s k => zll    ops.toList fun l => zDJ  draw
      (zA8   l [] fun A => zr4   (zzq   (kcE E) N l A) (zvM   P G E l A (fun s => k .normal s) s))
      (zr4   (zEE  N l) (zDJ  (zzu   E l) (runPK P G E (fun s => k .normal s) (fun u s => k (.panic (pch u)) s) l s) (runK P G E false l (fun s => k .normal s) l [] s))))
    (fun a b iha ihb h s k => iha h.l s (fun e s' => match e with | .normal => Option.rec (motive := fun _ => Option R) (ihb h.r s' k) (fun L => z3n   P G E M N b h.r (ghK h.gho ⟨s'.H, z8x    L s'.T⟩) k) h.J | e => k e s'))
    (fun c x y ihx ihy h s k => ziy   (evK G s.T c) (ihx h.l ⟨s.H, zFh  c true s.T⟩ k) (ihy h.r ⟨s.H, zFh  c false s.T⟩ k))
    (fun id c ih h s k => ih h.c s (fun e s' => match e with | .exit i => (zDJ  (Nat.beq i id) (k .normal s') (k (.exit i) s')) | e => k e s'))
    (fun c ih h s k => zyb   (fun s => zc7   M (zdP   P G E M N c h.c h.L h.Lo) ⟨s.H, z8x    h.L s.T⟩ k) h.rows s)
    (fun _ _ _ _ _ _ _ _ _ => none)
    (fun id h s k => k (.exit id) s)
    (fun _ _ _ _ _ => none)
    (fun _ _ _ _ => none)
    (fun _ _ _ _ => none)
    (fun h s k => k .ret s)
    (fun _ _ _ _ => none) c
theorem z2O : ∀ (c : Code) (h : Hint) (s : ASt) (k : KO R),execK P G E M N c h s k = zF9 P G E M N c h s k
 |.skip,h,s,k=>rfl
 |.region id ops draw,h,s,k=>by
  refine (zdl ops.toList _).trans ?_
  cases draw with
  |true =>
   refine (zm5 ops.toList [] fun A=>zr4 (zzq (kcE E) N ops.toList A) (zvM P G E ops.toList A (fun s=>k .normal s) s)).trans ?_
   rw [zrC]
   show zr4 (zjd (kcE E) N ops.toList) (zvM P G E ops.toList (zEu ops.toList []) (fun s=>k .normal s) s) = z0q _ _
   rw [zgt,zsk]
  |false =>
   show zr4 _ (zDJ (zzu E ops.toList) (runPK P G E (fun s=>k .normal s) (fun u s=>k (.panic (pch u)) s) ops.toList s) (runK P G E false ops.toList (fun s=>k .normal s) ops.toList [] s)) = z0q _ _
   rw [zgt,zpu,zjQ,zrI]
   cases zFl E ops.toList <;> rfl
 |.seq a b,h,s,k=>by
  show execK P G E M N a h.l s _ = zF9 P G E M N a h.l s _
  rw [z2O a]
  congr 1
  funext e s'
  cases e with
  |normal =>
   dsimp only
   cases hj : h.J with
   |none=>rw [Hint.gho_none hj];exact z2O b h.r s' k
   |some L =>
    show zF9 P G E M N b h.r (ghK h.gho ⟨s'.H,z8x L s'.T⟩) k = zF9 P G E M N b h.r (ghJ h.gho ⟨s'.H,z4S L s'.T⟩) k
    rw [zaP,zA2]
  |exit id=>rfl
  |goto l=>rfl
  |ret=>rfl
  |panic ch=>rfl
  |outgrown=>rfl
 |.cond c x y,h,s,k=>by
  show ziy (evK G s.T c) (execK P G E M N x h.l _ k) (execK P G E M N y h.r _ k) = _
  rw [z2O x,z2O y,z4e,zp6,zp6]
  rfl
 |.block id c,h,s,k=>by
  show execK P G E M N c h.c s _ = zF9 P G E M N c h.c s _
  rw [z2O c]
  congr 1
  funext e s'
  cases e with
  |exit i =>
   show zDJ (Nat.beq i id) _ _ = _
   dsimp only
   cases Nat.beq i id <;> rfl
  |normal=>rfl
  |goto l=>rfl
  |ret=>rfl
  |panic ch=>rfl
  |outgrown=>rfl
 |.loop c,h,s,k=>by
  show zyb _ h.rows s = zsQ h.rows s _
  rw [rowsK_eq]
  congr 1
  funext s
  rw [zaP]
  rfl
 |.rangeFunc ..,h,s,k=>rfl
 |.scope _,h,s,k=>rfl
 |.label _,h,s,k=>rfl
 |.goto _,h,s,k=>rfl
 |.refuse _,h,s,k=>rfl
 |.exit id,h,s,k=>rfl
 |.ret,h,s,k=>rfl
theorem z0o (P : Program) (G : Gl) (E : Env) (M : Nat) (N : FS) (c : Code) (h : Hint) (s : ASt) (k : KO R) : z3n P G E M N c h s k = execK P G E M N c h s k := (z2O c h s k).symm
theorem z2v (P : Program) (G : Gl) (E : Env) (M : Nat) (N : FS) (c : Code) (h : Hint) (L Lo : List Nat) (s : ASt) (kc : ASt → Option R) (kx : KO R) : zdP P G E M N c h L Lo s kc kx = execK P G E M N c h s (zqy s.H.length L Lo kc kx) := by
 rw [z2O,zhP];rfl
abbrev zgS (P : Program) (H : List AObj) (T : Tm) (rs : List ResultVar) : (List AV → RO) → RO :=
 List.rec (motive := fun _=>(List AV → RO) → RO) (fun K=>K [])
  (fun r _ ih K=>ResultVar.rec (motive := fun _=>RO) (fun t=>ih fun ds=>K (gt T t :: ds)) (fun b t=>z0l (z0z P t) H (gt T b) fun d=>ih fun ds=>K (d :: ds)) r) rs
theorem z9u {P : Program} {H : List AObj} {T : Tm} : ∀ (rs : List ResultVar) (K : List AV → RO),zgS P H T rs K = zDZ P H T rs K
 |[],K=>rfl
 |.tmp t :: rs,K=>by
  have ih : ∀ K,zgS P H T rs K = _ := fun K=>z9u rs K
  show zgS P H T rs (fun ds=>K (gt T t :: ds)) = zDZ P H T rs (fun ds=>K (get T t :: ds))
  rw [ih,zxv]
 |.cell b t :: rs,K=>by
  have ih : ∀ K,zgS P H T rs K = _ := fun K=>z9u rs K
  show z0l (z0z P t) H (gt T b) (fun d=>zgS P H T rs fun ds=>K (d :: ds)) = z0l (z0z P t) H (get T b) (fun d=>zDZ P H T rs fun ds=>K (d :: ds))
  rw [zxv]
  exact congrArg (z0l _ _ _) (funext fun d=>ih _)
abbrev z69 (P : Program) (rs : List ResultVar) : KO (AV × List AObj) := fun e s=>match e with
 |.normal=>zgS P s.H s.T rs fun ds=>z4l s.H (ro s.H (z2s ds))
 |.ret=>zgS P s.H s.T rs fun ds=>z4l s.H (ro s.H (z2s ds))
 |_=>none
theorem znA (P : Program) (rs : List ResultVar) : z69 P rs = zBB P rs := by
 funext e s
 cases e <;> first|rfl|exact z9u rs _
abbrev zbr (P : Program) (n : Nat) (rs : List ResultVar) : KO (AV × List AObj) := fun e s=>match e with
 |.normal=>zgS P s.H s.T rs fun ds=>z84 n s.H (ro s.H (z2s ds))
 |.ret=>zgS P s.H s.T rs fun ds=>z84 n s.H (ro s.H (z2s ds))
 |_=>none
theorem znj (P : Program) (n : Nat) (rs : List ResultVar) : zbr P n rs = zBa P n rs := by
 funext e s
 cases e <;> first|rfl|exact z9u rs _
theorem zhg (P : Program) (G : Gl) (E : Env) (M : Nat) (N : FS) (c : Code) (h : Hint) (s : ASt) (rs : List ResultVar) : zF9 P G E M N c h s (z69 P rs) = execK P G E M N c h s (z69 P rs) := (z2O c h s _).symm
theorem zsU (P : Program) (G : Gl) (E : Env) (M : Nat) (N : FS) (n : Nat) (c : Code) (h : Hint) (s : ASt) (rs : List ResultVar) : zF9 P G E M N c h s (zbr P n rs) = execK P G E M N c h s (zbr P n rs) := (z2O c h s _).symm
theorem z2A {G : Gl} {E : Env} {M : Nat} {P : Program} {N : Nat} (hm : P.follows .mixedOrders = true) (hE : z9t P G E) {f : FuncId} {fn : Func} {c : Code} {args : List AV} (hf : P.funcs[f]? = some fn) (hb : fn.body = some c) (hc : z5e P f = true) (rs : List ResultVar) (hrs : fn.results.toList = rs) (hN : fn.ntmps = N) (hargs : args.length ≤ N) (h : Hint)
  {X : AV} {H' : List AObj} (hx : zF9 P G E M (F0 N) c h ⟨[],z2t 0 args⟩ (z69 P rs) = some (X,H')) : ACp P G f args X :=
 zus hm hE hf hb hc rs hrs hN hargs h (by rw [← znA];exact hx)
theorem z7O {G : Gl} {E : Env} {M : Nat} {P : Program} {N : Nat} {H : List AObj} (hm : P.follows .mixedOrders = true) (hE : z9t P G E) {f : FuncId} {fn : Func} {c : Code} {args : List AV} (hf : P.funcs[f]? = some fn) (hb : fn.body = some c) (hc : z5e P f = true) (rs : List ResultVar) (hrs : fn.results.toList = rs) (hN : fn.ntmps = N) (hargs : args.length ≤ N) (h : Hint)
  {X : AV} {H' : List AObj} (hx : zF9 P G E M (F0 N) c h ⟨H,z2t 0 args⟩ (zbr P H.length rs) = some (X,H')) : AC P G f args H (Is X H') :=
 zuY hm hE hf hb hc rs hrs hN hargs h (by rw [← znj];exact hx)
end
end Go.Proofs.YtaplemeamcgpkaaDoor

namespace Go.Proofs.YtaplemeamcgpkaaDoor
open Go.RowKit
section
variable {P : Program} {G : Gl} {E : Env} {M n : Nat} {H : List AObj}
theorem zmK {f : FuncId} {fn : Func} {c : Code} {args : List AV} {R : AV → List AObj → Prop} (hf : P.funcs[f]? = some fn) (hb : fn.body = some c) (hc : z5e P f = true) (rs : List ResultVar) (hrs : fn.results.toList = rs) (N : Nat) (hN : fn.ntmps = N) (hargs : args.length ≤ N)
  (h : AWp P G (F0 N) H.length c (fun e s=>zDQ P rs H.length R e s ∨ ∃ u H',e = .panic (pch u) ∧ HLe s.H H' ∧ H'.all (ltO H'.length) = true ∧ H.length ≤ H'.length ∧ R (PN u) H') ⟨H,z2t 0 args⟩) : ACx P G f args H R := by
 subst hN
 refine ⟨hc,fun w S μ vs hr hg hl hv=>?_⟩
 refine calls_of_wp hf hb ?_
 have hfr : Fr S μ (F0 fn.ntmps) (z2t 0 args) { tmps := vs.toArray ++ Array.replicate (fn.ntmps - vs.toArray.size) undef,defers := [] } := by
  refine ⟨by simp;omega,rfl,fun i=>?_⟩
  rw [z8U]
  simp only [Nat.zero_le,if_true,Nat.sub_zero]
  cases hd : args[i]? with
  |none=>trivial
  |some d =>
   have hi : i < vs.length := by rw [hl];exact (List.getElem?_eq_some_iff.1 hd).1
   have := hv i d vs[i] hd (List.getElem?_eq_getElem hi)
   simp only [Option.getD_some]
   have e : (vs.toArray ++ Array.replicate (fn.ntmps - vs.toArray.size) undef).getD i undef = vs[i] := by
    rw [Array.getD_eq_getD_getElem?,Array.getElem?_append_left (by simpa using hi)]
    simp [hi]
   rw [e];exact this
 refine wp_mono (h w S μ _ hr hfr hg) ?_
 rintro e a' w' ⟨s',S',μ',hq,hr',hf',hst⟩
 have fin : (zCE P s'.H s'.T rs fun ds=>∃ X H',(X = z2s ds ∨ X = ro s'.H (z2s ds)) ∧ HLe s'.H H' ∧ H'.all (ltO H'.length) = true ∧ H.length ≤ H'.length ∧ ltT H'.length X = true ∧ R X H') → a'.defers = [] ∧ ∃ v,(results fn a'.tmps).run P w' = .ok v w' ∧ (zns w S μ H R (.returned v) w' ∨ zCP w S μ H R (.returned v) w') := by
  intro hK
  obtain ⟨v,r,hrun,hrep,X,H',hX,hle,hlt,hn,hltX,hR⟩ := z4f (K := fun r=>∃ X H',(X = r ∨ X = ro s'.H r) ∧ HLe s'.H H' ∧ H'.all (ltO H'.length) = true ∧ H.length ≤ H'.length ∧ ltT H'.length X = true ∧ R X H') hrs hr' hf' hK
  have hrepX : rep S' μ' X v := by
   rcases hX with rfl|rfl
   ·exact hrep
   ·exact hrep.toRo hr'
  refine ⟨hf'.nodef,v,hrun, .inl ⟨v,X,H',S',μ'.take H'.length,rfl,hR,hr'.le hle hlt,hrepX.take hltX,hst.trans ⟨rfl,rfl,rfl,Nat.le_refl _,fun _ _ _=>rfl,fun _ _ _ h=>h,fun i x hi hx=>⟨x,by rw [List.getElem?_take,if_pos (by omega)];exact hx, .inl rfl⟩,fun _ _ _ h _=>.inl h,fun _ k _=>hle.own k⟩⟩⟩
 cases e with
 |normal=>exact fin (hq.resolve_right (by rintro ⟨u,H',q,_⟩;cases q))
 |ret=>exact fin (hq.resolve_right (by rintro ⟨u,H',q,_⟩;cases q))
 |exit id=>exact hq.elim (fun q=>q.elim) (by rintro ⟨u,H',q,_⟩;cases q)
 |goto l=>exact hq.elim (fun q=>q.elim) (by rintro ⟨u,H',q,_⟩;cases q)
 |panic ch =>
  rcases hq with q|⟨u,H',q,hle,hlt,hn,hR⟩
  ·exact q.elim
  ·injection q with q
   subst q
   exact ⟨hf'.nodef, .inr ⟨u,H',S',μ'.take H'.length,rfl,hR,hr'.le hle hlt,hst.trans ⟨rfl,rfl,rfl,Nat.le_refl _,fun _ _ _=>rfl,fun _ _ _ h=>h,fun i x hi hx=>⟨x,by rw [List.getElem?_take,if_pos (by omega)];exact hx, .inl rfl⟩,fun _ _ _ h _=>.inl h,fun _ k _=>hle.own k⟩⟩⟩
 |outgrown=>exact hq.elim (fun q=>q.elim) (by rintro ⟨u,H',q,_⟩;cases q)
theorem HLe.refl : ∀ (H : List AObj),HLe H H
 |[]=>trivial
 |o :: r=>⟨.inl rfl,HLe.refl r⟩
def zzU (n : Nat) (H : List AObj) (u : Value) : RO := z0q (decide (n ≤ H.length) && (H.take n).all (ltO n)) (some (PN u,H.take n))
abbrev chE (ch : List PanicEntry) (K : Value → RO) : RO := match ch with|[⟨u,false,false⟩]=>K u|_=>none
theorem zg3 {ch : List PanicEntry} {K : Value → RO} {r : AV × List AObj} (h : chE ch K = some r) : ∃ u,ch = pch u ∧ K u = some r := by
 unfold chE at h
 split at h
 ·exact ⟨_,rfl,h⟩
 ·cases h
abbrev zyo (P : Program) (n : Nat) (rs : List ResultVar) : KO (AV × List AObj) := fun e s=>match e with
 |.normal=>zgS P s.H s.T rs fun ds=>z84 n s.H (ro s.H (z2s ds))
 |.ret=>zgS P s.H s.T rs fun ds=>z84 n s.H (ro s.H (z2s ds))
 |.panic ch=>chE ch fun u=>zzU n s.H u
 |_=>none
theorem panX (P : Program) (G : Gl) (E : Env) (M : Nat) (N : FS) (n : Nat) (c : Code) (h : Hint) (s : ASt) (rs : List ResultVar) : zF9 P G E M N c h s (zyo P n rs) = execK P G E M N c h s (zyo P n rs) := (z2O c h s _).symm
theorem zzB {N : Nat} (hm : P.follows .mixedOrders = true) (hE : z9t P G E) {f : FuncId} {fn : Func} {c : Code} {args : List AV} (hf : P.funcs[f]? = some fn) (hb : fn.body = some c) (hc : z5e P f = true) (rs : List ResultVar) (hrs : fn.results.toList = rs) (hN : fn.ntmps = N) (hargs : args.length ≤ N) (h : Hint)
  {X : AV} {H' : List AObj} (hx : zF9 P G E M (F0 N) c h ⟨H,z2t 0 args⟩ (zyo P H.length rs) = some (X,H')) : ACx P G f args H (Is X H') := by
 have key := z3e (n := H.length) hm hE c h ⟨H,z2t 0 args⟩ _ (Nat.le_refl _) hx
 have fin : ∀ s : ASt,(zgS P s.H s.T rs fun ds=>z84 H.length s.H (ro s.H (z2s ds))) = some (X,H') →
   zCE P s.H s.T rs fun ds=>∃ X' H'',(X' = z2s ds ∨ X' = ro s.H (z2s ds)) ∧ HLe s.H H'' ∧ H''.all (ltO H''.length) = true ∧ H.length ≤ H''.length ∧ ltT H''.length X' = true ∧ Is X H' X' H'' := by
  intro s q
  rw [z9u] at q
  refine z1Q (fun ds w=>?_) (zd3 q)
  obtain ⟨h1,h2⟩ := z04 w
  simp only [Bool.and_eq_true,decide_eq_true_eq] at h1
  have hl : (s.H.take H.length).length = H.length := by rw [List.length_take];omega
  cases h2
  exact ⟨_,_, .inr rfl,HLe.take _ _,by rw [hl];exact h1.1.2,by rw [hl];exact Nat.le_refl _,by rw [hl];exact h1.2,rfl,rfl⟩
 refine zmK hf hb hc rs hrs N hN hargs (AWp.mono key fun e s q=>?_)
 cases e with
 |normal=>exact .inl (fin s q)
 |ret=>exact .inl (fin s q)
 |exit id=>cases q
 |goto l=>cases q
 |panic ch =>
  obtain ⟨u,rfl,q⟩ := zg3 q
  obtain ⟨h1,h2⟩ := z04 q
  simp only [Bool.and_eq_true,decide_eq_true_eq] at h1
  have hl : (s.H.take H.length).length = H.length := by rw [List.length_take];omega
  injection h2 with h2
  injection h2 with h3 h4
  subst h3 h4
  exact .inr ⟨u,_,rfl,HLe.take _ _,by rw [hl];exact h1.2,by rw [hl];exact Nat.le_refl _,rfl,rfl⟩
 |outgrown=>cases q
def zvK (H : List AObj) (X : AV) : RO := z0q (H.all (ltO H.length) && ltT H.length X) (some (X,H))
abbrev znX (P : Program) (n : Nat) (rs : List ResultVar) : KO (AV × List AObj) := fun e s=>match e with
 |.normal=>zgS P s.H s.T rs fun ds=>zvK s.H (ro s.H (z2s ds))
 |.ret=>zgS P s.H s.T rs fun ds=>zvK s.H (ro s.H (z2s ds))
 |_=>none
theorem zCg (P : Program) (G : Gl) (E : Env) (M : Nat) (N : FS) (n : Nat) (c : Code) (h : Hint) (s : ASt) (rs : List ResultVar) : zF9 P G E M N c h s (znX P n rs) = execK P G E M N c h s (znX P n rs) := (z2O c h s _).symm
theorem ztZ {N : Nat} (hm : P.follows .mixedOrders = true) (hE : z9t P G E) {f : FuncId} {fn : Func} {c : Code} {args : List AV} (hf : P.funcs[f]? = some fn) (hb : fn.body = some c) (hc : z5e P f = true) (rs : List ResultVar) (hrs : fn.results.toList = rs) (hN : fn.ntmps = N) (hargs : args.length ≤ N) (h : Hint)
  {X : AV} {H' : List AObj} (hx : zF9 P G E M (F0 N) c h ⟨H,z2t 0 args⟩ (znX P n rs) = some (X,H')) : AC P G f args H (Is X H') := by
 have key := AWp.len (z3e (n := H.length) hm hE c h ⟨H,z2t 0 args⟩ _ (Nat.le_refl _) hx) (Nat.le_refl _)
 have fin : ∀ s : ASt,(zgS P s.H s.T rs fun ds=>zvK s.H (ro s.H (z2s ds))) = some (X,H') → H.length ≤ s.H.length →
   zCE P s.H s.T rs fun ds=>∃ X' H'',(X' = z2s ds ∨ X' = ro s.H (z2s ds)) ∧ HLe s.H H'' ∧ H''.all (ltO H''.length) = true ∧ H.length ≤ H''.length ∧ ltT H''.length X' = true ∧ Is X H' X' H'' := by
  intro s q hl
  rw [z9u] at q
  refine z1Q (fun ds w=>?_) (zd3 q)
  obtain ⟨h1,h2⟩ := z04 w
  simp only [Bool.and_eq_true] at h1
  cases h2
  exact ⟨_,_, .inr rfl,HLe.refl _,h1.1,hl,h1.2,rfl,rfl⟩
 refine zaR hf hb hc rs hrs N hN hargs (AWp.mono key fun e s q=>?_)
 obtain ⟨q,hl⟩ := q
 cases e with
 |normal=>exact fin s q hl
 |ret=>exact fin s q hl
 |exit id=>cases q
 |goto l=>cases q
 |panic ch=>cases q
 |outgrown=>cases q
def zFO : Nat → Code → Code
 |0,c=>c
 |m + 1, .seq _ b=>zFO m b
 |_ + 1,c=>c
end
def zFT : Nat → Code → Code → Code
 |0,_,t=>t
 |m + 1, .seq a b,t=>.seq a (zFT m b t)
 |_ + 1,c,_=>c
def zzK : Nat → Code → Bool
 |0,_=>true
 |m + 1, .seq _ b=>zzK m b
 |_ + 1,_=>false
section
variable {P : Program} {G : Gl} {N : FS} {n : Nat} {E : Env} {M : Nat} {R : Type}
theorem zg6 (hm : P.follows .mixedOrders = true) (hE : z9t P G E) {r : R} {k : KO R} {Q : Exit → ASt → Prop} : ∀ (m : Nat) (c : Code) (h : Hint) (s : ASt),zzK m c = true → n ≤ s.H.length → zF9 P G E M N (zFT m c .skip) h s k = some r →
  (∀ s',n ≤ s'.H.length → k .normal s' = some r → AWp P G N n (zFO m c) Q s') → (∀ e s',e ≠ .normal → k e s' = some r → Q e s') → AWp P G N n c Q s
 |0,c,h,s,hd,hn,hx,hq,he=>hq s hn hx
 |m + 1, .seq a b,h,s,hd,hn,hx,hq,he=>by
  refine zcL (AWp.mono (AWp.len (z3e hm hE a h.l s _ hn hx) hn) fun e s' q=>?_)
  obtain ⟨q,hl⟩ := q
  cases e with
  |normal =>
   have q : zF9 P G E M N (zFT m b .skip) h.r (ghJ h.gho (zxL h.J s')) k = some r := q
   cases hj : h.J with
   |none=>rw [hj] at q;exact zhl h.gho hl (zg6 hm hE m b h.r (ghJ h.gho s') hd (Nat.le_trans hl (zfL _ _)) q hq he)
   |some L=>rw [hj] at q;exact AWp.forget (z79 L s'.T) (zhl (s := ⟨s'.H,z4S L s'.T⟩) h.gho hl (zg6 hm hE m b h.r (ghJ h.gho ⟨s'.H,z4S L s'.T⟩) hd (Nat.le_trans hl (zfL h.gho ⟨s'.H,z4S L s'.T⟩)) q hq he))
  |exit id=>exact he _ _ (by intro q;cases q) q
  |goto l=>exact he _ _ (by intro q;cases q) q
  |ret=>exact he _ _ (by intro q;cases q) q
  |panic ch=>exact he _ _ (by intro q;cases q) q
  |outgrown=>exact he _ _ (by intro q;cases q) q
end
end Go.Proofs.YtaplemeamcgpkaaDoor

namespace Go.Proofs.YtaplemeamcgpkaaDoor
open Go.RowKit
abbrev nA (n : Int) : AV := V (.int .i64 n)
abbrev bA (b : Bool) : AV := V (.bool b)
abbrev sA (s : List UInt8) : AV := V (.string ⟨s.toArray⟩)
section
variable {R : Type} {K : AV → Option R} {ks : Option (List CK)} {isB sl : Bool} {k k' : IntKind} {a b : Int} {A B : Option R} {H : List AObj} {T : Tm} {x y z : AV} {i j n m o : Nat} {cs es : List AV}
theorem zAT : zED ks isB sl .add (V (.int k a)) (V (.int k b)) K = K (V (.int k (k.wrap (a + b)))) := by simp [zED,zFA,z0q]
theorem zB5 : zED ks isB sl .sub (V (.int k a)) (V (.int k b)) K = K (V (.int k (k.wrap (a - b)))) := by simp [zED,zFA,z0q]
theorem zB3 : zED ks isB sl .mul (V (.int k a)) (V (.int k b)) K = K (V (.int k (k.wrap (a * b)))) := by simp [zED,zFA,z0q]
theorem zBm : zED ks isB sl .quo (V (.int k a)) (V (.int k b)) K = z0q (decide (¬ b = 0)) (K (V (.int k (k.wrap (a.tdiv b))))) := by simp [zED,zFA,z0q]
theorem zBE : zED ks isB sl .rem (V (.int k a)) (V (.int k b)) K = z0q (decide (¬ b = 0)) (K (V (.int k (a.tmod b)))) := by simp [zED,zFA,z0q]
theorem zBG : zED ks isB sl .and (V (.int k a)) (V (.int k b)) K = K (V (.int k (bits .and k a b))) := by simp [zED,zFA,z0q]
theorem zFd : zED ks isB sl .or (V (.int k a)) (V (.int k b)) K = K (V (.int k (bits .or k a b))) := by simp [zED,zFA,z0q]
theorem zAY : zED ks isB sl .xor (V (.int k a)) (V (.int k b)) K = K (V (.int k (bits .xor k a b))) := by simp [zED,zFA,z0q]
theorem zlz : zED ks isB sl .andNot (V (.int k a)) (V (.int k b)) K = K (V (.int k (bits .andNot k a b))) := by simp [zED,zFA,z0q]
theorem zB1 : zED ks isB sl .shl (V (.int k a)) (V (.int k' b)) K = z0q (decide (0 ≤ b)) (K (V (.int k (k.wrap (a * 2 ^ (min b.toNat k.bits)))))) := by simp [zED,zFA,z0q]
theorem zBl : zED ks isB sl .shr (V (.int k a)) (V (.int k' b)) K = z0q (decide (0 ≤ b)) (K (V (.int k (a.fdiv (2 ^ (min b.toNat k.bits)))))) := by simp [zED,zFA,z0q]
theorem zAI : zED ks isB sl .eql (V (.int k a)) (V (.int k b)) K = K (V (.bool (decide (a = b)))) := by simp [zED,zFA,z0q]
theorem zAS : zED ks isB sl .neq (V (.int k a)) (V (.int k b)) K = K (V (.bool (!decide (a = b)))) := by simp [zED,zFA,z0q]
theorem zB7 : zED ks isB sl .lss (V (.int k a)) (V (.int k b)) K = K (V (.bool (decide (a < b)))) := by simp [zED,zFA,z0q]
theorem zAK : zED ks isB sl .leq (V (.int k a)) (V (.int k b)) K = K (V (.bool (decide (a ≤ b)))) := by simp [zED,zFA,z0q]
theorem zAH : zED ks isB sl .gtr (V (.int k a)) (V (.int k b)) K = K (V (.bool (decide (b < a)))) := by simp [zED,zFA,z0q]
theorem zBv : zED ks isB sl .geq (V (.int k a)) (V (.int k b)) K = K (V (.bool (decide (b ≤ a)))) := by simp [zED,zFA,z0q]
section
variable {s t : List UInt8}
theorem zv1 : zED ks isB sl .add (V (.string ⟨s.toArray⟩)) (V (.string ⟨t.toArray⟩)) K = z0q (decide ((((s.length + t.length : Nat) : Int)) ≤ 9223372036854775807)) (K (V (.string ⟨(s ++ t).toArray⟩))) := _root_.id rfl
theorem zvD : zED ks isB sl .eql (V (.string ⟨s.toArray⟩)) (V (.string ⟨t.toArray⟩)) K = K (V (.bool (decide (s = t)))) := _root_.id rfl
theorem zvh : zED ks isB sl .neq (V (.string ⟨s.toArray⟩)) (V (.string ⟨t.toArray⟩)) K = K (V (.bool (!decide (s = t)))) := _root_.id rfl
theorem zwR : zED ks isB sl .lss (V (.string ⟨s.toArray⟩)) (V (.string ⟨t.toArray⟩)) K = K (V (.bool (Op.bytesLess s t))) := _root_.id rfl
theorem ztT : zED ks isB sl .leq (V (.string ⟨s.toArray⟩)) (V (.string ⟨t.toArray⟩)) K = K (V (.bool (Op.bytesLess s t || decide (s = t)))) := _root_.id rfl
theorem zuq : zED ks isB sl .gtr (V (.string ⟨s.toArray⟩)) (V (.string ⟨t.toArray⟩)) K = K (V (.bool (!(Op.bytesLess s t || decide (s = t))))) := _root_.id rfl
theorem zvu : zED ks isB sl .geq (V (.string ⟨s.toArray⟩)) (V (.string ⟨t.toArray⟩)) K = K (V (.bool (!Op.bytesLess s t))) := _root_.id rfl
theorem zwJ {isS isL : Bool} : zEU isS isL H (V (.string ⟨s.toArray⟩)) K = z0q isS (K (V (.int .i64 s.length))) := _root_.id rfl
theorem ztB {isS : Bool} {at_ : Option (Nat × Nat)} : zla isS at_ (V (.string ⟨s.toArray⟩)) (V (.int k a)) K = z0q (isS && decide (0 ≤ a) && decide (a < s.length)) (K (V (.int .u8 ((s.getD a.toNat 0).toNat : Int)))) := _root_.id rfl
theorem zw3 {isS : Bool} {st : Option (TypeId × Nat)} {lo hi : Option AV} : zeb isS st H (V (.string ⟨s.toArray⟩)) lo hi K = z0q isS (zCA lo 0 fun l=>zCA hi s.length fun h=>z0q (decide (0 ≤ l) && decide (l ≤ h) && decide (h ≤ s.length)) (K (V (.string ⟨((s.take h.toNat).drop l.toNat).toArray⟩)))) := _root_.id rfl
theorem zpM {isS so ib : Bool} {dk : Option IntKind} {q : ByteArray} : zkv isS dk so ib false (V (.string q)) K = z0q isS (K (V (.string q))) := _root_.id rfl
end
theorem ztp {p q : Bool} : zED ks isB sl .eql (V (.bool p)) (V (.bool q)) K = z0q isB (K (V (.bool (decide (p = q))))) := _root_.id rfl
theorem zwv {p q : Bool} : zED ks isB sl .neq (V (.bool p)) (V (.bool q)) K = z0q isB (K (V (.bool (!decide (p = q))))) := _root_.id rfl
theorem zoP {isS ib it : Bool} : zkv isS (some k) true ib it (V (.int k' a)) K = K (V (.int k (k.wrap a))) := _root_.id rfl
theorem zub {p : Bool} : z0U (V (.bool p)) A B = if p = true then A else B := by cases p <;> rfl
theorem zoS : z0U (V (.bool true)) A B = A := _root_.id rfl
theorem zpW : z0U (V (.bool false)) A B = B := _root_.id rfl
theorem ztR {p : Bool} : unE .not (V (.bool p)) K = K (V (.bool (!p))) := _root_.id rfl
theorem zvY : unE .neg (V (.int k a)) K = K (V (.int k (k.wrap (0 - a)))) := _root_.id rfl
theorem zwq {p : Bool} : zA7 (V (.bool p)) x y K = if p = true then K x else K y := by cases p <;> rfl
theorem zAF {ds : List AV} : zEN (TU ds) i K = zCG ds i K := _root_.id rfl
theorem ztX : zCG (x :: es) 0 K = K x := _root_.id rfl
theorem ztM : zCG (x :: es) (i + 1) K = zCG es i K := _root_.id rfl
theorem zlq {α : Type} {f : α → AV} {l : List α} (h : i < l.length) : zCG (l.map f) i K = K (f l[i]) := by simp [zCG,h]
theorem zqa {q : AObj} {K : AObj → Option R} : z68 (q :: H) 0 K = K q := _root_.id rfl
theorem zpz {q : AObj} {K : AObj → Option R} : z68 (q :: H) (i + 1) K = z68 H i K := _root_.id rfl
theorem zBj : z0l n H (.ptr (.agg cs)) K = z0q (decide (n = cs.length + 2)) (K (.agg cs)) := _root_.id rfl
theorem zBe {v : Value} : z0l n H (.ptr (V v)) K = z0q (decide (n = 1)) (K (V v)) := _root_.id rfl
theorem zBh {sp : List AV} : z0l n H (.ptr (.slice es sp)) K = z0q (decide (n = 1)) (K (.slice es sp)) := _root_.id rfl
theorem zBc : z0l n H (OP i o) K = z68 H i fun ob=>zcc ob fun l=>z2M n l o K := by unfold z0l;rfl
theorem zxu {e : TypeId} {z : Nat} {K : List AV → Option R} : zcc ⟨1,e,z,cs⟩ K = K cs := by unfold zcc;rfl
theorem zAz {e : TypeId} {z : Nat} {K : List AV → Option R} : zcc ⟨4,e,z,cs⟩ K = z0q (decide (0 < cs.length)) (K (zE2 cs)) := by unfold zcc;rfl
theorem zB2 : z2M 1 cs o K = zCG cs o K := _root_.id rfl
theorem zAC : z2M (n + 2) cs o K = z0q (decide (o + n ≤ cs.length)) (K (.agg ((cs.drop o).take n))) := _root_.id rfl
theorem zBk {K : List AObj → Option R} : z0s n H (OP i o) x K = z68 H i fun ob=>zFq ob n o x fun ob'=>K (H.set i ob') := by unfold z0s;rfl
theorem zzn {e : TypeId} {z : Nat} {K : AObj → Option R} : zFq ⟨1,e,z,cs⟩ n o x K = z0q (decide (¬ n = 0) && decide ((cellsOf x).length = zE7 n) && (cellsOf x).all zCU) (z0q (decide (o + zE7 n ≤ cs.length)) (K ⟨1,e,z,z0e cs o (cellsOf x)⟩)) := by unfold zFq;rfl
theorem zAE {e : TypeId} {z : Nat} {K : AObj → Option R} : zFq ⟨4,e,z,cs⟩ n o x K = z0q (decide (¬ n = 0) && decide ((cellsOf x).length = zE7 n) && (cellsOf x).all zCU) (z0q (decide (0 < z) && decide (zE7 n = z) && decide (o % z = 0) && decide (o / z < cs.length)) (K ⟨4,e,z,cs.set (o / z) x⟩)) := by unfold zFq;rfl
theorem zAW {q : Nat} : zcV n H (PR q m) (V (.int k a)) K = z0q (decide (0 ≤ a)) (z0q (decide (a < m)) (z68 H q fun ob=>z0q (decide (ob.k = 4) && decide (ob.z = zE7 n) && decide (m = ob.c.length)) (K (OP q (a.toNat * zE7 n))))) := _root_.id rfl
theorem zws {isS isL : Bool} : zEU isS isL H (PR i m) K = z0q isL (K (V (.int .i64 m))) := _root_.id rfl
theorem zwI {isS isL : Bool} : zEU isS isL H ZV K = z0q isL (K (V (.int .i64 0))) := _root_.id rfl
theorem zAB {K : List AV → Option R} : z5b H ZV K = K [] := _root_.id rfl
theorem zBA : zcV n H ZV (V (.int k a)) K = z0q (decide (0 ≤ a)) (zCG [] a.toNat fun d=>z0q (decide ((cellsOf d).length = zE7 n)) (K (.ptr d))) := _root_.id rfl
theorem zEX : z0b (some (o,n)) (.ptr (.agg cs)) K = z2M n cs o fun d=>K (.ptr d) := _root_.id rfl
theorem zEO : z0b (some (o,n)) (OP i j) K = K (OP i (j + o)) := _root_.id rfl
theorem zDs : zfw (some (o,n)) (.agg cs) K = z2M n cs o K := _root_.id rfl
theorem zBr : zcV n H (SL es) (V (.int k a)) K = z0q (decide (0 ≤ a)) (zCG es a.toNat fun d=>z0q (decide ((cellsOf d).length = zE7 n)) (K (.ptr d))) := _root_.id rfl
theorem zBo : zcV n H (OW i m) (V (.int k a)) K = z0q (decide (0 ≤ a)) (z68 H i fun ob=>z0q (decide (ob.k = 2) && decide (m = ob.c.length)) (zCG ob.c a.toNat fun d=>z0q (decide ((cellsOf d).length = zE7 n)) (K (.ptr d)))) := _root_.id rfl
theorem zAQ : zcV n H (V (.slice none 0 0)) (V (.int k a)) K = z0q (decide (0 ≤ a)) (zCG [] a.toNat fun d=>z0q (decide ((cellsOf d).length = zE7 n)) (K (.ptr d))) := _root_.id rfl
theorem zBp : zbF m n (.ptr (.agg cs)) (V (.int k a)) K = z0q (decide (0 ≤ a) && decide (a < m)) (z2M n cs (a.toNat * zE7 n) fun d=>K (.ptr d)) := _root_.id rfl
theorem zB6 : zbF m n (OP i j) (V (.int k a)) K = z0q (decide (0 ≤ a) && decide (a < m)) (K (OP i (j + a.toNat * zE7 n))) := _root_.id rfl
theorem zAJ {isS : Bool} : zla isS (some (m,n)) (.agg cs) (V (.int k a)) K = z0q (decide (0 ≤ a) && decide (a < m)) (z2M n cs (a.toNat * zE7 n) K) := _root_.id rfl
theorem zuE {isS isL : Bool} : zEU isS isL H (SL es) K = z0q isL (K (V (.int .i64 es.length))) := _root_.id rfl
theorem zvG {isS isL : Bool} : zEU isS isL H (OW i m) K = z0q isL (K (V (.int .i64 m))) := _root_.id rfl
theorem zuy {isS isL : Bool} : zEU isS isL H (V (.slice none 0 0)) K = z0q isL (K (V (.int .i64 0))) := _root_.id rfl
theorem zzC {K : List AV → Option R} : z5b H (SL es) K = K es := _root_.id rfl
theorem zBF {K : List AV → Option R} : z5b H (V (.slice none 0 0)) K = K [] := _root_.id rfl
theorem zBt {K : List AV → Option R} : z5b H (OW i m) K = z68 H i fun ob=>z0q (decide (ob.k = 2) && decide (m = ob.c.length)) (K ob.c) := _root_.id rfl
section
variable {e : TypeId} {K : AV → List AObj → Option R} {K1 : AV → Option R} {lo hi : Option AV} {isS : Bool}
theorem zqI : zF4 (some (e,n)) H ZV y K = z5b H y fun es=>z0q (zjs n es) (z0q (decide (es.length ≤ 34359738368)) (K (OW H.length es.length) (H ++ [⟨2,e,n,es⟩]))) := _root_.id rfl
theorem zta : zF4 (some (e,n)) H (V (.slice none 0 0)) y K = z5b H y fun es=>z0q (zjs n es) (z0q (decide (es.length ≤ 34359738368)) (K (OW H.length es.length) (H ++ [⟨2,e,n,es⟩]))) := _root_.id rfl
theorem zuL : zF4 (some (e,n)) H (OW i m) y K = z5b H y fun es=>z0q (zjs n es) (z68 H i fun ob=>z0q (decide (ob.k = 2) && decide (ob.e = e) && decide (ob.z = n) && decide (m = ob.c.length) && decide (m + es.length ≤ 34359738368)) (K (OW i (m + es.length)) (H.set i { ob with c := ob.c ++ es }))) := _root_.id rfl
theorem zjS {q : ByteArray} {at_ : Option (TypeId × Nat)} : zsv at_ H x (V (.string q)) K = zF4 at_ H x (SL (zFB q)) K := _root_.id rfl
theorem zui {n : Nat} : zjs n es = es.all fun d=>decide ((cellsOf d).length = n) := _root_.id rfl
theorem zw5 : zeb isS (some (e,n)) H (SL es) lo hi K1 = z0q (zjs (zE7 n) es) (zCA lo 0 fun l=>zCA hi es.length fun h=>z0q (decide (0 ≤ l) && decide (l ≤ h) && decide (h ≤ es.length)) (K1 (SL (zD0 es l h)))) := _root_.id rfl
theorem zvH : zeb isS (some (e,n)) H (OW i m) lo hi K1 = z68 H i fun ob=>z0q (decide (ob.k = 2) && decide (m = ob.c.length)) (z0q (zjs (zE7 n) ob.c) (zCA lo 0 fun l=>zCA hi ob.c.length fun h=>z0q (decide (0 ≤ l) && decide (l ≤ h) && decide (h ≤ ob.c.length)) (K1 (SL (zD0 ob.c l h))))) := _root_.id rfl
theorem zuG : zeb isS (some (e,n)) H (V (.slice none 0 0)) lo hi K1 = zCA lo 0 fun l=>zCA hi 0 fun h=>z0q (decide (0 ≤ l) && decide (l ≤ h) && decide (h ≤ 0)) (K1 (SL (zD0 [] l h))) := _root_.id rfl
theorem zq5 : z1G (some cs) e H K = K (OP H.length 0) (H ++ [⟨1,e,0,cs⟩]) := _root_.id rfl
theorem zAN : zE6 e H x K = z0q ((cellsOf x).all zCU) (K (OP H.length 0) (H ++ [⟨1,e,0,cellsOf x⟩])) := _root_.id rfl
theorem zv6 {X : AV} {H' : List AObj} : zaG (some (X,H')) K = K X H' := _root_.id rfl
theorem zwt : zFn (V (.slice none 0 0)) e n H K = K (OW H.length 0) (H ++ [⟨2,e,n,[]⟩]) := _root_.id rfl
theorem zv4 {sp : List AV} : zFn (.slice es sp) e n H K = K (.slice es sp) H := _root_.id rfl
theorem zt7 : zFn (OW i m) e n H K = K (OW i m) H := _root_.id rfl
end
theorem zBd {K : Int → Option R} : zCA none a K = K a := _root_.id rfl
theorem zBb {K : Int → Option R} : zCA (some (V (.int k b))) a K = K b := _root_.id rfl
theorem zwo : zEC (OP i o) K = K (OP i o) := _root_.id rfl
theorem ztg : zEC (.ptr x) K = K (.ptr x) := _root_.id rfl
theorem zuh {X : AV} {H' : List AObj} {args : List AV} : z3o (some (X,H')) args K = z0q (args.all (ltT 0)) (K X) := _root_.id rfl
theorem zoM {X : AV} : z4l H X = cbE (ltT 0 X) (some (X,[])) (zAG H X) := _root_.id rfl
theorem zBu {x y : R} : cbE true x y = x := _root_.id rfl
theorem zBf {x y : R} : cbE false x y = y := _root_.id rfl
theorem zoV {X : AV} : z84 n H X = z0q (decide (n ≤ H.length) && (H.take n).all (ltO n) && ltT n X) (some (X,H.take n)) := _root_.id rfl
section
variable {next : ASt → Option R} {kk kx : KO R} {s : ASt} {e : Exit} {kc : ASt → Option R} {L Lo : List Nat} {Bd : ASt → (ASt → Option R) → KO R → Option R}
theorem zvw : zCu next kk .normal s = next s := _root_.id rfl
theorem ztI : zCu next kk .ret s = kk .ret s := _root_.id rfl
theorem zvq : zCu next kk (.exit i) s = kk (.exit i) s := _root_.id rfl
theorem zvb : z4k j kk .normal s = kk .normal s := _root_.id rfl
theorem ztD : z4k j kk .ret s = kk .ret s := _root_.id rfl
theorem zwg : z4k j kk (.exit i) s = if i = j then kk .normal s else kk (.exit i) s := by
 show (match Nat.beq i j with|true=>kk .normal s|false=>kk (.exit i) s) = _
 by_cases e : i = j
 ·rw [if_pos e,Nat.beq_eq.mpr e]
 ·rw [if_neg e]
  cases hb : Nat.beq i j with
  |false=>rfl
  |true=>exact absurd (Nat.eq_of_beq_eq_true hb) e
theorem zu5 : zoc n L Lo kc kx .normal s = zrf n L s kc := _root_.id rfl
theorem zww : zoc n L Lo kc kx .ret s = kx .ret ⟨s.H,z4S Lo s.T⟩ := _root_.id rfl
theorem ztm : zoc n L Lo kc kx (.exit i) s = kx (.exit i) ⟨s.H,z4S Lo s.T⟩ := _root_.id rfl
theorem zCe : zfV n L Lo kc kx .normal s = zd5 n s.H (z4S L s.T) kc := by rw [zgZ];show zrf n L s kc = _;unfold zrf zd5;rw [zdK]
theorem zBP : zfV n L Lo kc kx .ret s = kx .ret ⟨s.H,z4S Lo s.T⟩ := by rw [zgZ];rfl
theorem zCp : zfV n L Lo kc kx (.exit i) s = kx (.exit i) ⟨s.H,z4S Lo s.T⟩ := by rw [zgZ];rfl
theorem zBx : z4S [] T = [] := _root_.id rfl
theorem zBz : z4S (i :: L) T = (i,get T i) :: z4S L T := _root_.id rfl
theorem zxd {L : Tm} : zd5 n H L kc = z0q (decide (n ≤ H.length) && (H.take n).all (ltO n) && L.all fun p=>ltT n p.2) (kc ⟨H.take n,L⟩) := _root_.id rfl
theorem zv5 : zrf n L s kc = z0q (decide (n ≤ s.H.length) && (s.H.take n).all (ltO n) && L.all fun i=>ltT n (get s.T i)) (kc ⟨s.H.take n,z4S L s.T⟩) := _root_.id rfl
theorem zgi {ι : Type} {kx : KO R} {Bd : ASt → (ASt → Option R) → KO R → Option R} (I : ι → ASt) (M : ι → Nat) (A : ι → Option R) (hs : ∀ i (kc : ASt → Option R),(∀ j,M j < M i → kc (I j) = A j) → Bd (I i) kc kx = A i) (i : ι) {m : Nat} (hm : M i < m) : zc7 m Bd (I i) kx = A i := by
 induction m generalizing i with
 |zero=>omega
 |succ m ih=>exact hs i _ fun j hj=>ih j (by omega)
theorem z65 {ι : Type} {kxr : KO R} {Bd : ASt → (ASt → Option R) → KO R → Option R} (I : ι → ASt) (M : ι → Nat) (A : ι → Option R) (hs : ∀ (kx : KO R),(∀ e s,kx e s = kxr e s) → ∀ i (kc : ASt → Option R),(∀ j,M j < M i → kc (I j) = A j) → Bd (I i) kc kx = A i) (i : ι) {m : Nat} (hm : M i < m) : zc7 m Bd (I i) kxr = A i :=
 zgi I M A (fun i kc h=>hs kxr (fun _ _=>rfl) i kc h) i hm
end
end
attribute [go_sem] zAT zB5 zB3 zBm zBE zBG zFd zAY zlz zB1 zBl zAI zAS zB7 zAK zAH zBv zv1 zvD zvh zwR ztT zuq zvu zwJ ztB zw3 zpM ztp zwv zoP zub zoS zpW ztR zvY zwq zAF ztX ztM zqa zpz zBj zBe zBh zBc zB2 zAC zBk zEX zEO zDs zBr zBo zAQ zBp zB6 zAJ zuE zvG zuy zzC zBF zBt zta zuL zui zw5 zvH zuG zq5 zAN zv6 zwt zv4 zt7 zBd zBb zwo ztg zuh zoM zBu zBf zoV zvw ztI zvq zvb ztD zwg zu5 zww ztm zBx zBz zxd zv5 z5h zpw zxu zAz zzn zAE zAW zws zwI zAB zBA zqI
attribute [go_sem ↓] zAT zB5 zB3 zBm zBE zBG zFd zAY zlz zB1 zBl zAI zAS zB7 zAK zAH zBv zv1 zvD zvh zwR ztT zuq zvu zwJ ztB zw3 zpM ztp zwv zoP zub zoS zpW ztR zvY zwq zAF ztX ztM zqa zpz zBj zBe zBh zBc zB2 zAC zBk zEX zEO zDs zBr zBo zAQ zBp zB6 zAJ zuE zvG zuy zzC zBF zBt zta zuL zui zw5 zvH zuG zq5 zAN zv6 zwt zv4 zt7 zBd zBb zwo ztg zuh zoM zBu zBf zoV zvw ztI zvq zvb ztD zwg zu5 zww ztm zBx zBz zxd zv5 z5h zpw zxu zAz zzn zAE zAW zws zwI zAB zBA zqI
attribute [go_sem] zin zds zxN zyr zxF zyp zsb zg4 zop zix zdZ zea zdR zdn zis znp z7S zmU zFJ zdB zxU zyl zn4 zou z8k zhj zhF zed zdI zmW zic
theorem zuQ {R : Type} {K : AV → Option R} {ks : Option (List CK)} {isB : Bool} {x : AV} {es : List AV} : zED ks isB true .eql (SL (x :: es)) (V (.slice none 0 0)) K = K (V (.bool false)) := _root_.id rfl
theorem zuW {R : Type} {K : AV → Option R} {ks : Option (List CK)} {isB : Bool} {x : AV} {es : List AV} : zED ks isB true .neq (SL (x :: es)) (V (.slice none 0 0)) K = K (V (.bool true)) := _root_.id rfl
theorem zC6 {R : Type} {K : AV → Option R} {k : IntKind} {a b : Int} : mmE true (V (.int k a)) (V (.int k b)) K = K (V (.int k (if b > a then b else a))) := by simp [mmE,z0q]
theorem zBI {R : Type} {K : AV → Option R} {k : IntKind} {a b : Int} : mmE false (V (.int k a)) (V (.int k b)) K = K (V (.int k (if b < a then b else a))) := by simp [mmE,z0q]
theorem u_bs {R : Type} {K : AV → Option R} {e : TypeId} {z : Nat} {d : AV} : z3z (some (e,z)) 1 [(0,d)] K = z0q (decide ((cellsOf d).length = z) && zmt d && decide (z ≤ 16777216)) (K (SL [d])) := by
 simp [z3z,zjs,bsV,List.range,List.range.loop]
theorem p1_V {v : Value} : zmt (V v) = true := _root_.id rfl
theorem zCj {es : List AV} : zmt (SL es) = true := _root_.id rfl
theorem zza {cs : List AV} : zmt (.agg cs) = cs.all fun y=>zCU y && lt1 0 y := _root_.id rfl
section
variable {R : Type} {E : Env} {H : List AObj} {args caps : List AV} {K : AV → List AObj → Option R} {f k z n : Nat} {fn : Fn} {a b : Array Value} {g : List AV → RO} {gk : List AV → List AObj → RO}
theorem zx9 : ro H (V (.func fn a b)) = V (.func fn a b) := _root_.id rfl
theorem ztP : zaK E (V (.func (.func f) #[] #[])) args H K = zfS (zbU E f) (args.map (ro H)) H K := _root_.id rfl
theorem zv9 : zaK E (.slice caps [.held (.inl (.func (.func f) a b)), .held (.inr (.inl (k,z)))]) args H K = zfS (zbU E f) ((caps.take k ++ args ++ caps.drop k).map (ro H)) H K := _root_.id rfl
theorem zuP : zfS (some (.tell g)) args H K = z3o (g args) args fun X=>K X H := _root_.id rfl
theorem ztK : zfS (some (.keep gk)) args H K = zaG (gk args H) K := _root_.id rfl
end
theorem zzZ {α : Type} {l : List α} : (l.all fun _=>true) = true := by simp
attribute [go_sem] zuQ zuW zC6 zBI u_bs p1_V zCj zza zzZ
theorem zBn {R : Type} {d : AV} {K : Option R} : eqE d d K = K := zrr
section
variable {R : Type} {K : AV → List AObj → Option R} {KP : Value → List AObj → Option R} {H H' : List AObj} {K2 : AV → Option R}
theorem zvm {v : Value} : zFG (some (V v,H')) K KP = K (V v) H' := _root_.id rfl
theorem zx5 {cs : List AV} : zFG (some (.agg cs,H')) K KP = K (.agg cs) H' := _root_.id rfl
theorem zuw {es sp : List AV} : zFG (some (.slice es sp,H')) K KP = K (.slice es sp) H' := _root_.id rfl
theorem zwM {ds : List AV} : zFG (some (TU ds,H')) K KP = K (TU ds) H' := _root_.id rfl
theorem zwk {i n : Nat} : zFG (some (OW i n,H')) K KP = K (OW i n) H' := _root_.id rfl
theorem zuv {u : Value} : zFG (some (PN u,H')) K KP = KP u H' := _root_.id rfl
theorem zqb {t : TypeId} {v : Value} : zfv (V (.iface t v)) H KP = KP (.iface t v) H := _root_.id rfl
theorem zAX {t : TypeId} {v : Value} : ifE t (V v) K2 = K2 (V (.iface t v)) := _root_.id rfl
theorem zwm {t : TypeId} {v w : Value} : ifE t (.agg [V v,V w]) K2 = K2 (V (.iface t (.agg #[v,w]))) := _root_.id rfl
theorem zuM {n : Nat} {u : Value} : zzU n H u = z0q (decide (n ≤ H.length) && (H.take n).all (ltO n)) (some (PN u,H.take n)) := _root_.id rfl
theorem zpL {X : AV} : zvK H X = z0q (H.all (ltO H.length) && ltT H.length X) (some (X,H)) := _root_.id rfl
end
attribute [go_sem] zBn zvm zx5 zuw zwM zwk zuv zqb zAX zwm zuM zpL
attribute [go_sem ↓] zvm zx5 zuw zwM zwk zuv zqb zAX zwm
attribute [go_sem] zxv zCe zBP zCp
attribute [go_sem] znz zib zoy ziJ ze0 zoF zxx znV zy4 zhN zxT zaW zmN zhT zol zhZ znG ziH zdN zmy zyi zxi zhM zaU znQ zoI zhB zi3
attribute [go_sem] zE0 zyd znI zye zxp zow zxI zFE zyk znE zxH zxh zmL zEj zy8 zn7 zxt zxG zxQ zoB zoh ze7 znr
end Go.Proofs.YtaplemeamcgpkaaDoor

namespace Go.Proofs.YtaplemeamcgpkaaDoor
open Go.RowKit
section
variable {P : Program} {G : Gl} {ι : Type}
def zDW (A : ι → List AV) (X : ι → AV) (D : ι → Prop) (args : List AV) : RO :=
 open Classical in if h : ∃ i,D i ∧ args = A i then some (X h.choose,[]) else none
theorem z3B {A : ι → List AV} {X : ι → AV} {D : ι → Prop} {f : FuncId} (h : ∀ i,D i → ACp P G f (A i) (X i)) : ∀ args X' H',zDW A X D args = some (X',H') → ACp P G f args X' := by
 intro args X' H' hx
 unfold zDW at hx
 split at hx
 ·rename_i hh
  obtain ⟨h1,h2⟩ := hh.choose_spec
  cases hx
  have h3 := h _ h1
  rwa [← h2] at h3
 ·cases hx
theorem z3A {A : ι → List AV} {X : ι → AV} {D : ι → Prop} (inj : ∀ i j,A i = A j → X i = X j) {i : ι} (hi : D i) : zDW A X D (A i) = some (X i,[]) := by
 have hh : ∃ j,D j ∧ A i = A j := ⟨i,hi,rfl⟩
 unfold zDW
 rw [dif_pos hh]
 rw [inj i _ hh.choose_spec.2]
end
theorem zmp {a b : List UInt8} (h : sA a = sA b) : a = b := by
 injection h with h;injection h with h;injection h with h;injection h with h
 simpa using h
theorem zcd {a b : Int} (h : nA a = nA b) : a = b := by
 injection h with h;injection h with h;injection h with h
theorem zkf {α β : Type} {f : α → β} (hf : ∀ x y,f x = f y → x = y) : ∀ {l m : List α},l.map f = m.map f → l = m
 |[],[],_=>rfl
 |[],y :: m,h=>by cases h
 |x :: l,[],h=>by cases h
 |x :: l,y :: m,h=>by
  injection h with h1 h2
  rw [hf _ _ h1,zkf hf h2]
end Go.Proofs.YtaplemeamcgpkaaDoor

namespace Go.Proofs.YtaplemeamcgpkaaDoor
open Go.RowKit
theorem z7C : (Tryd.prog.info? 5).map (fun i=>(i.zero,i.size,i.bytes)) = some (some (.int .u8 0),1,1) := by kernel_rfl
theorem zCr (n : Nat) (h : n < 256) : n ||| 128 = n % 128 + 128 := by
 rcases (show n / 128 = 0 ∨ n / 128 = 1 from by omega) with h0|h0
 ·rw [Nat.or_comm]
  have := nat_join 7 128 n (by decide) (by omega)
  omega
 ·have hh := nat_join 7 128 (n % 128) (by decide) (by omega)
  have hn : n = 128 ||| (n % 128) := by omega
  rw [Nat.or_comm]
  conv=>lhs;rw [hn]
  rw [← Nat.or_assoc,Nat.or_self,hh]
  omega
theorem zvF (k : Int) (h0 : 0 ≤ k) (h1 : k < 128) : [Value.int .u8 k] = (put k.toNat).map cB := by
 obtain ⟨n,rfl⟩ := Int.eq_ofNat_of_zero_le h0
 rw [Int.toNat_natCast,zkr n (by omega)]
 simp [cB]
 omega
theorem zup (k : Int) (h0 : 0 ≤ k) : Value.int .u8 (bits .or .u8 (k % 256) 128) = cB (UInt8.ofNat (k.toNat % 128 + 128)) := by
 obtain ⟨n,rfl⟩ := Int.eq_ofNat_of_zero_le h0
 have e := u8_or_nat (n % 256) 128 (by omega) (by omega)
 rw [zCr _ (by omega)] at e
 have e2 : ((n % 256 : Nat) : Int) = (n : Int) % 256 := by omega
 rw [e2] at e
 rw [show ((128 : Nat) : Int) = 128 from rfl] at e
 rw [e]
 simp [cB]
 omega
set_option maxHeartbeats 400000 in
theorem zmr (v : Int) (hv0 : 0 ≤ v) (hv : v < 18446744073709551616) (w : World) :
  Calls Tryd.prog 68 #[.int .u64 v] w fun e w'=>∃ g cap,e = .returned (.slice (some ⟨g,0,none⟩) (put v.toNat).length cap) ∧ w'.ownsRow w.heap.size 5 1 (.slice (some ⟨g,0,none⟩) (put v.toNat).length cap) (put v.toNat).length ((put v.toNat).map cB) ∧ Below w.heap.size w w' := by
 go_enter Tryd.func68,Tryd.ntmps68
 go_wp2
 go_loopw [0,3] (fun n o wr=>∃ (k : Int) (xs : List UInt8),0 ≤ k ∧ k < 18446744073709551616 ∧ n = .int .u64 k ∧ wr.ownsRow w.heap.size 5 1 o xs.length (xs.map cB) ∧ Below w.heap.size w wr ∧ xs ++ put k.toNat = put v.toNat) (fun n _ _=>(intOf n).toNat)
 case atStart=>exact ⟨v,[],hv0,hv,rfl,World.ownsRow_nil _ _ _ _,Below.refl _ _,rfl⟩
 case round =>
  obtain ⟨k,xs,hk0,hk1,rfl,hown,hbel,hput⟩ := hrel
  have hlen : xs.length + 1 ≤ 10 := by
   have h1 := congrArg List.length hput
   have h2 := z7x v.toNat (by omega)
   have h3 := zwc k.toNat
   simp only [List.length_append] at h1
   omega
  have HP := zCC hput;clear hput
  have hb := hbel.size
  by_cases hlt : k < 128
  ·go_wp2_with (at_builtin;refine zcB _ rfl (.tmp 14) (.tmp 17) _ rfl w w.heap.size 5 _ _ 1 Tryd.underlying89 z7C rfl (by omega) _ _ _ (.int .u8 k) rfl rfl rfl hown hbel hb (by omega) ?_;intro g cap w1 hown1 hbel1)
   go_ret
   have hl : (put v.toNat).length = xs.length + 1 := by rw [← HP.out,List.length_append,zkr _ (by omega)];rfl
   have hm : (put v.toNat).map cB = xs.map cB ++ [Value.int .u8 k] := by rw [← HP.out,List.map_append,zvF k hk0 hlt]
   rw [hl,hm]
   exact ⟨g,cap,rfl,hown1,hbel1⟩
  ·have hge : 128 ≤ k := by omega
   go_wp2_with (at_builtin;refine zcB _ rfl (.tmp 8) (.tmp 12) _ rfl w w.heap.size 5 _ _ 1 Tryd.underlying89 z7C rfl (by omega) _ _ _ (.int .u8 (bits .or .u8 (k % 256) 128)) rfl rfl rfl hown hbel hb (by omega) ?_;intro g cap w1 hown1 hbel1)
   go_roundw
   case rel =>
    refine ⟨k / 128,xs ++ [UInt8.ofNat (k.toNat % 128 + 128)],by omega,by omega,?_,?_,hbel1,?_⟩
    ·rfl
    ·rw [zup k hk0] at hown1;simpa using hown1
    ·rw [List.append_assoc,← HP.out,zrB k.toNat (by omega),show (k / 128).toNat = k.toNat / 128 from by omega];rfl
   case measure=>simp [intOf];omega
end Go.Proofs.YtaplemeamcgpkaaDoor

namespace Go.Proofs.YtaplemeamcgpkaaDoor
open Go.RowKit
set_option maxHeartbeats 1000000 in
theorem zcM (A : Option Addr) (l : List UInt8) (c : Nat) (w : World) (hb : Bs w A l) (hl : l.length ≤ 34359738368) :
  Calls Tryd.prog 80 #[.slice A l.length c] w fun e w'=>e = .returned (.tuple #[.int .u64 (cut l).1, .int .i64 (cut l).2.1, .int .i64 (cut l).2.2]) ∧ w = w' := by
 go_enter Tryd.func80,Tryd.ntmps80
 go_wp2
 go_step3
 go_wp2
 go_step3
 go_wp2
 go_loop [5,10] (fun v i=>∃ (k V : Nat),k ≤ l.length ∧ k ≤ 9 ∧ V < 128 ^ k ∧ i = .int .i64 k ∧ v = .int .u64 V ∧ zEK V k (zFH k (l.drop k)) = cut l) (fun _ i=>l.length - (intOf i).toNat)
 case atStart=>exact ⟨0,0,Nat.zero_le _,by omega,by simp,rfl,rfl,zo7 l⟩
 case round =>
  obtain ⟨k,V,hk,hk9,hV,rfl,rfl,hcut⟩ := hrel
  have HC := zCC hcut;clear hcut
  by_cases hlt : k < l.length
  ·obtain ⟨b,off,rfl,hbl,hcell⟩ := hb.cell (by omega)
   have hc := hcell k hlt
   clear hcell
   have hd : l.drop k = l[k] :: l.drop (k + 1) := List.drop_eq_getElem_cons hlt
   obtain ⟨d,hd0⟩ : ∃ d : Nat,d = l[k].toNat := ⟨_,rfl⟩
   rw [← hd0] at hc
   have hd1 : d < 256 := by rw [hd0];exact l[k].toNat_lt
   have HD0 := zCC hd0;have HD := zCC hd;clear hd0 hd
   by_cases h9 : k = 9
   ·subst h9
    by_cases h1 : 1 < d
    ·have h1' : (1 : Int) < d := by omega
     have HF := zCC (show cut l = (0,0,8) from by rw [← HC.out,HD.out,zmE _ _ _ rfl (by rw [← HD0.out];exact h1)];rfl)
     go_wp2_with fail
     go_ret3
     rw [HF.out];exact ⟨rfl,rfl⟩
    ·have h1' : ¬ (1 : Int) < d := by omega
     have h2' : ¬ (128 : Int) ≤ d := by omega
     by_cases h0 : d = 0
     ·have HF := zCC (show cut l = (0,0,3) from by rw [← HC.out,HD.out,zi2 _ _ _ (by omega) (by rw [← HD0.out];exact h0)];rfl)
      subst h0
      go_wp2_with fail
      go_ret3
      rw [HF.out];exact ⟨rfl,rfl⟩
     ·have h0' : ((d : Int) == 0) = false := by rw [beq_eq_false_iff_ne];omega
      have HF := zCC (show cut l = (V + d * 128 ^ 9,9 + 1,0) from by rw [← HC.out,HD.out,zaX _ _ _ (by rw [← HD0.out];omega) (by rw [← HD0.out];omega) (by rw [← HD0.out];omega),← HD0.out];rfl)
      go_wp2_with fail
      go_ret3
      rw [HF.out]
      refine ⟨zDy ?_ ?_ ?_,rfl⟩
      ·exact zuC V d hV (by omega)
      ·rfl
      ·rfl
   ·have h9' : ((k : Int) == 9) = false := by rw [beq_eq_false_iff_ne];omega
    have hk8 : k < 9 := by omega
    by_cases h1 : 128 ≤ d
    ·have h1' : (128 : Int) ≤ d := by omega
     have HF := zCC (show zEK (V + d % 128 * 128 ^ k) (k + 1) (zFH (k + 1) (l.drop (k + 1))) = cut l from by rw [← HC.out,HD.out,zmT _ _ _ _ (by omega) (by rw [← HD0.out];exact h1),← HD0.out])
     go_wp2_with fail
     go_round
     case rel =>
      refine ⟨k + 1,V + d % 128 * 128 ^ k,by omega,by omega,zqW V d k hV,by go_num,?_,HF.out⟩
      rw [zs9 V d k (by omega) hV hd1]
     case measure=>simp [intOf];omega
    ·have h2' : ¬ (128 : Int) ≤ d := by omega
     by_cases h0 : d = 0
     ·by_cases hk0 : k = 0
      ·have HF := zCC (show cut l = (0,1,0) from by rw [← HC.out,HD.out,zaX _ _ _ (by rw [← HD0.out];omega) (by rw [← HD0.out];omega) (by rw [← HD0.out];omega),← HD0.out];subst hk0;rw [h0,show V = 0 from by simpa using hV];rfl)
       subst h0
       subst hk0
       rw [Nat.add_zero] at hc
       go_wp2_with fail
       go_ret3
       rw [HF.out]
       refine ⟨zDy ?_ ?_ ?_,rfl⟩
       ·have hV0 : V = 0 := by simpa using hV
        subst hV0
        decide
       ·rfl
       ·rfl
      ·have hk0' : (0 : Int) < k := by omega
       have HF := zCC (show cut l = (0,0,3) from by rw [← HC.out,HD.out,zi2 _ _ _ (by omega) (by rw [← HD0.out];exact h0)];rfl)
       subst h0
       go_wp2_with fail
       go_ret3
       rw [HF.out];exact ⟨rfl,rfl⟩
     ·have h0' : ((d : Int) == 0) = false := by rw [beq_eq_false_iff_ne];omega
      have HF := zCC (show cut l = (V + d * 128 ^ k,k + 1,0) from by rw [← HC.out,HD.out,zaX _ _ _ (by rw [← HD0.out];omega) (by rw [← HD0.out];omega) (by rw [← HD0.out];omega),← HD0.out];rfl)
      go_wp2_with fail
      go_ret3
      rw [HF.out]
      refine ⟨zDy ?_ ?_ ?_,rfl⟩
      ·exact zq4 V d k (by omega) hV hd1
      ·rfl
      ·rfl
  ·have HF := zCC (show cut l = (0,0,2) from by rw [← HC.out,List.drop_eq_nil_of_le (by omega)];rfl)
   go_wp2_with fail
   go_ret3
   rw [HF.out];exact ⟨rfl,rfl⟩
end Go.Proofs.YtaplemeamcgpkaaDoor

namespace Go.Proofs.YtaplemeamcgpkaaDoor
open Go.RowKit
theorem zxf (v : Int) (hv0 : -9223372036854775808 ≤ v) (hv : v < 9223372036854775808) (w : World) :
  Calls Tryd.prog 75 #[.int .i64 v] w fun e w'=>e = .returned (.int .u64 (zig v)) ∧ w = w' := by
 go_enter Tryd.func75,Tryd.ntmps75
 go_wp2_with fail
 go_ret
 refine ⟨zDk ?_,rfl⟩
 exact zvV v hv0 hv
theorem zvT (u : Nat) (hu : u < 18446744073709551616) (w : World) :
  Calls Tryd.prog 95 #[.int .u64 u] w fun e w'=>e = .returned (.int .i64 (zag u)) ∧ w = w' := by
 have hu0 : (0 : Int) ≤ u := by omega
 have hu1 : (u : Int) < 18446744073709551616 := by omega
 go_enter Tryd.func95,Tryd.ntmps95
 go_wp2_with fail
 go_ret
 refine ⟨zDk ?_,rfl⟩
 exact zwf u hu
set_option maxHeartbeats 400000 in
theorem zkF (v : Int) (hv0 : -9223372036854775808 ≤ v) (hv : v < 9223372036854775808) (w : World) :
  Calls Tryd.prog 71 #[.int .i64 v] w (z3p 5 w (put (zig v))) := by
 have hz := zof v hv0 hv
 go_enter Tryd.func71,Tryd.ntmps71
 go_wp2_with (first
  |(go_at_call 75;refine (zxf v hv0 hv _).mono ?_;rintro e w' ⟨rfl,rfl⟩)
  |(go_at_call 68;refine (zmr (zig v) (by omega) (by omega) _).mono ?_;rintro e w1 ⟨g,cap,rfl,hown,hbel⟩))
 go_ret
 exact ⟨_,_,rfl,hown,hbel⟩
set_option maxHeartbeats 400000 in
theorem zeu (A : Option Addr) (l : List UInt8) (c : Nat) (w : World) (hb : Bs w A l) (hl : l.length ≤ 34359738368) :
  Calls Tryd.prog 87 #[.slice A l.length c] w fun e w'=>e = .returned (.tuple #[.int .i64 (zag (cut l).1), .int .i64 (cut l).2.1, .int .i64 (cut l).2.2]) ∧ w = w' := by
 have hc64 := zqA l
 go_enter Tryd.func87,Tryd.ntmps87
 go_wp2_with (first
  |(go_at_call 80;refine (zcM A l c w hb hl).mono ?_;rintro e w' ⟨rfl,rfl⟩)
  |(go_at_call 95;refine (zvT (cut l).1 hc64 _).mono ?_;rintro e w' ⟨rfl,rfl⟩))
 go_ret3
 exact ⟨rfl,rfl⟩
set_option maxHeartbeats 400000 in
theorem zcA (s : List UInt8) (hs : s.length ≤ 255) (w : World) :
  Calls Tryd.prog 67 #[.string ⟨s.toArray⟩] w (z3p 5 w (put s.length ++ s)) := by
 have hp := z7x s.length (by omega)
 go_enter Tryd.func67,Tryd.ntmps67
 go_wp2_with (first
  |(go_at_call 68;refine (zmr s.length (by omega) (by omega) _).mono ?_;rintro e w1 ⟨g,cap,rfl,hown,hbel⟩)
  |(at_builtin;refine zfa _ rfl (.tmp 9) (.tmp 10) _ _ rfl w w.heap.size 5 Tryd.underlying89 Tryd.underlying9 z7C _ _ (put s.length) rfl hown hbel s rfl (by omega) hbel.size ?_;intro A' cap' w2 hown2 hbel2))
 go_ret
 exact z9y (by simp) hown2 hbel2
theorem zvO (w : World) (A : Option Addr) (c : Nat) (l : List UInt8) (hb : Bs w A l) : (_root_.Go.convert 89 9 (.slice A l.length c)).run Tryd.prog w = .ok (.string ⟨l.toArray⟩) w :=
 zfP _ _ 5 Tryd.underlying89 Tryd.underlying5 Tryd.underlying9 w A c l hb
theorem zcD : (Tryd.prog.info? 5).map (·.size) = some 1 := by kernel_rfl
def z07 (l : List UInt8) : List UInt8 × Nat × Nat :=
 if (cut l).2.2 ≠ 0 then ([],0,(cut l).2.2)
 else if 255 < (cut l).1 then ([],0,8)
 else if l.length < (cut l).2.1 + (cut l).1 then ([],0,2)
 else ((l.drop (cut l).2.1).take (cut l).1,(cut l).2.1 + (cut l).1,0)
set_option maxHeartbeats 1000000 in
theorem z2i (A : Option Addr) (l : List UInt8) (c : Nat) (w : World) (hb : Bs w A l) (hl : l.length ≤ 34359738368) (hlc : l.length ≤ c) (hcm : c ≤ 9223372036854775807) :
  Calls Tryd.prog 78 #[.slice A l.length c] w fun e w'=>e = .returned (.tuple #[.string ⟨(z07 l).1.toArray⟩, .int .i64 (z07 l).2.1, .int .i64 (z07 l).2.2]) ∧ w = w' := by
 have hn := zrH l
 have hv := zqA l
 by_cases he : (cut l).2.2 = 0
 ·have he' : (((cut l).2.2 : Int) != 0) = false := by rw [he];rfl
  by_cases hv1 : 255 < (cut l).1
  ·have hv1' : (255 : Int) < ((cut l).1 : Int) := by omega
   have HF := zCC (show z07 l = ([],0,8) from by unfold z07;rw [if_neg (by omega),if_pos hv1])
   have He := zCC he;clear he
   go_enter Tryd.func78,Tryd.ntmps78
   go_wp2_with (go_at_call 80;refine (zcM A l c w hb hl).mono ?_;rintro e w' ⟨rfl,rfl⟩)
   go_ret3
   rw [HF.out];exact ⟨rfl,rfl⟩
  ·have hv1' : ¬ (255 : Int) < ((cut l).1 : Int) := by omega
   by_cases hs : l.length < (cut l).2.1 + (cut l).1
   ·have hs' : ((l.length : Int) - ((cut l).2.1 : Int)) < ((cut l).1 : Int) := by omega
    have HF := zCC (show z07 l = ([],0,2) from by unfold z07;rw [if_neg (by omega),if_neg hv1,if_pos hs])
    have He := zCC he;clear he
    go_enter Tryd.func78,Tryd.ntmps78
    go_wp2_with (go_at_call 80;refine (zcM A l c w hb hl).mono ?_;rintro e w' ⟨rfl,rfl⟩)
    go_ret3
    rw [HF.out];exact ⟨rfl,rfl⟩
   ·have hs' : ¬ ((l.length : Int) - ((cut l).2.1 : Int)) < ((cut l).1 : Int) := by omega
    have HF := zCC (show z07 l = ((l.drop (cut l).2.1).take (cut l).1,(cut l).2.1 + (cut l).1,0) from by unfold z07;rw [if_neg (by omega),if_neg hv1,if_neg hs])
    have He := zCC he;clear he
    have hsl := zu9 Tryd.underlying89 zcD A l.length c (cut l).2.1 ((cut l).2.1 + (cut l).1) (by omega) (by omega) ((cut l).2.1 : Int) (((cut l).2.1 : Int) + ((cut l).1 : Int)) rfl (by omega) w
    rw [show (cut l).2.1 + (cut l).1 - (cut l).2.1 = (cut l).1 from by omega] at hsl
    have hcv := zvO w _ (c - (cut l).2.1) _ (hb.cutA (lo := (cut l).2.1) (n := (cut l).1) (c := c) (by omega) hlc)
    rw [show ((l.drop (cut l).2.1).take (cut l).1).length = (cut l).1 from by simp;omega] at hcv
    go_enter Tryd.func78,Tryd.ntmps78
    go_wp2_with (go_at_call 80;refine (zcM A l c w hb hl).mono ?_;rintro e w' ⟨rfl,rfl⟩)
    go_ret3
    rw [HF.out];exact ⟨rfl,rfl⟩
 ·have he' : (((cut l).2.2 : Int) != 0) = true := by rw [bne_iff_ne];omega
  have HF := zCC (show z07 l = ([],0,(cut l).2.2) from by unfold z07;rw [if_pos he])
  go_enter Tryd.func78,Tryd.ntmps78
  go_wp2_with (go_at_call 80;refine (zcM A l c w hb hl).mono ?_;rintro e w' ⟨rfl,rfl⟩)
  go_ret3
  rw [HF.out];exact ⟨rfl,rfl⟩
end Go.Proofs.YtaplemeamcgpkaaDoor

namespace Go.Proofs.YtaplemeamcgpkaaDoor
open Go.RowKit
end Go.Proofs.YtaplemeamcgpkaaDoor

namespace Go.Proofs.YtaplemeamcgpkaaDoor
open Go.RowKit
end Go.Proofs.YtaplemeamcgpkaaDoor

namespace Go.Proofs.YtaplemeamcgpkaaDoor
open Go.RowKit
end Go.Proofs.YtaplemeamcgpkaaDoor

namespace Go.Proofs.YtaplemeamcgpkaaDoor
open Go.RowKit
theorem gr1 (w : World) (o : Obj) : Below w.heap.size w (w.alloc o) := (Below.refl _ _).alloc (Nat.le_refl _) _
theorem z5a {W w1 : World} (hb : Below W.heap.size W w1) : (∀ b o,b < W.heap.size → w1.cell? ⟨b,o,none⟩ = W.cell? ⟨b,o,none⟩) ∧ (∀ b o,b < W.heap.size → w1.frozen? ⟨b,o,none⟩ = W.frozen? ⟨b,o,none⟩) :=
 ⟨fun b o h=>hb.cell (p := ⟨b,o,none⟩) h,fun b o h=>hb.frozen (p := ⟨b,o,none⟩) h⟩
theorem z0a {a b c : World} (h : Below a.heap.size a b) (k : Below b.heap.size b c) : Below a.heap.size a c := h.trans (k.mono h.size)
set_option maxHeartbeats 2000000 in
theorem z4d (kind i : Int) (s : z0f) (w : World) :
  Calls Tryd.prog 20 #[.agg #[.int .i64 kind, .int .i64 i, .string ⟨s.toArray⟩]] w fun e w'=>e = .returned (.bool (zEn kind i s)) ∧ Below w.heap.size w w' := by
 go_enter Tryd.func20,Tryd.ntmps20
 go_wp2_with fail
 all_goals go_ret
 all_goals (refine ⟨zFt ?_,gr1 _ _⟩;first|(simp_all [zEn];done)|(simp_all [zEn];omega))
end Go.Proofs.YtaplemeamcgpkaaDoor

namespace Go.Proofs.YtaplemeamcgpkaaDoor
open Go.RowKit
theorem z4D : (Tryd.prog.info? 79).map (·.size) = some 5 := by kernel_rfl
theorem zhX (key : z0f) (kind i : Int) (s : z0f) (ver : Int) : z2S ⟨key,kind,i,s,ver⟩ = (zDF key && zEn kind i s && kind != 0 && decide (0 ≤ ver) && decide (ver ≤ 2147483647)) := rfl
set_option maxHeartbeats 2000000 in
theorem z7s (key : z0f) (kind i : Int) (s : z0f) (ver : Int) (w : World) (hS : Sig w) :
  Calls Tryd.prog 60 #[.agg #[.string ⟨key.toArray⟩, .int .i64 kind, .int .i64 i, .string ⟨s.toArray⟩, .int .i64 ver]] w fun e w'=>e = .returned (.bool (z2S ⟨key,kind,i,s,ver⟩)) ∧ Below w.heap.size w w' := by
 rw [zhX]
 have hS1 := hS.below (gr1 w (.cells #[.string ⟨key.toArray⟩, .int .i64 kind, .int .i64 i, .string ⟨s.toArray⟩, .int .i64 ver] 79))
 have HS := zCC hS1
 clear hS1 hS
 go_enter Tryd.func60,Tryd.ntmps60
 go_wp2_with (first
  |(go_at_call 19;refine (zhC key _ HS.out).mono ?_;rintro e w' ⟨rfl,rfl⟩)
  |(go_at_call 20;refine (z4d kind i s _).mono ?_;rintro e w1 ⟨rfl,hb⟩;obtain ⟨hc,hf⟩ := z5a hb))
 all_goals go_ret
 all_goals (refine ⟨zFt ?_,by first|exact gr1 _ _|exact z0a (gr1 _ _) hb⟩;first|(simp_all;done)|(simp_all;omega))
def zlO (l : List Item) : Nat → Option z0f
 |0=>none
 |k + 1=>(l[k]?).map Item.key
theorem znh (l : List Item) (h : ¬ 64 < l.length) : z3m (zlO l 0) 0 (l.drop 0) = chk l := by unfold chk;rw [if_neg h];rfl
theorem zx7 {l : List Item} {k : Nat} (hk : k < l.length) (h : z3m (zlO l k) k (l.drop k) = chk l) (hi : z2S l[k] = false) : chk l = (1,k) := by
 rw [← h,z7N l k hk,hi];rfl
theorem zrc {l : List Item} {k : Nat} (hk : k < l.length) (h : z3m (zlO l k) k (l.drop k) = chk l) (hi : z2S l[k] = true) (h0 : 0 < k) (hp : less (l[k - 1]'(by omega)).key l[k].key = false) : chk l = (3,k) := by
 rw [← h,z7N l k hk,hi]
 obtain ⟨j,rfl⟩ : ∃ j,k = j + 1 := ⟨k - 1,by omega⟩
 simp only [zlO,List.getElem?_eq_getElem (show j < l.length by omega),Option.map_some,Option.getD_some]
 simp only [Nat.add_sub_cancel] at hp
 rw [hp];rfl
theorem zwE {l : List Item} {k : Nat} (hk : k < l.length) (h : z3m (zlO l k) k (l.drop k) = chk l) (hi : z2S l[k] = true) (hp : ∀ h0 : 0 < k,less (l[k - 1]'(by omega)).key l[k].key = true) : z3m (zlO l (k + 1)) (k + 1) (l.drop (k + 1)) = chk l := by
 rw [← h,z7N l k hk,hi]
 have hx : ((zlO l k).map fun q=>!less q l[k].key).getD false = false := by
  cases k with
  |zero=>rfl
  |succ j =>
   have := hp (by omega)
   simp only [Nat.add_sub_cancel] at this
   simp only [zlO,List.getElem?_eq_getElem (show j < l.length by omega),Option.map_some,Option.getD_some,this];rfl
 rw [hx]
 simp only [zlO,List.getElem?_eq_getElem hk,Option.map_some]
 rfl
theorem zwx {l : List Item} {k : Nat} (hk : k = l.length) (h : z3m (zlO l k) k (l.drop k) = chk l) : chk l = (0,0) := by
 subst hk;rw [← h,List.drop_length];rfl
theorem zEz {w wr : World} {b off : Nat} {l : List Item} {k : Nat} (hcell : ∀ i (hi : i < l.length) j u,j < 5 → (Item.cells l[i])[j]? = some u → w.cell? ⟨b,off + i * 5 + j,none⟩ = some u) (hbel : Below w.heap.size w wr) (hbl : b < w.heap.size) (hk : k < l.length) :
   wr.cell? ⟨b,off + k * 5,none⟩ = some (.string ⟨l[k].key.toArray⟩) ∧ wr.cell? ⟨b,off + k * 5 + 1,none⟩ = some (.int .i64 l[k].kind) ∧ wr.cell? ⟨b,off + k * 5 + 2,none⟩ = some (.int .i64 l[k].i) ∧
   wr.cell? ⟨b,off + k * 5 + 3,none⟩ = some (.string ⟨l[k].s.toArray⟩) ∧ wr.cell? ⟨b,off + k * 5 + 4,none⟩ = some (.int .i64 l[k].ver) :=
 ⟨(hbel.cell (p := ⟨b,off + k * 5,none⟩) hbl).trans (hcell k hk 0 _ (by omega) rfl),(hbel.cell (p := ⟨b,off + k * 5 + 1,none⟩) hbl).trans (hcell k hk 1 _ (by omega) rfl),
  (hbel.cell (p := ⟨b,off + k * 5 + 2,none⟩) hbl).trans (hcell k hk 2 _ (by omega) rfl),(hbel.cell (p := ⟨b,off + k * 5 + 3,none⟩) hbl).trans (hcell k hk 3 _ (by omega) rfl),
  (hbel.cell (p := ⟨b,off + k * 5 + 4,none⟩) hbl).trans (hcell k hk 4 _ (by omega) rfl)⟩
set_option maxHeartbeats 4000000 in
theorem zdz (A : Option Addr) (l : List Item) (c : Nat) (w : World) (hS : Sig w) (hF : Fs Item.cells 5 w A l) (hl : l.length ≤ 34359738368) :
  Calls Tryd.prog 41 #[.slice A l.length c] w fun e w'=>e = .returned (.tuple #[.int .i64 (chk l).1, .int .i64 (chk l).2]) ∧ Below w.heap.size w w' := by
 by_cases hn : 64 < l.length
 ·have hn' : (64 : Int) < l.length := by omega
  have HF := zCC (show chk l = (5,64) from by unfold chk;rw [if_pos hn])
  go_enter Tryd.func41,Tryd.ntmps41
  go_wp2_with fail
  go_ret2
  rw [HF.out];exact ⟨rfl,Below.refl _ _⟩
 ·have hn' : ¬ (64 : Int) < l.length := by omega
  have HC0 := zCC (znh l hn)
  have HSg := zCC hS
  clear hS
  go_enter Tryd.func41,Tryd.ntmps41
  go_wp2_with fail
  go_loopw [11] (fun i wr=>∃ k : Nat,k ≤ l.length ∧ i = .int .i64 k ∧ Below w.heap.size w wr ∧ z3m (zlO l k) k (l.drop k) = chk l) (fun i _=>l.length - (intOf i).toNat)
  case atStart=>exact ⟨0,Nat.zero_le _,rfl,Below.refl _ _,HC0.out⟩
  case round =>
   obtain ⟨k,hk,rfl,hbel,hc0⟩ := hrel
   have HC := zCC hc0;clear hc0
   by_cases hlt : k < l.length
   ·have hlt' : (k : Int) < l.length := by omega
    obtain ⟨b,off,rfl,hbl,hcell⟩ := hF.cell (fun _=>rfl) (by omega)
    obtain ⟨c0,c1,c2,c3,c4⟩ := zEz hcell hbel hbl hlt
    have HI := zCC (show ∀ j (hj : j < l.length),z2S l[j] = z2S ⟨l[j].key,l[j].kind,l[j].i,l[j].s,l[j].ver⟩ from fun _ _=>rfl)
    cases hi : z2S l[k] with
    |false =>
     have HF := zCC (zx7 hlt HC.out hi)
     generalize hx : l[k] = x at c0 c1 c2 c3 c4 hi
     obtain ⟨key,kind,i,s,ver⟩ := x
     have HX := zCC hx;clear hx hcell
     go_wp2_with (go_at_call 60;refine (z7s key kind i s ver _ (HSg.out.below (hbel.trans ((gr1 _ _).mono hbel.size)))).mono ?_;rintro e w1 ⟨rfl,hb⟩;obtain ⟨hc,hf⟩ := z5a hb)
     go_ret2
     rw [HF.out];exact ⟨rfl,hbel.trans (((gr1 _ _).mono hbel.size).trans (hb.mono (by simp;have := hbel.size;omega)))⟩
    |true =>
     by_cases hk0 : 0 < k
     ·have hk0' : (0 : Int) < k := by omega
      obtain ⟨d0,d1,d2,d3,d4⟩ := zEz hcell hbel hbl (k := k - 1) (by omega)
      have hbr : b < wr.heap.size := Nat.lt_of_lt_of_le hbl hbel.size
      have hbr1 : b < wr.heap.size + 1 := by omega
      have kix := fun w=>z5K Tryd.underlying22 z4D b off l.length c (k - 1) (by omega) ((k : Int) - 1) (by omega) w
      cases hp : less (l[k - 1]'(by omega)).key l[k].key with
      |false =>
       have HF := zCC (zrc hlt HC.out hi hk0 hp)
       generalize l[k - 1] = y at d0 d1 d2 d3 d4 hp
       generalize hx : l[k] = x at c0 c1 c2 c3 c4 hi hp
       obtain ⟨key,kind,i,s,ver⟩ := x
       obtain ⟨pkey,pkind,pi,ps,pver⟩ := y
       have HX := zCC hx;clear hx hcell d1 d2 d3 d4
       have hle : (Op.bytesLess key pkey || key == pkey) = !less pkey key := z8B key pkey
       rw [hp] at hle
       go_wp2_with (go_at_call 60;refine (z7s key kind i s ver _ (HSg.out.below (hbel.trans ((gr1 _ _).mono hbel.size)))).mono ?_;rintro e w1 ⟨rfl,hb⟩;obtain ⟨hc,hf⟩ := z5a hb)
       have ka : IntKind.i64.wrap ((k : Int) - 1) = (k : Int) - 1 := IntWalk.i64_in _ (by omega)
       go_quiet (fail)
       clear ka
       go_wp2_with fail
       go_ret2
       rw [HF.out];exact ⟨rfl,hbel.trans (((gr1 _ _).mono hbel.size).trans (z0F hb _ |>.mono (by simp;have := hbel.size;omega)))⟩
      |true =>
       have HF := zCC (zwE hlt HC.out hi (fun _=>hp))
       generalize l[k - 1] = y at d0 d1 d2 d3 d4 hp
       generalize hx : l[k] = x at c0 c1 c2 c3 c4 hi hp
       obtain ⟨key,kind,i,s,ver⟩ := x
       obtain ⟨pkey,pkind,pi,ps,pver⟩ := y
       have HX := zCC hx;clear hx hcell d1 d2 d3 d4
       have hle : (Op.bytesLess key pkey || key == pkey) = !less pkey key := z8B key pkey
       rw [hp] at hle
       go_wp2_with (go_at_call 60;refine (z7s key kind i s ver _ (HSg.out.below (hbel.trans ((gr1 _ _).mono hbel.size)))).mono ?_;rintro e w1 ⟨rfl,hb⟩;obtain ⟨hc,hf⟩ := z5a hb)
       have ka : IntKind.i64.wrap ((k : Int) - 1) = (k : Int) - 1 := IntWalk.i64_in _ (by omega)
       go_quiet (fail)
       clear ka
       go_wp2_with fail
       clear hc hf
       exact ⟨⟨k + 1,by omega,by go_num,hbel.trans (((gr1 _ _).mono hbel.size).trans (z0F hb _ |>.mono (by simp;have := hbel.size;omega))),HF.out⟩,by simp [intOf];omega⟩
     ·have hk0' : ¬ (0 : Int) < k := by omega
      have HF := zCC (zwE hlt HC.out hi (fun h=>absurd h hk0))
      generalize hx : l[k] = x at c0 c1 c2 c3 c4 hi
      obtain ⟨key,kind,i,s,ver⟩ := x
      have HX := zCC hx;clear hx hcell
      go_wp2_with (go_at_call 60;refine (z7s key kind i s ver _ (HSg.out.below (hbel.trans ((gr1 _ _).mono hbel.size)))).mono ?_;rintro e w1 ⟨rfl,hb⟩;obtain ⟨hc,hf⟩ := z5a hb)
      go_quiet (fail)
      go_wp2_with fail
      clear hc hf
      exact ⟨⟨k + 1,by omega,by go_num,hbel.trans (((gr1 _ _).mono hbel.size).trans (z0F hb _ |>.mono (by simp;have := hbel.size;omega))),HF.out⟩,by simp [intOf];omega⟩
   ·have hk' : k = l.length := by omega
    have HF := zCC (zwx hk' HC.out)
    go_wp2_with fail
    go_ret2
    rw [HF.out];exact ⟨rfl,hbel⟩
theorem zn0 (l : List Item) : (((chk l).1 : Int) == 0) = z3u l := by
 unfold z3u;rw [Bool.eq_iff_iff];simp
theorem z0G (A : Option Addr) (l : List Item) (c : Nat) (w : World) (hS : Sig w) (hF : Fs Item.cells 5 w A l) (hl : l.length ≤ 34359738368) :
  Calls Tryd.prog 49 #[.slice A l.length c] w fun e w'=>e = .returned (.bool (z3u l)) ∧ Below w.heap.size w w' := by
 have H := zCC (zn0 l)
 go_enter Tryd.func49,Tryd.ntmps49
 go_wp2_with (go_at_call 41;refine (zdz A l c _ hS hF hl).mono ?_;rintro e w1 ⟨rfl,hb⟩)
 go_ret
 exact ⟨zFt H.out,hb⟩
end Go.Proofs.YtaplemeamcgpkaaDoor

namespace Go.Proofs.YtaplemeamcgpkaaDoor
open Go.RowKit
theorem zbY (w : World) (base e size n : Nat) (cs : Array Value) (hb : base ≤ w.heap.size) (hs : cs.size = n * size) (hm : n ≤ maxLen) :
  (w.alloc (.cells cs e)).ownsRow base e size (.slice (some ⟨w.heap.size,0,none⟩) n n) n cs.toList :=
 ⟨by simpa using hs, .inr ⟨w.heap.size,n,cs,rfl,hb,heap_alloc_new w _,Nat.le_refl _,hm,hs,List.take_of_length_le (by simp;omega)⟩⟩
theorem z1c {w w' : World} {base : Nat} {e : TypeId} {size : Nat} {v : Value} {n : Nat} {xs : List Value} (h : w.ownsRow base e size v n xs) (hb : Below w.heap.size w w') : w'.ownsRow base e size v n xs :=
 h.kept (row := none) ⟨hb.os,hb.tape,hb.output,hb.size,fun i hi _=>hb.block i hi⟩ (by cases hv : v.ownBlock <;> simp)
theorem zcX {P : Program} (w : World) {ops : Array Oper} {rest : List Oper} {o : Oper} {a : Act} {Q : Exit → Act → World → Prop} (hgd : o.guard = none) (s x : Operand) (t : TypeId)
  (ho : o.op = .call { callee := .builtin .append,args := #[s,x],argTypes := #[t,t] })
  (w0 : World) (base : Nat) (e te : TypeId) (z : Value) (size bytes : Nat) (ht : P.underlying t = some (.slice e)) (hi : (P.info? e).map (fun i=>(i.zero,i.size,i.bytes)) = some (some z,size,bytes))
  (hzs : z.cells.size = size) (hsz : 0 < size) (hby : bytes ≤ 4096)
  (v : Value) (n : Nat) (xs : List Value) (cs : Array Value) (hs : a.eval s = v) (H : Nat) (hH : w.heap.size = H) (hx : a.eval x = .slice (some ⟨H,0,none⟩) 1 1) (hcs : cs.size = size) (h1 : ∀ u ∈ cs.toList,u.oneCell' = true)
  (hown : w.ownsRow base e size v n xs) (hbel : Below base w0 w) (hbase : base ≤ w.heap.size) (hroom : n + 1 ≤ 34359738368)
  (h : ∀ g cap w',w'.ownsRow base e size (.slice (some ⟨g,0,none⟩) (n + 1) cap) (n + 1) (xs ++ cs.toList) → Below base w0 w' → wpList P ops Q rest (a.put o.dst (.slice (some ⟨g,0,none⟩) (n + 1) cap)) w') :
  wpList P ops Q (o :: rest) a (w.alloc (.cells cs te)) := by
 subst hH
 refine zbu (w.alloc (.cells cs te)) hgd s x t ho w0 base e z size bytes ht hi hzs hsz hby v n xs hs (hown.alloc _) (hbel.alloc hbase _) ⟨w.heap.size,0,none⟩ 1 1 cs.toList hx (by simp [hcs]) (fun j u hj=>?_)
  h1 (by omega) hroom (by simp;omega) ?_
 ·rw [show (⟨w.heap.size,0,none⟩ : Addr).add j = ⟨w.heap.size,j,none⟩ from by unfold Addr.add;split <;> simp_all,(Blk.new w te cs).cell]
  simpa using hj
 intro g cap w' hown' hb' _
 exact h g cap w' hown' hb'
theorem zot {P : Program} (w : World) {o : Oper} {a : Act} {K : Act → World → Prop} {Q : Exit → Act → World → Prop} (s x : Operand) (t : TypeId)
  (ho : o.op = .call { callee := .builtin .append,args := #[s,x],argTypes := #[t,t] })
  (w0 : World) (base : Nat) (e : TypeId) (z : Value) (size bytes : Nat) (ht : P.underlying t = some (.slice e)) (hi : (P.info? e).map (fun i=>(i.zero,i.size,i.bytes)) = some (some z,size,bytes))
  (hzs : z.cells.size = size) (hsz : 0 < size) (hby : bytes ≤ 4096)
  (v : Value) (n : Nat) (xs : List Value) (hs : a.eval s = v) (hown : w.ownsRow base e size v n xs) (hbel : Below base w0 w)
  (A : Option Addr) (m c : Nat) (news : List Value) (hx : a.eval x = .slice A m c) (hr : Rd w A size m news) (h1 : ∀ u ∈ news,u.oneCell' = true) (hroom : n + m ≤ 34359738368) (hbase : base ≤ w.heap.size)
  (h : ∀ A' cap' w',w'.ownsRow base e size (.slice A' (n + m) cap') (n + m) (xs ++ news) → Below base w0 w' → K (a.put o.dst (.slice A' (n + m) cap')) w') : Oper.wp P o a w K Q := by
 obtain ⟨A',cap',w',hrun,h2,h3⟩ := zak w base t o.type e z size bytes ht hi hzs hsz hby v n xs hown A m c news hr h1 hroom hbase
 unfold Oper.wp execOp
 simp only [ho,resolve,invoke,builtin,Sem.run_bind,Sem.run_pure,Result.andThen_ok,List.map_toArray,List.map_cons,List.map_nil,hs,hx,hrun]
 exact h A' cap' w' h2 (hbel.grown h3 hbase fun k hk=>(hown.lt k hk).1)
theorem zcR {P : Program} (w : World) {ops : Array Oper} {o : Oper} {a : Act} {K : Act → World → Prop} {Q : Exit → Act → World → Prop} {E : Prop} (hgd : o.guard = none) (s x : Operand) (t : TypeId)
  (ho : o.op = .call { callee := .builtin .append,args := #[s,x],argTypes := #[t,t] })
  (w0 : World) (base : Nat) (e : TypeId) (z : Value) (size bytes : Nat) (ht : P.underlying t = some (.slice e)) (hi : (P.info? e).map (fun i=>(i.zero,i.size,i.bytes)) = some (some z,size,bytes))
  (hzs : z.cells.size = size) (hsz : 0 < size) (hby : bytes ≤ 4096)
  (v : Value) (n : Nat) (xs : List Value) (hs : a.eval s = v) (hown : w.ownsRow base e size v n xs) (hbel : Below base w0 w)
  (A : Option Addr) (m c : Nat) (news : List Value) (hx : a.eval x = .slice A m c) (hr : Rd w A size m news) (h1 : ∀ u ∈ news,u.oneCell' = true) (hroom : n + m ≤ 34359738368) (hbase : base ≤ w.heap.size)
  (h : ∀ A' cap' w',w'.ownsRow base e size (.slice A' (n + m) cap') (n + m) (xs ++ news) → Below base w0 w' → K (a.put o.dst (.slice A' (n + m) cap')) w') :
  if Region.wanted o (yielded ops a.tmps) = true then Oper.wp P o a w K Q else E := by
 have hw : Region.wanted o (yielded ops a.tmps) = true := by simp [Region.wanted,hgd]
 rw [if_pos hw]
 exact zot w s x t ho w0 base e z size bytes ht hi hzs hsz hby v n xs hs hown hbel A m c news hx hr h1 hroom hbase h
theorem bz {w w1 : World} {o : Obj} (hb : Below (w.alloc o).heap.size (w.alloc o) w1) : w.heap.size < w1.heap.size := by have := hb.size;simp at this;omega
def zFI (kind i : Int) (s : z0f) : z0f := if zEn kind i s then zFS kind i s else []
theorem zun {kind i : Int} {s : z0f} (h : zEn kind i s = false) : zFI kind i s = [] := by unfold zFI;rw [h];rfl
theorem zha {kind i : Int} {s : z0f} (h : zEn kind i s = true) : zFI kind i s = zFS kind i s := by unfold zFI;rw [if_pos h]
theorem zbE {kind i : Int} {s : z0f} (h : zEn kind i s = true) :
  (kind = 0 ∧ i = 0 ∧ s = []) ∨ (kind = 1 ∧ (i = 0 ∨ i = 1) ∧ s = []) ∨ (kind = 2 ∧ s = []) ∨ (kind = 3 ∧ i = 0 ∧ s.length ≤ 64) := by
 unfold zEn at h
 simp only [Bool.or_eq_true,Bool.and_eq_true,beq_iff_eq,List.isEmpty_iff,decide_eq_true_eq] at h
 rcases h with ((⟨⟨h1,h2⟩,h3⟩|⟨⟨h1,h2⟩,h3⟩)|⟨h1,h2⟩)|⟨⟨h1,h2⟩,h3⟩
 ·exact .inl ⟨h1,h2,h3⟩
 ·exact .inr (.inl ⟨h1,h2,h3⟩)
 ·exact .inr (.inr (.inl ⟨h1,h2⟩))
 ·exact .inr (.inr (.inr ⟨h1,h2,h3⟩))
theorem zk6 {t : TypeId} {w w' : World} {d : UInt8} {D : Int} {l : z0f} {A : Option Addr} {c : Nat} (hd : D = (d.toNat : Int)) (hown : w'.ownsRow w.heap.size t 1 (.slice A (1 + l.length) c) (1 + l.length) ([.int .u8 D] ++ l.map cB)) (hb : Below w.heap.size w w') :
  z3p t w (d :: l) (.returned (.slice A (1 + l.length) c)) w' := by
 subst hd
 refine z9y (by simp;omega) ?_ hb
 rw [show (d :: l).length = 1 + l.length from by simp;omega]
 exact hown
theorem zz4 (kind i : Int) (s : z0f) (w : World) (h : zEn kind i s = false) :
  Calls Tryd.prog 59 #[.agg #[.int .i64 kind, .int .i64 i, .string ⟨s.toArray⟩]] w (z3p 5 w (zFI kind i s)) := by
 have HF := zCC (zun h)
 go_enter Tryd.func59,Tryd.ntmps59
 go_wp2_with (go_at_call 20;refine (z4d kind i s _).mono ?_;rintro e w1 ⟨rfl,hb⟩;obtain ⟨hc,hf⟩ := z5a hb;have hz := bz hb)
 go_ret
 rw [HF.out]
 exact ⟨_,_,rfl,World.ownsRow_nil _ _ _ _,z0a (gr1 _ _) hb⟩
theorem zBT (w : World) :
  Calls Tryd.prog 59 #[.agg #[.int .i64 0, .int .i64 0, .string ⟨#[]⟩]] w (z3p 5 w [0]) := by
 have hv : zEn 0 0 [] = true := by decide
 go_enter Tryd.func59,Tryd.ntmps59
 go_wp2_with (go_at_call 20;refine (z4d 0 0 [] _).mono ?_;rintro e w1 ⟨rfl,hb⟩;obtain ⟨hc,hf⟩ := z5a hb;have hz := bz hb)
 go_ret
 have hs := hb.size
 exact ⟨_,_,rfl,zbY w1 _ _ 1 1 #[.int .u8 0] (by simp at hs;omega) rfl (by simp [maxLen]),(z0a (gr1 _ _) hb).alloc (by simp at hs;omega) _⟩
theorem enc_1 (i : Nat) (hi : i ≤ 1) (w : World) :
    Calls Tryd.prog 59 #[.agg #[.int .i64 1, .int .i64 (i : Int), .string ⟨#[]⟩]] w (z3p      5 w [1, UInt8.ofNat i]) := by
  have hv : zEn  1 (i : Int) [] = true := by rcases (show i = 0 ∨ i = 1 by omega) with rfl | rfl <;> decide
  have HC := zCC  (zAZ   i (by omega))
  go_enter Tryd.func59, Tryd.ntmps59
  go_wp2_with (first
    | (go_at_call 20; refine (z4d        1 i [] _).mono ?_; rintro e w1 ⟨rfl, hb⟩; obtain ⟨hc, hf⟩ := z5a   hb; have hz := bz hb)
    | (at_builtin; refine zcX         (w1.alloc (.cells #[.int .u8 1] 5)) rfl (.tmp 15) (.tmp 19) _ rfl w w.heap.size 5 5 _ 1 1 Tryd.underlying89 z7C     rfl (by omega) (by omega) _ 1 [.int .u8 1] #[.int .u8 (i : Int)] (by rfl) (w1.heap.size + 1) (by simp) (by rfl) rfl (by simp [Value.oneCell'])
        (zbY     w1 _ _ 1 1 #[.int .u8 1] (by omega) rfl (by simp [maxLen])) ((z0a         (gr1 _ _) hb).alloc (by omega) _) (by simp; omega) (by omega) ?_; intro g cap w2 hown2 hb2))
  go_ret
  exact ⟨_, _, rfl, by rw [List.map_cons, List.map_cons, HC.out]; exact hown2, hb2⟩
theorem zC9 (i : Int) (h0 : -9223372036854775808 ≤ i) (h1 : i < 9223372036854775808) (w : World) :
  Calls Tryd.prog 59 #[.agg #[.int .i64 2, .int .i64 i, .string ⟨#[]⟩]] w (z3p 5 w (2 :: put (zig i))) := by
 have hv : zEn 2 i [] = true := by simp [zEn]
 have hp := z7x (zig i) (zof i h0 h1)
 go_enter Tryd.func59,Tryd.ntmps59
 go_wp2_with (first
  |(go_at_call 20;refine (z4d 2 i [] _).mono ?_;rintro e w1 ⟨rfl,hb⟩;obtain ⟨hc,hf⟩ := z5a hb;have hz := bz hb;have hown := zbY w1 w.heap.size 5 1 1 #[.int .u8 2] (by omega) rfl (by simp [maxLen]);have hbl := (z0a (gr1 _ _) hb).alloc (Nat.le_of_lt hz) (.cells #[.int .u8 2] 5))
  |(go_at_call 71;refine (zkF i h0 h1 _).mono ?_;rintro e w2 ⟨A2,c2,rfl,hown2,hb2⟩;have hr2 := Rd.of_own hown2;have hown3 := z1c hown hb2;have hbl3 := hbl.trans (hb2.mono hbl.size))
  |(at_builtin;refine z0Q _ rfl (.tmp 23) (.tmp 26) _ rfl w w.heap.size 5 _ 1 1 Tryd.underlying89 z7C rfl (by omega) (by omega) _ 1 [.int .u8 2] (by rfl) hown3 hbl3 _ _ _ _ (by rfl) hr2 (ziO _) (by omega) hbl3.size ?_;intro A4 c4 w4 hown4 hb4))
 go_ret
 exact zk6 rfl hown4 hb4
theorem zC8 (s : z0f) (hs : s.length ≤ 64) (w : World) :
  Calls Tryd.prog 59 #[.agg #[.int .i64 3, .int .i64 0, .string ⟨s.toArray⟩]] w (z3p 5 w (3 :: (put s.length ++ s))) := by
 have hv : zEn 3 0 s = true := by simp [zEn];omega
 have hp := z7x s.length (by omega)
 have hq : (put s.length ++ s).length ≤ 100 := by simp;omega
 have hpt := fun w=>zcA s (by omega) w
 generalize put s.length ++ s = B at hpt hq ⊢
 have HPT := zCC hpt;clear hpt
 go_enter Tryd.func59,Tryd.ntmps59
 go_wp2_with (first
  |(go_at_call 20;refine (z4d 3 0 s _).mono ?_;rintro e w1 ⟨rfl,hb⟩;obtain ⟨hc,hf⟩ := z5a hb;have hz := bz hb;have hown := zbY w1 w.heap.size 5 1 1 #[.int .u8 3] (by omega) rfl (by simp [maxLen]);have hbl := (z0a (gr1 _ _) hb).alloc (Nat.le_of_lt hz) (.cells #[.int .u8 3] 5))
  |(go_at_call 67;refine (HPT.out _).mono ?_;rintro e w2 ⟨A2,c2,rfl,hown2,hb2⟩;have hr2 := Rd.of_own hown2;have hown3 := z1c hown hb2;have hbl3 := hbl.trans (hb2.mono hbl.size))
  |(at_builtin;refine z0Q _ rfl (.tmp 30) (.tmp 33) _ rfl w w.heap.size 5 _ 1 1 Tryd.underlying89 z7C rfl (by omega) (by omega) _ 1 [.int .u8 3] (by rfl) hown3 hbl3 _ _ _ _ (by rfl) hr2 (ziO _) (by omega) hbl3.size ?_;intro A4 c4 w4 hown4 hb4))
 go_ret
 exact zk6 rfl hown4 hb4
theorem zpl (kind i : Int) (s : z0f) (h0 : -9223372036854775808 ≤ i) (h1 : i < 9223372036854775808) (w : World) :
  Calls Tryd.prog 59 #[.agg #[.int .i64 kind, .int .i64 i, .string ⟨s.toArray⟩]] w (z3p 5 w (zFI kind i s)) := by
 cases hv : zEn kind i s with
 |false=>exact zz4 kind i s w hv
 |true =>
  rw [zha hv]
  rcases zbE hv with ⟨rfl,rfl,rfl⟩|⟨rfl,hi,rfl⟩|⟨rfl,rfl⟩|⟨rfl,rfl,hs⟩
  ·exact zBT w
  ·obtain ⟨n,rfl⟩ : ∃ n : Nat,i = n := ⟨i.toNat,by omega⟩
   exact enc_1 n (by omega) w
  ·exact zC9 i h0 h1 w
  ·exact zC8 s hs w
end Go.Proofs.YtaplemeamcgpkaaDoor

namespace Go.Proofs.YtaplemeamcgpkaaDoor
open Go.RowKit
def Item.one (x : Item) : Item := ⟨x.key.take 60,x.kind,x.i,x.s.take 200,x.ver⟩
def zCv (l : List Item) : List Item := (l.take 66).map Item.one
theorem gr2 (w : World) (o p : Obj) : Below w.heap.size w ((w.alloc o).alloc p) := (gr1 _ _).alloc (by simp) _
theorem z3K : (Tryd.prog.info? 79).map (fun i=>(i.zero,i.size,i.bytes)) = some (some (.agg #[.string ⟨#[]⟩, .int .i64 0, .int .i64 0, .string ⟨#[]⟩, .int .i64 0]),5,56) := by kernel_rfl
theorem zse (key : z0f) (kind i : Int) (s : z0f) (ver : Int) : ∀ u ∈ (#[Value.string ⟨key.toArray⟩, .int .i64 kind, .int .i64 i, .string ⟨s.toArray⟩, .int .i64 ver] : Array Value).toList,u.oneCell' = true := by
 intro u hu;simp at hu;rcases hu with rfl|rfl|rfl|rfl|rfl <;> rfl
theorem zkS (l : List Item) (x : Item) : (l ++ [x]).flatMap Item.cells = l.flatMap Item.cells ++ x.cells := by simp
theorem zlZ {α β : Type} (f : α → β) (l : List α) (k : Nat) (h : k < l.length) : (l.take (k + 1)).map f = (l.take k).map f ++ [f l[k]] := by
 rw [List.take_succ_eq_append_getElem h,List.map_append];rfl
end Go.Proofs.YtaplemeamcgpkaaDoor

namespace Go.Proofs.YtaplemeamcgpkaaDoor
open Go.RowKit
theorem run_neq_item (w : World) (k1 : z0f  ) (d1 i1 : Int) (s1 : z0f  ) (v1 : Int) (k2 : z0f  ) (d2 i2 : Int) (s2 : z0f  ) (v2 : Int) :
    (binOp .neq 79 (.agg #[.string ⟨k1.toArray⟩, .int .i64 d1, .int .i64 i1, .string ⟨s1.toArray⟩, .int .i64 v1]) (.agg #[.string ⟨k2.toArray⟩, .int .i64 d2, .int .i64 i2, .string ⟨s2.toArray⟩, .int .i64 v2])).run Tryd.prog w =
      .ok (.bool (!decide ((⟨k1, d1, i1, s1, v1⟩ : Item) = ⟨k2, d2, i2, s2, v2⟩))) w := by
  by_cases h1 : k1 = k2
  · by_cases h2 : d1 = d2
    · by_cases h3 : i1 = i2
      · by_cases h4 : s1 = s2
        · by_cases h5 : v1 = v2
          · subst h1 h2 h3 h4 h5; go_simp
          · have h5' : (v1 == v2) = false := by simpa using h5
            subst h1 h2 h3 h4; go_simp
        · have h4' : (s1 == s2) = false := by simpa using h4
          subst h1 h2 h3; go_simp
      · have h3' : (i1 == i2) = false := by simpa using h3
        subst h1 h2; go_simp
    · have h2' : (d1 == d2) = false := by simpa using h2
      subst h1; go_simp
  · have h1' : (k1 == k2) = false := by simpa using h1
    go_simp
end Go.Proofs.YtaplemeamcgpkaaDoor

namespace Go.Proofs.YtaplemeamcgpkaaDoor
open Go.RowKit
theorem zfM {α : Type} {l : List α} {p : α → Prop} {k : Nat} (hk : k < l.length) (h : ∀ x ∈ l.take k,p x) (h1 : p l[k]) : ∀ x ∈ l.take (k + 1),p x := by
 intro x hx
 rw [List.take_succ_eq_append_getElem hk] at hx
 rcases List.mem_append.1 hx with hx|hx
 ·exact h x hx
 ·simp at hx;rw [hx];exact h1
set_option maxHeartbeats 4000000 in
theorem znS (A : Option Addr) (l : List Item) (c : Nat) (B : Option Addr) (m : List Item) (d : Nat) (w : World) (hA : Fs Item.cells 5 w A l) (hB : Fs Item.cells 5 w B m) (hl : l.length ≤ 34359738368) (hm : m.length ≤ 34359738368) :
  Calls Tryd.prog 40 #[.slice A l.length c, .slice B m.length d] w fun e w'=>e = .returned (.bool (decide (l = m))) ∧ Drew w w' := by
 by_cases hlen : l.length = m.length
 ·have hn : ((l.length : Int) != (m.length : Int)) = false := by simp [hlen]
  have HL := zCC hlen
  have hml : m.length ≤ l.length := by omega
  have hlm : l.length ≤ m.length := by omega
  clear hlen
  go_enter Tryd.func40,Tryd.ntmps40
  go_wp2_with fail
  go_loopw [5] (fun i wr=>∃ k n : Nat,k ≤ l.length ∧ i = .int .i64 k ∧ wr = w.drewN n ∧ l.take k = m.take k) (fun i _=>l.length - (intOf i).toNat)
  case atStart=>exact ⟨0,0,Nat.zero_le _,rfl,rfl,by simp⟩
  case round =>
   obtain ⟨k,n,hk,rfl,rfl,heq⟩ := hrel
   have HE := zCC heq;clear heq
   by_cases hlt : k < l.length
   ·have hlt' : (k : Int) < l.length := by omega
    have hltm : k < m.length := by omega
    have hltm' : (k : Int) < m.length := by omega
    obtain ⟨b,off,rfl,hbl,hcell⟩ := hA.cell (fun _=>rfl) (by omega)
    obtain ⟨c0,c1,c2,c3,c4⟩ := zEz hcell (Below.refl _ _) hbl hlt
    obtain ⟨b',off',rfl,hbl',hcell'⟩ := hB.cell (fun _=>rfl) (by omega)
    obtain ⟨d0,d1,d2,d3,d4⟩ := zEz hcell' (Below.refl _ _) hbl' hltm
    by_cases he : l[k] = m[k]
    ·have HN := zCC (show l.take (k + 1) = m.take (k + 1) from by rw [List.take_succ_eq_append_getElem hlt,List.take_succ_eq_append_getElem hltm,HE.out,he])
     rw [he] at c0 c1 c2 c3 c4
     generalize m[k] = x at c0 c1 c2 c3 c4 d0 d1 d2 d3 d4
     obtain ⟨key,kind,i,s,ver⟩ := x
     clear hcell hcell' he
     go_wp2_with fail
     go_quiet (fail)
     go_wp2_with fail
     exact ⟨⟨k + 1,n + nq,by omega,by go_num,rfl,HN.out⟩,by simp [intOf];omega⟩
    ·have HR := zCC (show decide (l = m) = false from by rw [decide_eq_false_iff_not];rintro rfl;exact he rfl)
     generalize l[k] = y at c0 c1 c2 c3 c4 he
     generalize m[k] = x at d0 d1 d2 d3 d4 he
     obtain ⟨key,kind,i,s,ver⟩ := x
     obtain ⟨key',kind',i',s',ver'⟩ := y
     have hq : ∀ w,(binOp .neq 79 (.agg #[.string ⟨key'.toArray⟩, .int .i64 kind', .int .i64 i', .string ⟨s'.toArray⟩, .int .i64 ver']) (.agg #[.string ⟨key.toArray⟩, .int .i64 kind, .int .i64 i, .string ⟨s.toArray⟩, .int .i64 ver])).run Tryd.prog w = .ok (.bool true) w := fun w=>by
      rw [run_neq_item,decide_eq_false he];rfl
     clear hcell hcell' he
     go_wp2_with fail
     go_quiet (fail)
     go_wp2_with fail
     go_ret
     rw [HR.out];exact ⟨rfl,by first|exact Drew.mk _ _|exact Drew.mk2 _ _ _⟩
   ·have hk' : k = l.length := by omega
    subst hk'
    have HR := zCC (show decide (l = m) = true from by rw [decide_eq_true_iff];have := HE.out;rwa [List.take_length,HL.out,List.take_length] at this)
    go_wp2_with fail
    go_ret
    rw [HR.out];exact ⟨rfl,Drew.mk _ _⟩
 ·have hn : ((l.length : Int) != (m.length : Int)) = true := by rw [bne_iff_ne];omega
  have HR := zCC (show decide (l = m) = false from by rw [decide_eq_false_iff_not];rintro rfl;exact hlen rfl)
  clear hlen
  go_enter Tryd.func40,Tryd.ntmps40
  go_wp2_with fail
  go_ret
  rw [HR.out];exact ⟨rfl,Drew.refl _⟩
end Go.Proofs.YtaplemeamcgpkaaDoor

namespace Go.Proofs.YtaplemeamcgpkaaDoor
open Go.RowKit
theorem zgq {l : List Item} {k : z0f} (h : zCO l k < l.length) : z1M l k = (l[zCO l k].key == k) := by
 unfold z1M;rw [List.getElem?_eq_getElem h];rfl
theorem zlW {l : List Item} {k : z0f} (h : ¬ zCO l k < l.length) : z1M l k = false := by
 unfold z1M;rw [List.getElem?_eq_none (by omega)];rfl
theorem zqR {k : IntKind} {a b : Int} (h : a = b) : Value.int k a = Value.int k b := by rw [h]
theorem Fs.key {w : World} {l : List Item} {b off : Nat} (hcell : ∀ i (hi : i < l.length) j u,j < 5 → (Item.cells l[i])[j]? = some u → w.cell? ⟨b,off + i * 5 + j,none⟩ = some u) {k : Nat} (hk : k < l.length) : w.cell? ⟨b,off + k * 5,none⟩ = some (.string ⟨l[k].key.toArray⟩) := hcell k hk 0 _ (by omega) rfl
set_option maxHeartbeats 4000000 in
theorem z80 (A : Option Addr) (l : List Item) (c : Nat) (q : z0f) (w : World) (hF : Fs Item.cells 5 w A l) (hs : z2G l) (hl : l.length ≤ 34359738368) :
  Calls Tryd.prog 61 #[.slice A l.length c, .string ⟨q.toArray⟩] w fun e w'=>e = .returned (.tuple #[.int .i64 (zCO l q), .bool (z1M l q)]) ∧ Drew w w' := by
 have HS := zCC hs
 clear hs
 have hple := zmi l q
 go_enter Tryd.func61,Tryd.ntmps61
 go_wp2_with fail
 go_step3
 go_wp2_with fail
 go_step3
 go_wp2_with fail
 go_loop [6,7] (fun a b=>∃ lo hi : Nat,lo ≤ zCO l q ∧ zCO l q ≤ hi ∧ hi ≤ l.length ∧ a = .int .i64 lo ∧ b = .int .i64 hi) (fun a b=>(intOf b).toNat - (intOf a).toNat)
 case atStart=>exact ⟨0,l.length,Nat.zero_le _,hple,Nat.le_refl _,rfl,rfl⟩
 case round =>
  obtain ⟨lo,hi,h1,h2,h3,rfl,rfl⟩ := hrel
  by_cases hlt : lo < hi
  ·have hlt' : (lo : Int) < hi := by omega
   obtain ⟨mid,hm⟩ : ∃ mid,mid = (lo + hi) / 2 := ⟨_,rfl⟩
   have hml : mid < l.length := by omega
   obtain ⟨b,off,rfl,hbl,hcell⟩ := hF.cell (fun _=>rfl) (by omega)
   have hc := Fs.key hcell hml
   have hp0 := zbL HS.out q hml
   have kix := fun w=>z5K Tryd.underlying22 z4D b off l.length c mid hml (((lo : Int) + hi) / 2) (by omega) w
   have HM := zCC (show ((lo : Int) + hi) / 2 = (mid : Int) from by omega)
   generalize l[mid].key = key at hc hp0
   have hmid1 : lo ≤ mid := by omega
   have hmid2 : mid < hi := by omega
   clear hcell hm
   by_cases hp : mid < zCO l q
   ·have hb : Op.bytesLess key q = true := by rw [decide_eq_true hp] at hp0;exact hp0
    clear hp0
    go_wp2_with fail
    exact ⟨⟨mid + 1,hi,by omega,h2,h3,zqR (by have := HM.out;omega),rfl⟩,by have := HM.out;simp [intOf];omega⟩
   ·have hb : Op.bytesLess key q = false := by rw [decide_eq_false hp] at hp0;exact hp0
    clear hp0
    go_wp2_with fail
    exact ⟨⟨lo,mid,h1,by omega,by omega,rfl,zqR HM.out⟩,by have := HM.out;simp [intOf];omega⟩
  ·have hlt' : ¬ (lo : Int) < hi := by omega
   obtain rfl : lo = hi := by omega
   obtain rfl : lo = zCO l q := by omega
   by_cases hq : zCO l q < l.length
   ·have hq' : (zCO l q : Int) < l.length := by omega
    obtain ⟨b,off,rfl,hbl,hcell⟩ := hF.cell (fun _=>rfl) (by omega)
    have hc := Fs.key hcell hq
    have HT := zCC (zgq hq)
    generalize hk : l[zCO l q].key = key at hc HT
    clear hcell hk
    go_wp2_with fail
    go_quiet (fail)
    go_wp2_with fail
    rw [Exit.noGoto_ret]
    go_ret2
    rw [HT.out]
    exact ⟨rfl,Drew.mk _ _⟩
   ·have hq' : ¬ (zCO l q : Int) < l.length := by omega
    have HT := zCC (zlW hq)
    go_wp2_with fail
    go_quiet (fail)
    go_wp2_with fail
    rw [Exit.noGoto_ret]
    go_ret2
    rw [HT.out]
    exact ⟨rfl,Drew.mk _ _⟩
theorem zCV {w w1 : World} (h : Below w.heap.size w w1) (u0 u1 u2 u3 u4 : Value) :
  Below w.heap.size w (((((w1.setCell ⟨w.heap.size,0,none⟩ u0).setCell ⟨w.heap.size,1,none⟩ u1).setCell ⟨w.heap.size,2,none⟩ u2).setCell ⟨w.heap.size,3,none⟩ u3).setCell ⟨w.heap.size,4,none⟩ u4) :=
 ((((h.setCell (Nat.le_refl _) _).setCell (Nat.le_refl _) _).setCell (Nat.le_refl _) _).setCell (Nat.le_refl _) _).setCell (Nat.le_refl _) _
def zDY (l : List Item) (q : z0f) : Option Item := if z3u l && z1M l q then l[zCO l q]? else none
def vIt (x : Item) : Value := .agg #[.string ⟨x.key.toArray⟩, .int .i64 x.kind, .int .i64 x.i, .string ⟨x.s.toArray⟩, .int .i64 x.ver]
theorem ztH {l : List Item} {q : z0f} (h : z3u l = false) : zDY l q = none := by unfold zDY;rw [h];rfl
theorem ziI {l : List Item} {q : z0f} (h : z1M l q = false) : zDY l q = none := by unfold zDY;rw [h,Bool.and_false];rfl
theorem z5o {l : List Item} {q : z0f} (h : z1M l q = true) : zCO l q < l.length := by
 rcases Nat.lt_or_ge (zCO l q) l.length with h1|h1
 ·exact h1
 ·rw [zlW (by omega)] at h;cases h
theorem zdT {l : List Item} {q : z0f} (h : z3u l = true) (ht : z1M l q = true) : zDY l q = some (l[zCO l q]'(z5o ht)) := by
 unfold zDY;rw [h,ht,Bool.and_self,if_pos rfl,List.getElem?_eq_getElem (z5o ht)]
set_option maxHeartbeats 4000000 in
theorem zvj (A : Option Addr) (l : List Item) (c : Nat) (q : z0f) (w : World) (hS : Sig w) (hF : Fs Item.cells 5 w A l) (hl : l.length ≤ 34359738368) :
  Calls Tryd.prog 56 #[.slice A l.length c, .string ⟨q.toArray⟩] w fun e w'=>e = .returned (.tuple #[vIt ((zDY l q).getD Item.zero), .bool (zDY l q).isSome]) ∧ Below w.heap.size w w' := by
 have HSg := zCC (hS.below (gr1 w (.cells #[.string ⟨#[]⟩, .int .i64 0, .int .i64 0, .string ⟨#[]⟩, .int .i64 0] 79)))
 have HFs := zCC (hF.below (gr1 w (.cells #[.string ⟨#[]⟩, .int .i64 0, .int .i64 0, .string ⟨#[]⟩, .int .i64 0] 79)))
 clear hS hF
 cases hlf : z3u l with
 |false =>
  have HR := zCC (ztH (q := q) hlf)
  go_enter Tryd.func56,Tryd.ntmps56
  go_wp2_with (go_at_call 49;refine (z0G A l c _ HSg.out HFs.out hl).mono ?_;rintro e w1 ⟨rfl,hb⟩;obtain ⟨hc,hf⟩ := z5a hb;have hz := bz hb)
  rw [HR.out]
  exact bodyPost_ret (v := .tuple #[vIt Item.zero, .bool false]) (by simp [results,Tryd.results56,go_sem,hc,hz,vIt,Item.zero]) rfl ⟨rfl,zCV (z0a (gr1 _ _) hb) _ _ _ _ _⟩
 |true =>
  have hsrt := zCC ((z0D l).1 hlf).2.2
  cases ht : z1M l q with
  |false =>
   have HR := zCC (ziI (q := q) ht)
   go_enter Tryd.func56,Tryd.ntmps56
   go_wp2_with (first
    |(go_at_call 49;refine (z0G A l c _ HSg.out HFs.out hl).mono ?_;rintro e w1 ⟨rfl,hb⟩;obtain ⟨hc,hf⟩ := z5a hb;have hz := bz hb)
    |(go_at_call 61;refine (z80 A l c q _ (HFs.out.below hb) hsrt.out hl).mono ?_;rintro e w2 ⟨rfl,nd,rfl⟩))
   rw [HR.out]
   exact bodyPost_ret (v := .tuple #[vIt Item.zero, .bool false]) (by simp [results,Tryd.results56,go_sem,hc,hz,vIt,Item.zero]) rfl ⟨rfl,zCV (z0F (z0a (gr1 _ _) hb) _) _ _ _ _ _⟩
  |true =>
   have hlt := z5o ht
   have hlt' : (zCO l q : Int) < l.length := by omega
   have HR := zCC (zdT hlf ht)
   obtain ⟨b,off,rfl,hbl,hcell⟩ := HFs.out.cell (fun _=>rfl) (by omega)
   obtain ⟨c0,c1,c2,c3,c4⟩ := zEz hcell (Below.refl _ _) hbl hlt
   generalize l[zCO l q] = x at c0 c1 c2 c3 c4 HR
   obtain ⟨key,kind,i,s,ver⟩ := x
   have hbl1 : b < w.heap.size + 1 := by simpa using hbl
   clear hcell hbl
   go_enter Tryd.func56,Tryd.ntmps56
   go_wp2_with (first
    |(go_at_call 49;refine (z0G _ l c _ HSg.out HFs.out hl).mono ?_;rintro e w1 ⟨rfl,hb⟩;obtain ⟨hc,hf⟩ := z5a hb;have hz := bz hb)
    |(go_at_call 61;refine (z80 _ l c q _ (HFs.out.below hb) hsrt.out hl).mono ?_;rintro e w2 ⟨rfl,nd,rfl⟩))
   rw [HR.out]
   exact bodyPost_ret (v := .tuple #[vIt ⟨key,kind,i,s,ver⟩, .bool true]) (by simp [results,Tryd.results56,go_sem,hc,hz,vIt,Item.zero]) rfl ⟨rfl,zCV (z0F (z0a (gr1 _ _) hb) _) _ _ _ _ _⟩
theorem zut {w : World} {A : Option Addr} {l : List Item} (h : Fs Item.cells 5 w A l) (k : Nat) (hk : k ≤ l.length) : Rd w A 5 k ((l.take k).flatMap Item.cells) := by
 have := h.take (fun _=>rfl) k
 unfold Fs at this
 rwa [List.length_take,Nat.min_eq_left hk] at this
theorem ztx {w : World} {A : Option Addr} {l : List Item} (h : Fs Item.cells 5 w A l) (k c : Nat) (hk : k ≤ l.length) (hc : l.length ≤ c) : Rd w (cutA A c k 5) 5 (l.length - k) ((l.drop k).flatMap Item.cells) := by
 have := h.cutL (fun _=>rfl) (c := c) hk hc
 unfold Fs at this
 rwa [List.length_drop] at this
theorem z5G (l : List Item) : ∀ u ∈ l.flatMap Item.cells,u.oneCell' = true := by
 intro u hu
 obtain ⟨x,_,hx⟩ := List.mem_flatMap.1 hu
 simp [Item.cells,zDB,cI] at hx
 rcases hx with rfl|rfl|rfl|rfl|rfl <;> rfl
set_option maxHeartbeats 4000000 in
theorem zgH (A : Option Addr) (l : List Item) (c : Nat) (F T : Int) (f t : Nat) (hF : F = f) (hT : T = t) (B : Option Addr) (xs : List Item) (d : Nat) (w : World)
  (hl : Fs Item.cells 5 w A l) (hx : Fs Item.cells 5 w B xs) (hft : f ≤ t) (htl : t ≤ l.length) (hlc : l.length ≤ c) (hll : l.length ≤ 1000000) (hxl : xs.length ≤ 1000000) :
  Calls Tryd.prog 62 #[.slice A l.length c, .int .i64 F, .int .i64 T, .slice B xs.length d] w (zCm Item.cells 5 79 w (l.take f ++ xs ++ l.drop t)) := by
 subst hF hT
 have h1 := zut hl f (by omega)
 have h3 := ztx hl t c htl hlc
 obtain ⟨i0,hi0,hz0,hz1,hz2⟩ := info_parts z3K
 obtain ⟨w1,hmk,hown,hgrow⟩ := run_make_own (P := Tryd.prog) w w.heap.size 22 79 i0 _ 5 Tryd.underlying22 hi0 hz0 hz1 .i64 .i64 (l.length - (t - f) + xs.length) (by rw [hz2];omega) (by unfold maxLen;omega) (Nat.le_refl _)
 rw [show ((l.length - (t - f) + xs.length : Nat) : Int) = (l.length : Int) - ((t : Int) - (f : Int)) + (xs.length : Int) from by omega] at hmk
 have hb1 : Below w.heap.size w w1 := (Below.refl _ _).grown hgrow (Nat.le_refl _) (by simp)
 have hcut1 := fun w=>zlM Tryd.underlying22 z4D A l.length c f (by omega) (f : Int) rfl w
 have hcut3 := fun w=>z2e Tryd.underlying22 z4D A l.length c t (by omega) (t : Int) rfl w
 have HO := zCC hown;have H1 := zCC (h1.below hb1);have H2 := zCC hx;have H3 := zCC h3;have HI := zCC hi0
 clear hown h1 h3 hl hx hgrow hi0 hz0 hz1 hz2
 go_enter Tryd.func62,Tryd.ntmps62
 go_wp2_with (first
  |(at_builtin;refine z0Q _ rfl (.tmp 20) (.tmp 23) _ rfl w w.heap.size 79 _ 5 56 Tryd.underlying22 z3K rfl (by omega) (by omega) _ 0 _ (by rfl) HO.out hb1 _ _ _ _ (by rfl) H1.out (z5G _) (by omega) hb1.size ?_;intro A4 c4 w4 hown4 hb4;simp only [Nat.zero_add,List.nil_append] at hown4)
  |(at_builtin;refine z0Q _ rfl (.tmp 25) (.tmp 26) _ rfl w w.heap.size 79 _ 5 56 Tryd.underlying22 z3K rfl (by omega) (by omega) _ _ _ (by rfl) hown4 hb4 _ _ _ _ (by rfl) (H2.out.below hb4) (z5G _) (by omega) hb4.size ?_;intro A5 c5 w5 hown5 hb5)
  |(at_builtin;refine z0Q _ rfl (.tmp 28) (.tmp 31) _ rfl w w.heap.size 79 _ 5 56 Tryd.underlying22 z3K rfl (by omega) (by omega) _ _ _ (by rfl) hown5 hb5 _ _ _ _ (by rfl) (H3.out.below hb5) (z5G _) (by omega) hb5.size ?_;intro A6 c6 w6 hown6 hb6))
 go_ret
 have hlen : (l.take f ++ xs ++ l.drop t).length = f + xs.length + (l.length - t) := by simp;omega
 refine ⟨A6,c6,by rw [hlen];rfl,?_,hb6⟩
 rw [hlen,List.flatMap_append,List.flatMap_append]
 exact hown6
theorem zqn (w : World) (key : z0f) (kind i : Int) (s : z0f) (ver : Int) (t H : Nat) (hH : w.heap.size = H) :
  Fs Item.cells 5 (w.alloc (.cells #[.string ⟨key.toArray⟩, .int .i64 kind, .int .i64 i, .string ⟨s.toArray⟩, .int .i64 ver] t)) (some ⟨H,0,none⟩) [⟨key,kind,i,s,ver⟩] := by
 subst hH
 exact Fs.of_own (base := w.heap.size) (e := t) (n := 1) (c := 1) rfl (zbY w w.heap.size t 5 1 _ (Nat.le_refl _) rfl (by simp [maxLen]))
def zEp (l : List Item) (x : Item) : List Item × Nat :=
 if !(z3u l && z2S x) then ([],1) else if !z1M l x.key && l.length == 64 then ([],5) else (zfR l x,0)
def zEL (l : List Item) (q : z0f) : List Item × Nat :=
 if !z3u l then ([],1) else if !z1M l q then ([],6) else (z2u l q,0)
def zy2 (w : World) (r : List Item × Nat) (e : Ending) (w' : World) : Prop :=
 ∃ A cap,e = .returned (.tuple #[.slice A r.1.length cap, .int .i64 r.2]) ∧ w'.ownsRow w.heap.size 79 5 (.slice A r.1.length cap) r.1.length (r.1.flatMap Item.cells) ∧ Below w.heap.size w w'
set_option maxHeartbeats 4000000 in
theorem zgP (A : Option Addr) (l : List Item) (c : Nat) (key : z0f) (kind i : Int) (s : z0f) (ver : Int) (w : World) (hS : Sig w) (hF : Fs Item.cells 5 w A l) (hlc : l.length ≤ c) (hl : l.length ≤ 1000000) :
  Calls Tryd.prog 45 #[.slice A l.length c, .agg #[.string ⟨key.toArray⟩, .int .i64 kind, .int .i64 i, .string ⟨s.toArray⟩, .int .i64 ver]] w (zy2 w (zEp l ⟨key,kind,i,s,ver⟩)) := by
 have HSg := zCC (hS.below (gr1 w (.cells #[.string ⟨key.toArray⟩, .int .i64 kind, .int .i64 i, .string ⟨s.toArray⟩, .int .i64 ver] 79)))
 have HFs := zCC (hF.below (gr1 w (.cells #[.string ⟨key.toArray⟩, .int .i64 kind, .int .i64 i, .string ⟨s.toArray⟩, .int .i64 ver] 79)))
 clear hS hF
 cases hlf : z3u l with
 |false =>
  have HR := zCC (show zEp l ⟨key,kind,i,s,ver⟩ = ([],1) from by unfold zEp;rw [hlf];rfl)
  go_enter Tryd.func45,Tryd.ntmps45
  go_wp2_with (go_at_call 49;refine (z0G A l c _ HSg.out HFs.out (by omega)).mono ?_;rintro e w1 ⟨rfl,hb⟩;obtain ⟨hc,hf⟩ := z5a hb;have hz := bz hb)
  go_ret2
  rw [HR.out]
  exact ⟨_,_,rfl,World.ownsRow_nil _ _ _ _,z0a (gr1 _ _) hb⟩
 |true =>
  have hsrt := zCC ((z0D l).1 hlf).2.2
  cases hi : z2S ⟨key,kind,i,s,ver⟩ with
  |false =>
   have HR := zCC (show zEp l ⟨key,kind,i,s,ver⟩ = ([],1) from by unfold zEp;rw [hlf,hi];rfl)
   go_enter Tryd.func45,Tryd.ntmps45
   go_wp2_with (first
    |(go_at_call 49;refine (z0G A l c _ HSg.out HFs.out (by omega)).mono ?_;rintro e w1 ⟨rfl,hb⟩;obtain ⟨hc,hf⟩ := z5a hb;have hz := bz hb)
    |(go_at_call 60;refine (z7s key kind i s ver _ (HSg.out.below hb)).mono ?_;rintro e w2 ⟨rfl,hb2⟩;obtain ⟨hc2,hf2⟩ := z5a hb2))
   go_ret2
   rw [HR.out]
   exact ⟨_,_,rfl,World.ownsRow_nil _ _ _ _,z0a (z0a (gr1 _ _) hb) hb2⟩
  |true =>
   cases ht : z1M l key with
   |true =>
    have hlt := z5o ht
    have HR := zCC (show zEp l ⟨key,kind,i,s,ver⟩ = (l.take (zCO l key) ++ [⟨key,kind,i,s,ver⟩] ++ l.drop (zCO l key + 1),0) from by
     unfold zEp;rw [hlf,hi,ht,z7U hsrt.out];simp only [ht];rfl)
    have HI := zCC hi;clear hi
    go_enter Tryd.func45,Tryd.ntmps45
    go_wp2_with (first
     |(go_at_call 49;refine (z0G A l c _ HSg.out HFs.out (by omega)).mono ?_;rintro e w1 ⟨rfl,hb⟩;obtain ⟨hc,hf⟩ := z5a hb;have hz := bz hb)
     |(go_at_call 60;refine (z7s key kind i s ver _ (HSg.out.below hb)).mono ?_;rw [HI.out];rintro e w2 ⟨rfl,hb2⟩;obtain ⟨hc2,hf2⟩ := z5a hb2;have hz2 : w.heap.size < w2.heap.size := Nat.lt_of_lt_of_le hz hb2.size)
     |(go_at_call 61;refine (z80 A l c key _ ((HFs.out.below hb).below hb2) hsrt.out (by omega)).mono ?_;rintro e w3 ⟨rfl,nd,rfl⟩)
     |(go_at_call 62;refine (zgH A l c _ _ (zCO l key) (zCO l key + 1) rfl (by omega) _ [⟨key,kind,i,s,ver⟩] 1 _ (Fs.alloc (((HFs.out.below hb).below hb2).drewN nd) _) (zqn _ key kind i s ver _ _ rfl) (by omega) (by omega) hlc hl (by simp)).mono ?_;rintro e w4 ⟨A4,c4,rfl,hown4,hb4⟩))
    go_ret2
    rw [HR.out]
    have hB : Below w.heap.size w ((w2.drewN nd).alloc (.cells #[.string ⟨key.toArray⟩, .int .i64 kind, .int .i64 i, .string ⟨s.toArray⟩, .int .i64 ver] 79)) := (z0F (z0a (z0a (gr1 _ _) hb) hb2) nd).alloc (Nat.le_of_lt hz2) _
    exact ⟨A4,c4,by first|(simp;done)|(simp;omega),hown4.mono hB.size,hB.trans (hb4.mono hB.size)⟩
   |false =>
    have hple := zmi l key
    have HI := zCC hi;clear hi
    by_cases h64 : l.length = 64
    ·have h64' : ((l.length : Int) == 64) = true := by rw [beq_iff_eq];omega
     have HR := zCC (show zEp l ⟨key,kind,i,s,ver⟩ = ([],5) from by unfold zEp;rw [hlf,HI.out];simp [ht,h64])
     have H64 := zCC h64;clear h64
     go_enter Tryd.func45,Tryd.ntmps45
     go_wp2_with (first
      |(go_at_call 49;refine (z0G A l c _ HSg.out HFs.out (by omega)).mono ?_;rintro e w1 ⟨rfl,hb⟩;obtain ⟨hc,hf⟩ := z5a hb;have hz := bz hb)
      |(go_at_call 60;refine (z7s key kind i s ver _ (HSg.out.below hb)).mono ?_;rw [HI.out];rintro e w2 ⟨rfl,hb2⟩;obtain ⟨hc2,hf2⟩ := z5a hb2;have hz2 : w.heap.size < w2.heap.size := Nat.lt_of_lt_of_le hz hb2.size)
      |(go_at_call 61;refine (z80 A l c key _ ((HFs.out.below hb).below hb2) hsrt.out (by omega)).mono ?_;rintro e w3 ⟨rfl,nd,rfl⟩))
     go_ret2
     rw [HR.out]
     exact ⟨_,_,rfl,World.ownsRow_nil _ _ _ _,z0F (z0a (z0a (gr1 _ _) hb) hb2) nd⟩
    ·have h64' : ((l.length : Int) == 64) = false := by rw [beq_eq_false_iff_ne];omega
     have HR := zCC (show zEp l ⟨key,kind,i,s,ver⟩ = (l.take (zCO l key) ++ [⟨key,kind,i,s,ver⟩] ++ l.drop (zCO l key),0) from by
      unfold zEp;rw [hlf,HI.out,z7U hsrt.out];simp [ht,h64])
     clear h64
     go_enter Tryd.func45,Tryd.ntmps45
     go_wp2_with (first
      |(go_at_call 49;refine (z0G A l c _ HSg.out HFs.out (by omega)).mono ?_;rintro e w1 ⟨rfl,hb⟩;obtain ⟨hc,hf⟩ := z5a hb;have hz := bz hb)
      |(go_at_call 60;refine (z7s key kind i s ver _ (HSg.out.below hb)).mono ?_;rw [HI.out];rintro e w2 ⟨rfl,hb2⟩;obtain ⟨hc2,hf2⟩ := z5a hb2;have hz2 : w.heap.size < w2.heap.size := Nat.lt_of_lt_of_le hz hb2.size)
      |(go_at_call 61;refine (z80 A l c key _ ((HFs.out.below hb).below hb2) hsrt.out (by omega)).mono ?_;rintro e w3 ⟨rfl,nd,rfl⟩)
      |(go_at_call 62;refine (zgH A l c _ _ (zCO l key) (zCO l key) rfl rfl _ [⟨key,kind,i,s,ver⟩] 1 _ (Fs.alloc (((HFs.out.below hb).below hb2).drewN nd) _) (zqn _ key kind i s ver _ _ rfl) (by omega) (by omega) hlc hl (by simp)).mono ?_;rintro e w4 ⟨A4,c4,rfl,hown4,hb4⟩))
     go_ret2
     rw [HR.out]
     have hB : Below w.heap.size w ((w2.drewN nd).alloc (.cells #[.string ⟨key.toArray⟩, .int .i64 kind, .int .i64 i, .string ⟨s.toArray⟩, .int .i64 ver] 79)) := (z0F (z0a (z0a (gr1 _ _) hb) hb2) nd).alloc (Nat.le_of_lt hz2) _
     exact ⟨A4,c4,by first|(simp;done)|(simp;omega),hown4.mono hB.size,hB.trans (hb4.mono hB.size)⟩
set_option maxHeartbeats 4000000 in
theorem zvB (A : Option Addr) (l : List Item) (c : Nat) (q : z0f) (w : World) (hS : Sig w) (hF : Fs Item.cells 5 w A l) (hlc : l.length ≤ c) (hl : l.length ≤ 1000000) :
  Calls Tryd.prog 58 #[.slice A l.length c, .string ⟨q.toArray⟩] w (zy2 w (zEL l q)) := by
 have HSg := zCC hS
 have HFs := zCC hF
 clear hS hF
 cases hlf : z3u l with
 |false =>
  have HR := zCC (show zEL l q = ([],1) from by unfold zEL;rw [hlf];rfl)
  go_enter Tryd.func58,Tryd.ntmps58
  go_wp2_with (go_at_call 49;refine (z0G A l c _ HSg.out HFs.out (by omega)).mono ?_;rintro e w1 ⟨rfl,hb⟩)
  go_ret2
  rw [HR.out]
  exact ⟨_,_,rfl,World.ownsRow_nil _ _ _ _,hb⟩
 |true =>
  have hsrt := zCC ((z0D l).1 hlf).2.2
  cases ht : z1M l q with
  |false =>
   have HR := zCC (show zEL l q = ([],6) from by unfold zEL;rw [hlf,ht];rfl)
   go_enter Tryd.func58,Tryd.ntmps58
   go_wp2_with (first
    |(go_at_call 49;refine (z0G A l c _ HSg.out HFs.out (by omega)).mono ?_;rintro e w1 ⟨rfl,hb⟩)
    |(go_at_call 61;refine (z80 A l c q _ (HFs.out.below hb) hsrt.out (by omega)).mono ?_;rintro e w3 ⟨rfl,nd,rfl⟩))
   go_ret2
   rw [HR.out]
   exact ⟨_,_,rfl,World.ownsRow_nil _ _ _ _,z0F hb nd⟩
  |true =>
   have hlt := z5o ht
   have HR := zCC (show zEL l q = (l.take (zCO l q) ++ [] ++ l.drop (zCO l q + 1),0) from by
    unfold zEL;rw [hlf,ht,z7B hsrt.out q ht,List.append_nil];rfl)
   go_enter Tryd.func58,Tryd.ntmps58
   go_wp2_with (first
    |(go_at_call 49;refine (z0G A l c _ HSg.out HFs.out (by omega)).mono ?_;rintro e w1 ⟨rfl,hb⟩)
    |(go_at_call 61;refine (z80 A l c q _ (HFs.out.below hb) hsrt.out (by omega)).mono ?_;rintro e w3 ⟨rfl,nd,rfl⟩)
    |(go_at_call 62;refine (zgH A l c _ _ (zCO l q) (zCO l q + 1) rfl (by omega) none [] 0 _ ((HFs.out.below hb).drewN nd) (Fs.empty _ _) (by omega) (by omega) hlc hl (by simp)).mono ?_;rintro e w4 ⟨A4,c4,rfl,hown4,hb4⟩))
   go_ret2
   rw [HR.out]
   have hB := z0F hb nd
   exact ⟨A4,c4,by first|(simp;done)|(simp;omega),hown4.mono hB.size,hB.trans (hb4.mono hB.size)⟩
end Go.Proofs.YtaplemeamcgpkaaDoor

namespace Go.Proofs.YtaplemeamcgpkaaDoor
open Go.RowKit
attribute [local go_sem ↓] Go.wp_at_zero Go.wp_at_succ
theorem z9H {W w2 : World} (h : Below W.drew.heap.size W.drew w2) : Below W.heap.size W w2 := ⟨h.os,h.tape,h.output,h.size,h.block⟩
theorem gr1d (w : World) (o : Obj) : Below w.heap.size w (w.alloc o).drew := z0F (gr1 w o) 1
theorem ziX (l : List Item) (k : Nat) (h : k < l.length) : zb7 (l.take (k + 1)) = zb7 (l.take k) + (l[k].key.length + (zFS l[k].kind l[k].i l[k].s).length) := by
 unfold zb7;rw [zlZ _ l k h,List.sum_append];simp
theorem zdm {kind i : Int} {s : z0f} (h0 : -9223372036854775808 ≤ i) (h1 : i < 9223372036854775808) (hv : zEn kind i s = true) : (zFS kind i s).length ≤ 100 := by
 rcases zbE hv with ⟨rfl,rfl,rfl⟩|⟨rfl,hi,rfl⟩|⟨rfl,rfl⟩|⟨rfl,rfl,hs⟩
 ·decide
 ·simp [zFS]
 ·have := z7x (zig i) (zof i h0 h1)
  simp [zFS];omega
 ·have := z7x s.length (by omega)
  simp [zFS];omega
theorem zde {k : z0f} (h : zDF k = true) : k.length ≤ 24 := by
 simp [zDF,zEF] at h;exact h.2.1
theorem z78 {key : z0f} {kind i : Int} {s : z0f} {ver : Int} (h : z2S ⟨key,kind,i,s,ver⟩ = true) : zDF key = true ∧ zEn kind i s = true ∧ kind ≠ 0 ∧ 0 ≤ ver ∧ ver ≤ 2147483647 := by
 rw [zhX] at h
 simp only [Bool.and_eq_true,bne_iff_ne,ne_eq,decide_eq_true_eq] at h
 exact ⟨h.1.1.1.1,h.1.1.1.2,h.1.1.2,h.1.2,h.2⟩
def z58 (l : List Item) : Nat := if z3u l then zb7 l else 0
set_option maxHeartbeats 4000000 in
theorem zm4 (A : Option Addr) (l : List Item) (c : Nat) (w : World) (hS : Sig w) (hF : Fs Item.cells 5 w A l) (hnum : ∀ x ∈ l,z3i x) (hl : l.length ≤ 1000000) :
  Calls Tryd.prog 39 #[.slice A l.length c] w fun e w'=>e = .returned (.int .i64 (z58 l)) ∧ Below w.heap.size w w' := by
 cases hlf : z3u l with
 |false =>
  have HR := zCC (show z58 l = 0 from by unfold z58;rw [hlf];rfl)
  go_enter Tryd.func39,Tryd.ntmps39
  go_wp2_with (go_at_call 49;refine (z0G A l c _ hS hF (by omega)).mono ?_;rintro e w1 ⟨rfl,hb⟩)
  go_ret
  rw [HR.out];exact ⟨rfl,hb⟩
 |true =>
  have HLF := zCC ((z0D l).1 hlf)
  have HR := zCC (show z58 l = zb7 l from by unfold z58;rw [if_pos hlf])
  have HNm := zCC hnum
  have HS := zCC hS
  clear hnum hS
  go_enter Tryd.func39,Tryd.ntmps39
  go_wp2_with (go_at_call 49;refine (z0G A l c _ HS.out hF (by omega)).mono ?_;rintro e w1 ⟨rfl,hb⟩)
  have HB := zCC hb;clear hb
  go_loopw [3,11] (fun n i wr=>∃ k : Nat,k ≤ l.length ∧ i = .int .i64 k ∧ n = .int .i64 (zb7 (l.take k)) ∧ zb7 (l.take k) ≤ k * 200 ∧ Below w.heap.size w wr) (fun _ i _=>l.length - (intOf i).toNat)
  case atStart=>exact ⟨0,Nat.zero_le _,rfl,rfl,by simp [zb7],HB.out⟩
  case round =>
   obtain ⟨k,hk,rfl,rfl,hwt,hbel⟩ := hrel
   by_cases hlt : k < l.length
   ·have hlt' : (k : Int) < l.length := by omega
    obtain ⟨b,off,rfl,hbl,hcell⟩ := hF.cell (fun _=>rfl) (by omega)
    obtain ⟨c0,c1,c2,c3,c4⟩ := zEz hcell hbel hbl hlt
    have HW := zCC (ziX l k hlt)
    have hn := HNm.out l[k] (List.getElem_mem hlt)
    have hi := HLF.out.2.1 l[k] (List.getElem_mem hlt)
    generalize zb7 (l.take k) = W at hwt HW ⊢
    generalize l[k] = x at c0 c1 c2 c3 c4 HW hn hi
    obtain ⟨key,kind,i,s,ver⟩ := x
    obtain ⟨hn0,hn1⟩ := hn
    obtain ⟨hk1,hv,-,-,-⟩ := z78 hi
    have hkl := zde hk1
    have hel := zdm hn0 hn1 hv
    have hce := fun w=>(zha hv) ▸ zpl kind i s hn0 hn1 w
    have HV := zCC hv
    generalize zFS kind i s = E at HW hel hce
    have HCE := zCC hce
    clear hcell hk1 hi hv hce
    go_wp2_with fail
    go_region_held3 (fun w'=>w'.cell? ⟨wr.heap.size,0,none⟩ = some (.string ⟨key.toArray⟩) ∧ w'.cell? ⟨wr.heap.size,1,none⟩ = some (.int .i64 kind) ∧ w'.cell? ⟨wr.heap.size,2,none⟩ = some (.int .i64 i) ∧ w'.cell? ⟨wr.heap.size,3,none⟩ = some (.string ⟨s.toArray⟩)) (go_keep)
     (first|(go_at_call 59;refine (HCE.out _).mono ?_;rintro e w2 ⟨A2,c2,rfl,hown2,hb2⟩;obtain ⟨hc,hf⟩ := z5a hb2))
    all_goals go_wp2_with fail
    clear hc hf
    refine ⟨⟨k + 1,by omega,by go_num,?_,?_,hbel.trans ((z0a (gr1d _ _) hb2).mono hbel.size)⟩,by simp [intOf];omega⟩
    ·rw [HW.out];refine zqR ?_
     rw [IntWalk.i64_in ((key.length : Int) + E.length) (by omega),IntWalk.i64_in _ (by omega)];omega
    ·rw [HW.out,Nat.succ_mul];omega
   ·have hk' : k = l.length := by omega
    subst hk'
    rw [List.take_length]
    go_wp2_with fail
    go_ret
    rw [HR.out];exact ⟨rfl,hbel⟩
set_option maxHeartbeats 4000000 in
theorem znK       (key : z0f  ) (kind i : Int) (s : z0f  ) (ver : Int) (w : World) (hi : z2S   ⟨key, kind, i, s, ver⟩ = true) (hn0 : -9223372036854775808 ≤ i) (hn1 : i < 9223372036854775808) :
    Calls Tryd.prog 50 #[.agg #[.string ⟨key.toArray⟩, .int .i64 kind, .int .i64 i, .string ⟨s.toArray⟩, .int .i64 ver]] w (z3p      5 w (zEd  ⟨key, kind, i, s, ver⟩)) := by
  obtain ⟨hk1, hv, -, hv0, hv1⟩ := z78         hi
  have hkl := zde      hk1
  have hel := zdm      hn0 hn1 hv
  have hce := fun w => (zha      hv) ▸ zpl     kind i s hn0 hn1 w
  have hpt := fun w => zcA         key (by omega) w
  have hpl := z7x     key.length (by omega)
  have hpk : (put key.length ++ key).length ≤ 40 := by simp; omega
  have hpv := z7x     ver.toNat (by omega)
  have HR := zCC  (show zEd  ⟨key, kind, i, s, ver⟩ = (put key.length ++ key) ++ zFS  kind i s ++ put ver.toNat from rfl)
  generalize zFS  kind i s = E at hel hce HR
  generalize put key.length ++ key = K at hpt hpk HR
  have HCE := zCC  hce; have HPT := zCC  hpt
  clear hce hpt hi hk1 hv hpl
  go_enter Tryd.func50, Tryd.ntmps50
  go_wp2_with fail
  go_region_held3 (fun w' => w'.cell? ⟨w.heap.size, 0, none⟩ = some (.string ⟨key.toArray⟩) ∧ w'.cell? ⟨w.heap.size, 1, none⟩ = some (.int .i64 kind) ∧ w'.cell? ⟨w.heap.size, 2, none⟩ = some (.int .i64 i) ∧ w'.cell? ⟨w.heap.size, 3, none⟩ = some (.string ⟨s.toArray⟩)) (go_keep)
    (first
      | (go_at_call 59; refine (HCE.out _).mono ?_; rintro e w2 ⟨A2, c2, rfl, hown2, hb2⟩; obtain ⟨hc, hf⟩ := z5a   hb2; have hz2 : w.heap.size < w2.heap.size := Nat.lt_of_lt_of_le (by first | (simp; done) | assumption) hb2.size; have hB2 : Below (w.alloc (.cells #[.string ⟨key.toArray⟩, .int .i64 kind, .int .i64 i, .string ⟨s.toArray⟩, .int .i64 ver] 79)).heap.size (w.alloc (.cells #[.string ⟨key.toArray⟩, .int .i64 kind, .int .i64 i, .string ⟨s.toArray⟩, .int .i64 ver] 79)) w2 := (by first | exact z9H           hb2 | exact hb2 | exact z0a         hB3 hb2))
      | (go_at_call 67; refine (HPT.out _).mono ?_; rintro e w3 ⟨A3, c3, rfl, hown3, hb3⟩; obtain ⟨hc3, hf3⟩ := z5a   hb3; have hz3 : w.heap.size < w3.heap.size := Nat.lt_of_lt_of_le (by first | (simp; done) | assumption) hb3.size; have hB3 : Below (w.alloc (.cells #[.string ⟨key.toArray⟩, .int .i64 kind, .int .i64 i, .string ⟨s.toArray⟩, .int .i64 ver] 79)).heap.size (w.alloc (.cells #[.string ⟨key.toArray⟩, .int .i64 kind, .int .i64 i, .string ⟨s.toArray⟩, .int .i64 ver] 79)) w3 := (by first | exact z9H           hb3 | exact hb3 | exact z0a         hB2 hb3))
      | (refine zcR         _ rfl (.tmp 6) (.tmp 9) _ (by rfl) (w.alloc (.cells #[.string ⟨key.toArray⟩, .int .i64 kind, .int .i64 i, .string ⟨s.toArray⟩, .int .i64 ver] 79)) (w.alloc (.cells #[.string ⟨key.toArray⟩, .int .i64 kind, .int .i64 i, .string ⟨s.toArray⟩, .int .i64 ver] 79)).heap.size 5 _ 1 1 Tryd.underlying89 z7C     rfl (by omega) (by omega) _ _ _ (by rfl) ((z1c       hown3 hb2).mono (by simp)) hB2 _ _ _ _ (by rfl) (Rd.of_own hown2) (ziO    _) (by omega) hB2.size ?_; intro A4 c4 w4 hown4 hb4; obtain ⟨hc4, hf4⟩ := z5a   hb4)
      | (refine zcR         _ rfl (.tmp 6) (.tmp 9) _ (by rfl) (w.alloc (.cells #[.string ⟨key.toArray⟩, .int .i64 kind, .int .i64 i, .string ⟨s.toArray⟩, .int .i64 ver] 79)) (w.alloc (.cells #[.string ⟨key.toArray⟩, .int .i64 kind, .int .i64 i, .string ⟨s.toArray⟩, .int .i64 ver] 79)).heap.size 5 _ 1 1 Tryd.underlying89 z7C     rfl (by omega) (by omega) _ _ _ (by rfl) (hown3.mono hB2.size) hB3 _ _ _ _ (by rfl) ((Rd.of_own hown2).below hb3) (ziO    _) (by omega) hB3.size ?_; intro A4 c4 w4 hown4 hb4; obtain ⟨hc4, hf4⟩ := z5a   hb4))
  all_goals go_wp2_with (first
    | (go_at_call 68; refine (zmr     ver hv0 (by omega) _).mono ?_; rintro e w5 ⟨g5, c5, rfl, hown5, hb5⟩; have hown6 := z1c       hown4 hb5; have hb6 := hb4.trans (hb5.mono hb4.size))
    | (at_builtin; refine z0Q           _ rfl (.tmp 11) (.tmp 15) _ rfl (w.alloc (.cells #[.string ⟨key.toArray⟩, .int .i64 kind, .int .i64 i, .string ⟨s.toArray⟩, .int .i64 ver] 79)) (w.alloc (.cells #[.string ⟨key.toArray⟩, .int .i64 kind, .int .i64 i, .string ⟨s.toArray⟩, .int .i64 ver] 79)).heap.size 5 _ 1 1 Tryd.underlying89 z7C     rfl (by omega) (by omega) _ _ _ (by rfl) hown6 hb6 _ _ _ _ (by rfl) (Rd.of_own hown5) (ziO    _) (by omega) hb6.size ?_; intro A7 c7 w7 hown7 hb7))
  all_goals
    go_ret
    rw [HR.out]
    refine z9y         (by simp; omega) ?_ (z0a         (gr1 _ _) hb7)
    rw [List.length_append, List.length_append, List.map_append, List.map_append]
    exact hown7.mono (by simp)
end Go.Proofs.YtaplemeamcgpkaaDoor

namespace Go.Proofs.YtaplemeamcgpkaaDoor
open Go.RowKit
def iA (x : Item) : AV := flA Item.cells x
theorem zcs (x : Item) : iA x = .agg [V (.string ⟨x.key.toArray⟩),V (.int .i64 x.kind),V (.int .i64 x.i),V (.string ⟨x.s.toArray⟩),V (.int .i64 x.ver)] := _root_.id rfl
def lA (l : List Item) : AV := SL (l.map (flA Item.cells))
theorem z6y (x : Item) : x.cells.length = 5 := _root_.id rfl
theorem zmB (x : Item) : ∀ u ∈ x.cells,u.oneCell' = true := by intro u hu;simp [Item.cells,zDB,cI] at hu;rcases hu with rfl|rfl|rfl|rfl|rfl <;> rfl
def SigG (G : Gl) : Prop := (0,(.agg [V (.int .u64 288195191779622912),V (.int .u64 576460745860972544)] : AV)) ∈ G
theorem SigG.at {G : Gl} {S : SS} {w : World} (h : SigG G) (hr : Rel w S [] []) (hg : GOk G S) : Sig w := znv hr hg h
theorem Drew.belowD {w w' : World} (h : Drew w w') : Below w.heap.size w w' := by obtain ⟨n,rfl⟩ := h;exact z0F (Below.refl _ _) n
theorem zmY {S : SS} {v : Value} (h : v.oneCell' = true := by rfl) : rep S [] (V v) v := ⟨rfl,h⟩
theorem zvN {S : SS} (x : Item) : repA S [] (iA x) (vIt x) := by
 refine ⟨x.cells,rfl,by simp,fun j d u hd hu=>?_⟩
 rw [List.getElem?_map,hu] at hd
 simp at hd;subst hd
 have := zmB x u (List.mem_of_getElem? hu)
 exact ⟨this,rfl,this⟩
theorem zim {S : SS} {a b : AV} {u v : Value} (ha : repA S [] a u) (hb : repA S [] b v) : rep S [] (TU [a,b]) (.tuple #[u,v]) := by
 refine ⟨[u,v],rfl,rfl,fun j d x hd hx=>?_⟩
 match j,hd,hx with
 |0,hd,hx=>simp at hd hx;subst hd hx;exact ha
 |1,hd,hx=>simp at hd hx;subst hd hx;exact hb
section
variable {G : Gl}
theorem zb2 (l : List Item) (hG : SigG G) (hl : l.length ≤ 34359738368) : ACp Tryd.prog G 41 [lA l] (TU [nA (chk l).1,nA (chk l).2]) := by
 refine acp_of_tells (by kernel_rfl) fun w S vs hr hg hlen hv=>?_
 rcases vs with _|⟨v1,_|⟨_,_⟩⟩ <;> simp at hlen
 obtain ⟨A1,c1,rfl,hc1,hm1,hF1⟩ := zpC z6y (by omega) hr (hv 0 _ v1 rfl rfl)
 have hS := hG.at hr hg
 refine (zdz A1 l c1 w hS hF1 hl).mono ?_
 rintro e w' ⟨rfl,hb⟩
 exact ⟨_,rfl,hb,zim ⟨rfl,rfl⟩ ⟨rfl,rfl⟩⟩
theorem zyy (l : List Item) (q : z0f) (hG : SigG G) (hl : l.length ≤ 34359738368) : ACp Tryd.prog G 56 [lA l,sA q] (TU [iA ((zDY l q).getD Item.zero),bA (zDY l q).isSome]) := by
 refine acp_of_tells (by kernel_rfl) fun w S vs hr hg hlen hv=>?_
 rcases vs with _|⟨v1,_|⟨v2,_|⟨_,_⟩⟩⟩ <;> simp at hlen
 obtain ⟨A1,c1,rfl,hc1,hm1,hF1⟩ := zpC z6y (by omega) hr (hv 0 _ v1 rfl rfl)
 have e2 := zzG (hv 1 _ v2 rfl rfl);subst e2
 have hS := hG.at hr hg
 refine (zvj A1 l c1 q w hS hF1 hl).mono ?_
 rintro e w' ⟨rfl,hb⟩
 exact ⟨_,rfl,hb,zim (zvN _) ⟨rfl,rfl⟩⟩
theorem zyw (l : List Item) (x : Item) (hG : SigG G) (hl : l.length ≤ 1000000) : ACp Tryd.prog G 45 [lA l,iA x] (TU [lA (zEp l x).1,nA (zEp l x).2]) := by
 refine acp_of (by kernel_rfl) fun w S vs hr hg hlen hv=>?_
 rcases vs with _|⟨v1,_|⟨v2,_|⟨_,_⟩⟩⟩ <;> simp at hlen
 obtain ⟨A1,c1,rfl,hc1,hm1,hF1⟩ := zpC z6y (by omega) hr (hv 0 _ v1 rfl rfl)
 have e2 := zyE (hv 1 _ v2 rfl rfl);subst e2
 have hS := hG.at hr hg
 refine (zgP A1 l c1 x.key x.kind x.i x.s x.ver w hS hF1 hc1 hl).mono ?_
 rintro e w' ⟨A,cap,rfl,ho,hb⟩
 obtain ⟨N,h1,h2⟩ := zli z6y zmB ho S
 exact ⟨_,rfl,hb,N,h1,zim h2 ⟨rfl,rfl⟩⟩
theorem zAd (l : List Item) (q : z0f) (hG : SigG G) (hl : l.length ≤ 1000000) : ACp Tryd.prog G 58 [lA l,sA q] (TU [lA (zEL l q).1,nA (zEL l q).2]) := by
 refine acp_of (by kernel_rfl) fun w S vs hr hg hlen hv=>?_
 rcases vs with _|⟨v1,_|⟨v2,_|⟨_,_⟩⟩⟩ <;> simp at hlen
 obtain ⟨A1,c1,rfl,hc1,hm1,hF1⟩ := zpC z6y (by omega) hr (hv 0 _ v1 rfl rfl)
 have e2 := zzG (hv 1 _ v2 rfl rfl);subst e2
 have hS := hG.at hr hg
 refine (zvB A1 l c1 q w hS hF1 hc1 hl).mono ?_
 rintro e w' ⟨A,cap,rfl,ho,hb⟩
 obtain ⟨N,h1,h2⟩ := zli z6y zmB ho S
 exact ⟨_,rfl,hb,N,h1,zim h2 ⟨rfl,rfl⟩⟩
theorem znu (l : List Item) (hG : SigG G) (hnum : ∀ x ∈ l,z3i x) (hl : l.length ≤ 1000000) : ACp Tryd.prog G 39 [lA l] (nA (z58 l)) := by
 refine acp_of_tells (by kernel_rfl) fun w S vs hr hg hlen hv=>?_
 rcases vs with _|⟨v1,_|⟨_,_⟩⟩ <;> simp at hlen
 obtain ⟨A1,c1,rfl,hc1,hm1,hF1⟩ := zpC z6y (by omega) hr (hv 0 _ v1 rfl rfl)
 have hS := hG.at hr hg
 refine (zm4 A1 l c1 w hS hF1 hnum hl).mono ?_
 rintro e w' ⟨rfl,hb⟩
 exact ⟨_,rfl,hb,zmY⟩
theorem zbs (q : z0f) (hG : SigG G) : ACp Tryd.prog G 19 [sA q] (bA (zDF q)) := by
 refine acp_of_tells (by kernel_rfl) fun w S vs hr hg hlen hv=>?_
 rcases vs with _|⟨v1,_|⟨_,_⟩⟩ <;> simp at hlen
 have e1 := zzG (hv 0 _ v1 rfl rfl);subst e1
 have hS := hG.at hr hg
 refine (zhC q w hS).mono ?_
 rintro e w' ⟨rfl,rfl⟩
 exact ⟨_,rfl,Below.refl _ _,zmY⟩
theorem zrW (l : List Item) (m : List Item) (hl : l.length ≤ 34359738368) (hm : m.length ≤ 34359738368) : ACp Tryd.prog G 40 [lA l,lA m] (bA (decide (l = m))) := by
 refine acp_of_tells (by kernel_rfl) fun w S vs hr hg hlen hv=>?_
 rcases vs with _|⟨v1,_|⟨v2,_|⟨_,_⟩⟩⟩ <;> simp at hlen
 obtain ⟨A1,c1,rfl,hc1,hm1,hF1⟩ := zpC z6y (by omega) hr (hv 0 _ v1 rfl rfl)
 obtain ⟨A2,c2,rfl,hc2,hm2,hF2⟩ := zpC z6y (by omega) hr (hv 1 _ v2 rfl rfl)
 refine (znS A1 l c1 A2 m c2 w hF1 hF2 hl hm).mono ?_
 rintro e w' ⟨rfl,hb⟩
 exact ⟨_,rfl,hb.belowD,zmY⟩
end
end Go.Proofs.YtaplemeamcgpkaaDoor

namespace Go.Proofs.YtaplemeamcgpkaaDoor
open Go.RowKit
theorem MIX : Tryd.prog.follows .mixedOrders = true := by kernel_rfl
def GG : Gl := [(0, .agg [V (.int .u64 288195191779622912),V (.int .u64 576460745860972544)]),(1, .agg (Lib.pow10Tab.map fun k : Int=>V (.int .u64 k)))]
theorem sigGG : SigG GG := List.mem_cons_self ..
theorem zul {x y : Item} (h : flA Item.cells x = flA Item.cells y) : x = y := by
 obtain ⟨k1,d1,i1,s1,v1⟩ := x
 obtain ⟨k2,d2,i2,s2,v2⟩ := y
 simp only [flA,Item.cells,zDB,cI,List.map_cons,List.map_nil,DataW.agg.injEq,List.cons.injEq,DataW.held.injEq,Sum.inl.injEq,Value.string.injEq,Value.int.injEq,ByteArray.mk.injEq,Array.mk.injEq,true_and,and_true] at h
 obtain ⟨h1,h2,h3,h4,h5⟩ := h
 have h1 : k1 = k2 := by simpa using h1
 have h4 : s1 = s2 := by simpa using h4
 subst h1 h2 h3 h4 h5
 rfl
theorem zgG {l m : List Item} (h : lA l = lA m) : l = m := by
 unfold lA at h
 injection h with h
 exact zkf (fun _ _=>zul) h
def z5H (m : Nat) : List AV → RO := zDW (ι := List Item) (fun l=>[lA l]) (fun l=>TU [nA (chk l).1,nA (chk l).2]) (fun l=>l.length ≤ 34359738368)
theorem zfH (m : Nat) : ∀ args X H',z5H m args = some (X,H') → ACp Tryd.prog GG 41 args X := z3B (by
 intro l hl
 exact zb2 l sigGG hl)
theorem zg7 (m : Nat) (l : List Item) (hl : l.length ≤ 34359738368) : z5H m [lA l] = some (TU [nA (chk l).1,nA (chk l).2],[]) := z3A (ι := List Item) (by
 intro l1 l2 h
 try dsimp only at h ⊢
 simp only [List.cons.injEq,and_true] at h
 rw [zgG h]) (i := l) hl
def z9q (m : Nat) : List AV → RO := zDW (ι := z0f) (fun q=>[sA q]) (fun q=>bA (zDF q)) (fun q=>True)
theorem zi0 (m : Nat) : ∀ args X H',z9q m args = some (X,H') → ACp Tryd.prog GG 19 args X := z3B (by
 intro q _
 exact zbs q sigGG)
theorem zly (m : Nat) (q : z0f) : z9q m [sA q] = some (bA (zDF q),[]) := z3A (ι := z0f) (by
 intro q1 q2 h
 try dsimp only at h ⊢
 simp only [List.cons.injEq,and_true] at h
 rw [zmp h]) (i := q) trivial
def z1R (m : Nat) : List AV → RO := zDW (ι := List Item × List Item) (fun ⟨l,k⟩=>[lA l,lA k]) (fun ⟨l,k⟩=>bA (decide (l = k))) (fun ⟨l,k⟩=>l.length ≤ 34359738368 ∧ k.length ≤ 34359738368)
theorem z8y (m : Nat) : ∀ args X H',z1R m args = some (X,H') → ACp Tryd.prog GG 40 args X := z3B (by
 rintro ⟨l,k⟩ hl
 exact zrW l k hl.1 hl.2)
theorem z9a (m : Nat) (l : List Item) (k : List Item) (hl : l.length ≤ 34359738368 ∧ k.length ≤ 34359738368) : z1R m [lA l,lA k] = some (bA (decide (l = k)),[]) := z3A (ι := List Item × List Item) (by
 rintro ⟨l1,k1⟩ ⟨l2,k2⟩ h
 try dsimp only at h ⊢
 simp only [List.cons.injEq,and_true] at h
 rw [zgG h.1,zgG h.2]) (i := (l,k)) hl
end Go.Proofs.YtaplemeamcgpkaaDoor

namespace Go.Proofs.YtaplemeamcgpkaaDoor
open Go.RowKit
inductive Tag {α : Sort _} (x : α) : Type|mk
def hold {α : Sort _} (x : α) (t : Tag x) : α := x
theorem z75 {α : Sort _} {β : Sort _} {K : α → β} {t : Tag K} {x : α} : hold K t x = K x := rfl
theorem z6B {α : Sort _} {β : Sort _} {γ : Sort _} {K : α → β → γ} {t : Tag K} {x : α} {y : β} : hold K t x y = K x y := rfl
inductive Tg (P : Program) (G : Gl) (N : FS) (n : Nat) (c : Code) (Q : Exit → ASt → Prop) : Type|mk
def AWq {P : Program} {G : Gl} {N : FS} {n : Nat} {c : Code} {Q : Exit → ASt → Prop} (t : Tg P G N n c Q) (s : ASt) : Prop := AWp P G N n c Q s
section
variable {P : Program} {G : Gl} {N : FS} {n : Nat} {c d e : Code} {Q : Exit → ASt → Prop} {s : ASt} {id : Nat} {H : List AObj} {T : Tm} {K : ASt → Prop} {K1 : AV → Prop} {K2 : AV → List AObj → Prop} {ops l r : List Oper} {t : Tmp} {op : Op} {ty : TypeId} {pos : String} {af : Array Edge} {gd : Option (Nat × Bool)} {x y z : AV} {b : Bool} {dst : Option Tmp}
theorem aq (h : AWp P G N n c Q s) : AWq (.mk : Tg P G N n c Q) s := h
def gO (d : Option Tmp) (T : Tm) (w : Bool) (A B : Unit → Prop) : Prop := z4g d T w (A ()) (B ())
def gA (x : AV) (w : Bool) (A B : Unit → Prop) : Prop := z3t x w (A ()) (B ())
def cA (x : AV) (A B : Unit → Prop) : Prop := zsN x (A ()) (B ())
theorem z9O {w : Bool} {A B : Unit → Prop} : gO (some t) T w A B = gA (get T t) w A B := rfl
theorem zq9 {A B : Unit → Prop} : gA (V (.bool true)) true A B = A () := zF8
theorem zp9 {A B : Unit → Prop} : gA (V (.bool true)) false A B = B () := zEc
theorem zpb {A B : Unit → Prop} : gA (V (.bool false)) true A B = B () := zEW
theorem zpE {A B : Unit → Prop} : gA (V (.bool false)) false A B = A () := zFc
theorem z0y {A B : Unit → Prop} {t w : Bool} (h1 : t = true → gA (V (.bool true)) w A B) (h2 : t = false → gA (V (.bool false)) w A B) : gA (V (.bool t)) w A B := by
 cases t
 ·exact h2 rfl
 ·exact h1 rfl
theorem zF6 {A B : Unit → Prop} {t w : Bool} (h : t = true) (k : t = true → gA (V (.bool true)) w A B) : gA (V (.bool t)) w A B := by have k1 := k h;clear k;subst h;exact k1
theorem zCY {A B : Unit → Prop} {t w : Bool} (h : t = false) (k : t = false → gA (V (.bool false)) w A B) : gA (V (.bool t)) w A B := by have k1 := k h;clear k;subst h;exact k1
theorem zE8 {A B : Unit → Prop} {t : Bool} (h : t = true) (k : t = true → A ()) : cA (V (.bool t)) A B := by have k1 := k h;clear k;subst h;exact ⟨fun _=>k1,fun q=>Bool.noConfusion q⟩
theorem zFf {A B : Unit → Prop} {t : Bool} (h : t = false) (k : t = false → B ()) : cA (V (.bool t)) A B := by have k1 := k h;clear k;subst h;exact ⟨fun q=>Bool.noConfusion q,fun _=>k1⟩
theorem zER {t : Bool} (h : t = true) (k : t = true → K1 x) : zdk (V (.bool t)) x y K1 := by have k1 := k h;clear k;subst h;exact k1
theorem zDm {t : Bool} (h : t = false) (k : t = false → K1 y) : zdk (V (.bool t)) x y K1 := by have k1 := k h;clear k;subst h;exact k1
theorem zpB : zdk (V (.bool true)) x y K1 = K1 x := rfl
theorem zpp : zdk (V (.bool false)) x y K1 = K1 y := rfl
theorem z6G {t : Bool} (k : K1 (if t then x else y)) : zdk (V (.bool t)) x y K1 := k
theorem zao {A B : Unit → Prop} : cA (V (.bool true)) A B = A () := zmJ
theorem z6f {A B : Unit → Prop} : cA (V (.bool false)) A B = B () := zi8
theorem z0w {A B : Unit → Prop} {t : Bool} (h1 : t = true → A ()) (h2 : t = false → B ()) : cA (V (.bool t)) A B := ⟨h1,h2⟩
theorem yr (hfit : zEE N ops = true) (hn : n ≤ s.H.length) (h : z21 P G ops ops s (hold (fun s=>AWq (.mk : Tg P G N n d Q) s) .mk)) : AWp P G N n (.seq (.region id ops.toArray false) d) Q s := wr hfit hn h
theorem yr1 (hfit : zEE N ops = true) (hn : n ≤ s.H.length) (h : z21 P G ops ops s (hold (fun s=>Q .normal s) .mk)) : AWp P G N n (.region id ops.toArray false) Q s := wr1 hfit hn h
theorem yx (hm : P.follows .mixedOrders = true) (hsh : z1O ops.toArray = true) (hok : tailOK ops 0 N = true) (hlk : looksT ops = true) (hn : n ≤ s.H.length) (h : z0n P G ops false ops s (hold (fun s=>AWq (.mk : Tg P G N n d Q) s) .mk)) :
 AWp P G N n (.seq (.region id ops.toArray true) d) Q s := wx hm hsh hok hlk hn h
theorem yx1 (hm : P.follows .mixedOrders = true) (hsh : z1O ops.toArray = true) (hok : tailOK ops 0 N = true) (hlk : looksT ops = true) (hn : n ≤ s.H.length) (h : z0n P G ops false ops s (hold (fun s=>Q .normal s) .mk)) :
 AWp P G N n (.region id ops.toArray true) Q s := wx1 hm hsh hok hlk hn h
theorem zCI (h : AWp P G N n c (zuk (fun s=>AWq (.mk : Tg P G N n d Q) s) Q) s) : AWp P G N n (.seq c d) Q s := zcL h
theorem yc {o : Operand} (h : cA (ev G T o) (hold (fun _=>AWq (.mk : Tg P G N n c Q) ⟨H,T⟩) .mk) (hold (fun _=>AWq (.mk : Tg P G N n d Q) ⟨H,T⟩) .mk)) : AWp P G N n (.cond o c d) Q ⟨H,T⟩ := wc h
theorem zDb {rs : List ResultVar} : zzi P rs x .normal ⟨H,T⟩ = zCE P H T rs (hold (fun ds=>ro H (z2s ds) = x) .mk) := rfl
theorem zDH {rs : List ResultVar} : zzi P rs x .ret ⟨H,T⟩ = zCE P H T rs (hold (fun ds=>ro H (z2s ds) = x) .mk) := rfl
theorem zDA {rs : List ResultVar} {H0 : List AObj} : zAg P rs x H0 .normal ⟨H,T⟩ = zCE P H T rs (hold (fun ds=>ro H (z2s ds) = x ∧ HLe H H0) .mk) := rfl
theorem zEa {rs : List ResultVar} {H0 : List AObj} : zAg P rs x H0 .ret ⟨H,T⟩ = zCE P H T rs (hold (fun ds=>ro H (z2s ds) = x ∧ HLe H H0) .mk) := rfl
theorem zE1 {rs : List ResultVar} {m : Nat} {R : AV → List AObj → Prop} : zDQ P rs m R .normal ⟨H,T⟩ = zCE P H T rs (hold (fun ds=>∃ X H',(X = z2s ds ∨ X = ro H (z2s ds)) ∧ HLe H H' ∧ H'.all (ltO H'.length) = true ∧ m ≤ H'.length ∧ ltT H'.length X = true ∧ R X H') .mk) := rfl
theorem zD4 {rs : List ResultVar} {m : Nat} {R : AV → List AObj → Prop} : zDQ P rs m R .ret ⟨H,T⟩ = zCE P H T rs (hold (fun ds=>∃ X H',(X = z2s ds ∨ X = ro H (z2s ds)) ∧ HLe H H' ∧ H'.all (ltO H'.length) = true ∧ m ≤ H'.length ∧ ltT H'.length X = true ∧ R X H') .mk) := rfl
theorem zer {K : List AV → Prop} : zCE P H T [] K = K [] := rfl
theorem zfx {rs : List ResultVar} {K : List AV → Prop} : zCE P H T (.tmp t :: rs) K = zCE P H T rs (hold (fun ds=>K (get T t :: ds)) .mk) := rfl
theorem z9S {q : TypeId} {rs : List ResultVar} {K : List AV → Prop} : zCE P H T (.cell t q :: rs) K = z67 (z0z P q) H (get T t) (hold (fun d=>zCE P H T rs (hold (fun ds=>K (d :: ds)) .mk)) .mk) := rfl
theorem zfk : z21 P G ops [] s K = K s := rfl
theorem z9T : z21 P G ops (⟨some t,op,ty,pos,af,none⟩ :: r) ⟨H,T⟩ K = z08 P G ⟨some t,op,ty,pos,af,none⟩ ⟨H,T⟩ (hold (fun d H'=>z21 P G ops r ⟨H',(t,d) :: T⟩ K) .mk) := rfl
theorem zae : z21 P G ops (⟨none,op,ty,pos,af,none⟩ :: r) ⟨H,T⟩ K = z08 P G ⟨none,op,ty,pos,af,none⟩ ⟨H,T⟩ (hold (fun d H'=>z21 P G ops r ⟨H',T⟩ K) .mk) := rfl
theorem z6x {j : Nat} {w : Bool} : z21 P G ops (⟨some t,op,ty,pos,af,some (j,w)⟩ :: r) ⟨H,T⟩ K = gO (z1N ops j) T w (hold (fun _=>z08 P G ⟨some t,op,ty,pos,af,some (j,w)⟩ ⟨H,T⟩ (hold (fun d H'=>z21 P G ops r ⟨H',(t,d) :: T⟩ K) .mk)) .mk) (hold (fun _=>z21 P G ops r ⟨H,(t,UD) :: T⟩ K) .mk) := zms
theorem z4o {j : Nat} {w : Bool} : z21 P G ops (⟨none,op,ty,pos,af,some (j,w)⟩ :: r) ⟨H,T⟩ K = gO (z1N ops j) T w (hold (fun _=>z08 P G ⟨none,op,ty,pos,af,some (j,w)⟩ ⟨H,T⟩ (hold (fun d H'=>z21 P G ops r ⟨H',T⟩ K) .mk)) .mk) (hold (fun _=>z21 P G ops r ⟨H,T⟩ K) .mk) := zms
theorem z9N {a : Operand} : z08 P G ⟨dst, .move a,ty,pos,af,gd⟩ ⟨H,T⟩ K2 = K2 (ev G T a) H := rfl
theorem z4J {a : Operand} : z08 P G ⟨dst, .assign a,ty,pos,af,gd⟩ ⟨H,T⟩ K2 = K2 (ev G T a) H := rfl
theorem zal {a c d : Operand} : z08 P G ⟨dst, .pick a c d,ty,pos,af,gd⟩ ⟨H,T⟩ K2 = zdk (ev G T a) (ev G T c) (ev G T d) (hold (fun r=>K2 r H) .mk) := rfl
theorem zfh {o : BinOp} {t' t'' : TypeId} {a c : Operand} : z08 P G ⟨dst, .binOp o t' a c t'',ty,pos,af,gd⟩ ⟨H,T⟩ K2 = zF5 P t' o (ev G T a) (ev G T c) (hold (fun r=>K2 r H) .mk) := rfl
theorem zpk {o : UnOp} {t' : TypeId} {a : Operand} : z08 P G ⟨dst, .unOp o t' a,ty,pos,af,gd⟩ ⟨H,T⟩ K2 = aUn o (ev G T a) (hold (fun r=>K2 r H) .mk) := rfl
theorem z6w {t' : TypeId} {ps : Array (Nat × Operand)} : z08 P G ⟨dst, .build t' ps,ty,pos,af,gd⟩ ⟨H,T⟩ K2 = z7o P t' (ps.toList.map fun p=>(p.1,ev G T p.2)) (hold (fun r=>K2 r H) .mk) := rfl
theorem z1k {t' : TypeId} {m : Nat} {ps : Array (Nat × Operand)} : z08 P G ⟨dst, .buildSlice t' m ps,ty,pos,af,gd⟩ ⟨H,T⟩ K2 = z3F P t' m (ps.toList.map fun p=>(p.1,ev G T p.2)) (hold (fun r=>K2 r H) .mk) := rfl
theorem z9X {t' : TypeId} {a : Operand} : z08 P G ⟨dst, .load t' a,ty,pos,af,gd⟩ ⟨H,T⟩ K2 = z67 (z0z P t') H (ev G T a) (hold (fun r=>K2 r H) .mk) := rfl
theorem z2m {a : Operand} : z08 P G ⟨dst, .nilCheck a,ty,pos,af,gd⟩ ⟨H,T⟩ K2 = zEm (ev G T a) (hold (fun r=>K2 r H) .mk) := rfl
theorem zaj {t' t'' : TypeId} {a : Operand} : z08 P G ⟨dst, .convert t' t'' a,ty,pos,af,gd⟩ ⟨H,T⟩ K2 = zec P t' t'' (ro H (ev G T a)) (hold (fun r=>K2 r H) .mk) := rfl
theorem z3a {a : Operand} {i : Nat} : z08 P G ⟨dst, .extract a i,ty,pos,af,gd⟩ ⟨H,T⟩ K2 = z1Z (ev G T a) i (hold (fun r=>K2 r H) .mk) := rfl
theorem z1A {t' : TypeId} {a : Operand} {i : Nat} : z08 P G ⟨dst, .fieldAddr t' a i,ty,pos,af,gd⟩ ⟨H,T⟩ K2 = z6u (z20 P t' i) (ev G T a) (hold (fun r=>K2 r H) .mk) := rfl
theorem z6i {t' : TypeId} {a : Operand} {i : Nat} : z08 P G ⟨dst, .field t' a i,ty,pos,af,gd⟩ ⟨H,T⟩ K2 = z3D (z20 P t' i) (ev G T a) (hold (fun r=>K2 r H) .mk) := rfl
theorem z1B {t' : TypeId} {a c : Operand} : z08 P G ⟨dst, .indexAddr t' a c,ty,pos,af,gd⟩ ⟨H,T⟩ K2 = z3c P t' H (ev G T a) (ev G T c) (hold (fun r=>K2 r H) .mk) := rfl
theorem z6h {t' : TypeId} {a c : Operand} : z08 P G ⟨dst, .index t' a c,ty,pos,af,gd⟩ ⟨H,T⟩ K2 = z39 P t' (ev G T a) (ev G T c) (hold (fun r=>K2 r H) .mk) := rfl
theorem z6Y {t' : TypeId} {a : Operand} {lo hi : Option Operand} : z08 P G ⟨dst, .slice t' a lo hi none,ty,pos,af,gd⟩ ⟨H,T⟩ K2 = z4X P t' H (ev G T a) (lo.map (ev G T)) (hi.map (ev G T)) (hold (fun r=>K2 r H) .mk) := rfl
theorem zeJ {t' : TypeId} {a : Operand} : z08 P G ⟨dst, .call { callee := .builtin .len,args := #[a],argTypes := #[t'] },ty,pos,af,gd⟩ ⟨H,T⟩ K2 = zCJ P t' H (ev G T a) (hold (fun r=>K2 r H) .mk) := rfl
theorem z6O {q : TypeId} : z08 P G ⟨dst, .alloc q,ty,pos,af,gd⟩ ⟨H,T⟩ K2 = zlv (z7r P q) q H K2 := rfl
theorem zew {q : TypeId} {a : Operand} : z08 P G ⟨dst, .box q a,ty,pos,af,gd⟩ ⟨H,T⟩ K2 = ((cellsOf (ev G T a)).all zCU = true ∧ K2 (OP H.length 0) (H ++ [⟨1,q,0,cellsOf (ev G T a)⟩])) := rfl
theorem z6d {q : TypeId} {a b : Operand} : z08 P G ⟨dst, .store q a b,ty,pos,af,gd⟩ ⟨H,T⟩ K2 = z5M (z0z P q) H (ev G T a) (ev G T b) (hold (fun H'=>K2 .nil H') .mk) := rfl
theorem z9V {f : FuncId} {ags : Array Operand} {ts : Array TypeId} : z08 P G ⟨dst, .call { callee := .value (.func f),args := ags,argTypes := ts },ty,pos,af,gd⟩ ⟨H,T⟩ K2 = AC P G f ((ags.toList.map (ev G T)).map (ro H)) H K2 := rfl
theorem z4I {q : TypeId} {a b : Operand} : z08 P G ⟨dst, .call { callee := .builtin .append,args := #[a,b],argTypes := #[q,q] },ty,pos,af,gd⟩ ⟨H,T⟩ K2 = zDr P q H (ev G T a) (ev G T b) K2 := if_pos rfl
theorem z2l {fn : Fn} {first caps : Array Operand} : z08 P G ⟨dst, .makeFunc fn first caps,ty,pos,af,gd⟩ ⟨H,T⟩ K2 = (((first.toList ++ caps.toList).map (ev G T)).all zDh = true ∧ K2 (CL fn first.toList.length ((first.toList ++ caps.toList).map (ev G T))) H) := rfl
theorem z6j {q : Tmp} {ags : Array Operand} {ts : Array TypeId} : z08 P G ⟨dst, .call { callee := .value (.tmp q),args := ags,argTypes := ts },ty,pos,af,gd⟩ ⟨H,T⟩ K2 = zcj P G (get T q) (ags.toList.map (ev G T)) H K2 := rfl
theorem zet : z0n P G ops b [] s K = K s := rfl
theorem z6A {q : TypeId} : z0n P G ops b (⟨some t, .alloc q,ty,pos,af,none⟩ :: r) ⟨H,T⟩ K = zlv (z7r P q) q H (hold (fun d H'=>z0n P G ops true r ⟨H',(t,d) :: T⟩ K) .mk) := zsf
theorem z6H {q : TypeId} {a c : Operand} : z0n P G ops b (⟨none, .store q a c,ty,pos,af,none⟩ :: r) ⟨H,T⟩ K = z5M (z0z P q) H (ev G T a) (ev G T c) (hold (fun H'=>z0n P G ops true r ⟨H',T⟩ K) .mk) := zr1
theorem z9P {a : Operand} : z0n P G ops b (⟨some t, .move a,ty,pos,af,none⟩ :: r) ⟨H,T⟩ K = (okX b (.move a) ∧ z0n P G ops b r ⟨H,(t,ev G T a) :: T⟩ K) := by rw [zx2,zoT];rfl
theorem za0 {a : Operand} {j : Nat} {w : Bool} : z0n P G ops false (⟨some t, .move a,ty,pos,af,some (j,w)⟩ :: r) ⟨H,T⟩ K = gO (z1N ops j) T w (hold (fun _=>z0n P G ops false r ⟨H,(t,ev G T a) :: T⟩ K) .mk) (hold (fun _=>z0n P G ops false r ⟨H,(t,UD) :: T⟩ K) .mk) := by rw [zvU,zoT];rfl
theorem z4q {a : Operand} : z0n P G ops b (⟨some t, .assign a,ty,pos,af,none⟩ :: r) ⟨H,T⟩ K = (okX b (.assign a) ∧ z0n P G ops b r ⟨H,(t,ev G T a) :: T⟩ K) := by rw [znO,ziv];rfl
theorem z4x {a : Operand} {j : Nat} {w : Bool} : z0n P G ops false (⟨some t, .assign a,ty,pos,af,some (j,w)⟩ :: r) ⟨H,T⟩ K = gO (z1N ops j) T w (hold (fun _=>z0n P G ops false r ⟨H,(t,ev G T a) :: T⟩ K) .mk) (hold (fun _=>z0n P G ops false r ⟨H,(t,UD) :: T⟩ K) .mk) := by rw [zoJ,ziv];rfl
theorem za8 {a c d : Operand} : z0n P G ops b (⟨some t, .pick a c d,ty,pos,af,none⟩ :: r) ⟨H,T⟩ K = (okX b (.pick a c d) ∧ zdk (ev G T a) (ev G T c) (ev G T d) (hold (fun v=>z0n P G ops b r ⟨H,(t,v) :: T⟩ K) .mk)) := by rw [zx0,zpI];rfl
theorem zam {a c d : Operand} {j : Nat} {w : Bool} : z0n P G ops false (⟨some t, .pick a c d,ty,pos,af,some (j,w)⟩ :: r) ⟨H,T⟩ K = gO (z1N ops j) T w (hold (fun _=>zdk (ev G T a) (ev G T c) (ev G T d) (hold (fun v=>z0n P G ops false r ⟨H,(t,v) :: T⟩ K) .mk)) .mk) (hold (fun _=>z0n P G ops false r ⟨H,(t,UD) :: T⟩ K) .mk) := by rw [zvk,zpI];rfl
theorem zfA {o : BinOp} {t' t'' : TypeId} {a c : Operand} : z0n P G ops b (⟨some t, .binOp o t' a c t'',ty,pos,af,none⟩ :: r) ⟨H,T⟩ K = (okX b (.binOp o t' a c t'') ∧ zF5 P t' o (ev G T a) (ev G T c) (hold (fun v=>z0n P G ops b r ⟨H,(t,v) :: T⟩ K) .mk)) := by rw [zzm,ztA];rfl
theorem zfQ {o : BinOp} {t' t'' : TypeId} {a c : Operand} {j : Nat} {w : Bool} : z0n P G ops false (⟨some t, .binOp o t' a c t'',ty,pos,af,some (j,w)⟩ :: r) ⟨H,T⟩ K = gO (z1N ops j) T w (hold (fun _=>zF5 P t' o (ev G T a) (ev G T c) (hold (fun v=>z0n P G ops false r ⟨H,(t,v) :: T⟩ K) .mk)) .mk) (hold (fun _=>z0n P G ops false r ⟨H,(t,UD) :: T⟩ K) .mk) := by rw [zA9,ztA];rfl
theorem zpK {o : UnOp} {t' : TypeId} {a : Operand} : z0n P G ops b (⟨some t, .unOp o t' a,ty,pos,af,none⟩ :: r) ⟨H,T⟩ K = (okX b (.unOp o t' a) ∧ aUn o (ev G T a) (hold (fun v=>z0n P G ops b r ⟨H,(t,v) :: T⟩ K) .mk)) := by rw [zBJ,zB4];rfl
theorem zpm {o : UnOp} {t' : TypeId} {a : Operand} {j : Nat} {w : Bool} : z0n P G ops false (⟨some t, .unOp o t' a,ty,pos,af,some (j,w)⟩ :: r) ⟨H,T⟩ K = gO (z1N ops j) T w (hold (fun _=>aUn o (ev G T a) (hold (fun v=>z0n P G ops false r ⟨H,(t,v) :: T⟩ K) .mk)) .mk) (hold (fun _=>z0n P G ops false r ⟨H,(t,UD) :: T⟩ K) .mk) := by rw [zCo,zB4];rfl
theorem z6r {t' : TypeId} {ps : Array (Nat × Operand)} : z0n P G ops b (⟨some t, .build t' ps,ty,pos,af,none⟩ :: r) ⟨H,T⟩ K = (okX b (.build t' ps) ∧ z7o P t' (ps.toList.map fun p=>(p.1,ev G T p.2)) (hold (fun v=>z0n P G ops b r ⟨H,(t,v) :: T⟩ K) .mk)) := by rw [zrg,zkg];rfl
theorem z6P {t' : TypeId} {ps : Array (Nat × Operand)} {j : Nat} {w : Bool} : z0n P G ops false (⟨some t, .build t' ps,ty,pos,af,some (j,w)⟩ :: r) ⟨H,T⟩ K = gO (z1N ops j) T w (hold (fun _=>z7o P t' (ps.toList.map fun p=>(p.1,ev G T p.2)) (hold (fun v=>z0n P G ops false r ⟨H,(t,v) :: T⟩ K) .mk)) .mk) (hold (fun _=>z0n P G ops false r ⟨H,(t,UD) :: T⟩ K) .mk) := by rw [zrl,zkg];rfl
theorem z1j {t' : TypeId} {m : Nat} {ps : Array (Nat × Operand)} : z0n P G ops b (⟨some t, .buildSlice t' m ps,ty,pos,af,none⟩ :: r) ⟨H,T⟩ K = (okX b (.buildSlice t' m ps) ∧ z3F P t' m (ps.toList.map fun p=>(p.1,ev G T p.2)) (hold (fun v=>z0n P G ops b r ⟨H,(t,v) :: T⟩ K) .mk)) := by rw [zeA,z9Q];rfl
theorem z1h {t' : TypeId} {m : Nat} {ps : Array (Nat × Operand)} {j : Nat} {w : Bool} : z0n P G ops false (⟨some t, .buildSlice t' m ps,ty,pos,af,some (j,w)⟩ :: r) ⟨H,T⟩ K = gO (z1N ops j) T w (hold (fun _=>z3F P t' m (ps.toList.map fun p=>(p.1,ev G T p.2)) (hold (fun v=>z0n P G ops false r ⟨H,(t,v) :: T⟩ K) .mk)) .mk) (hold (fun _=>z0n P G ops false r ⟨H,(t,UD) :: T⟩ K) .mk) := by rw [zfd,z9Q];rfl
theorem za2 {t' : TypeId} {a : Operand} : z0n P G ops b (⟨some t, .load t' a,ty,pos,af,none⟩ :: r) ⟨H,T⟩ K = (okX b (.load t' a) ∧ z67 (z0z P t') H (ev G T a) (hold (fun v=>z0n P G ops b r ⟨H,(t,v) :: T⟩ K) .mk)) := by rw [zv3,zoR];rfl
theorem z9I {t' : TypeId} {a : Operand} {j : Nat} {w : Bool} : z0n P G ops false (⟨some t, .load t' a,ty,pos,af,some (j,w)⟩ :: r) ⟨H,T⟩ K = gO (z1N ops j) T w (hold (fun _=>z67 (z0z P t') H (ev G T a) (hold (fun v=>z0n P G ops false r ⟨H,(t,v) :: T⟩ K) .mk)) .mk) (hold (fun _=>z0n P G ops false r ⟨H,(t,UD) :: T⟩ K) .mk) := by rw [ztd,zoR];rfl
theorem z2o {a : Operand} : z0n P G ops b (⟨some t, .nilCheck a,ty,pos,af,none⟩ :: r) ⟨H,T⟩ K = (okX b (.nilCheck a) ∧ zEm (ev G T a) (hold (fun v=>z0n P G ops b r ⟨H,(t,v) :: T⟩ K) .mk)) := by rw [zjj,zcx];rfl
theorem z2h {a : Operand} {j : Nat} {w : Bool} : z0n P G ops false (⟨some t, .nilCheck a,ty,pos,af,some (j,w)⟩ :: r) ⟨H,T⟩ K = gO (z1N ops j) T w (hold (fun _=>zEm (ev G T a) (hold (fun v=>z0n P G ops false r ⟨H,(t,v) :: T⟩ K) .mk)) .mk) (hold (fun _=>z0n P G ops false r ⟨H,(t,UD) :: T⟩ K) .mk) := by rw [ziZ,zcx];rfl
theorem za9 {t' t'' : TypeId} {a : Operand} : z0n P G ops b (⟨some t, .convert t' t'' a,ty,pos,af,none⟩ :: r) ⟨H,T⟩ K = (okX b (.convert t' t'' a) ∧ zec P t' t'' (ro H (ev G T a)) (hold (fun v=>z0n P G ops b r ⟨H,(t,v) :: T⟩ K) .mk)) := by rw [zuO,zpT];rfl
theorem za3 {t' t'' : TypeId} {a : Operand} {j : Nat} {w : Bool} : z0n P G ops false (⟨some t, .convert t' t'' a,ty,pos,af,some (j,w)⟩ :: r) ⟨H,T⟩ K = gO (z1N ops j) T w (hold (fun _=>zec P t' t'' (ro H (ev G T a)) (hold (fun v=>z0n P G ops false r ⟨H,(t,v) :: T⟩ K) .mk)) .mk) (hold (fun _=>z0n P G ops false r ⟨H,(t,UD) :: T⟩ K) .mk) := by rw [zuH,zpT];rfl
theorem z35 {a : Operand} {i : Nat} : z0n P G ops b (⟨some t, .extract a i,ty,pos,af,none⟩ :: r) ⟨H,T⟩ K = (okX b (.extract a i) ∧ z1Z (ev G T a) i (hold (fun v=>z0n P G ops b r ⟨H,(t,v) :: T⟩ K) .mk)) := by rw [zjV,zft];rfl
theorem z38 {a : Operand} {i : Nat} {j : Nat} {w : Bool} : z0n P G ops false (⟨some t, .extract a i,ty,pos,af,some (j,w)⟩ :: r) ⟨H,T⟩ K = gO (z1N ops j) T w (hold (fun _=>z1Z (ev G T a) i (hold (fun v=>z0n P G ops false r ⟨H,(t,v) :: T⟩ K) .mk)) .mk) (hold (fun _=>z0n P G ops false r ⟨H,(t,UD) :: T⟩ K) .mk) := by rw [zkT,zft];rfl
theorem z1L {t' : TypeId} {a : Operand} {i : Nat} : z0n P G ops b (⟨some t, .fieldAddr t' a i,ty,pos,af,none⟩ :: r) ⟨H,T⟩ K = (okX b (.fieldAddr t' a i) ∧ z6u (z20 P t' i) (ev G T a) (hold (fun v=>z0n P G ops b r ⟨H,(t,v) :: T⟩ K) .mk)) := by rw [zhb,zbZ];rfl
theorem z1y {t' : TypeId} {a : Operand} {i : Nat} {j : Nat} {w : Bool} : z0n P G ops false (⟨some t, .fieldAddr t' a i,ty,pos,af,some (j,w)⟩ :: r) ⟨H,T⟩ K = gO (z1N ops j) T w (hold (fun _=>z6u (z20 P t' i) (ev G T a) (hold (fun v=>z0n P G ops false r ⟨H,(t,v) :: T⟩ K) .mk)) .mk) (hold (fun _=>z0n P G ops false r ⟨H,(t,UD) :: T⟩ K) .mk) := by rw [zgn,zbZ];rfl
theorem z6E {t' : TypeId} {a : Operand} {i : Nat} : z0n P G ops b (⟨some t, .field t' a i,ty,pos,af,none⟩ :: r) ⟨H,T⟩ K = (okX b (.field t' a i) ∧ z3D (z20 P t' i) (ev G T a) (hold (fun v=>z0n P G ops b r ⟨H,(t,v) :: T⟩ K) .mk)) := by rw [zrV,zjR];rfl
theorem z6Q {t' : TypeId} {a : Operand} {i : Nat} {j : Nat} {w : Bool} : z0n P G ops false (⟨some t, .field t' a i,ty,pos,af,some (j,w)⟩ :: r) ⟨H,T⟩ K = gO (z1N ops j) T w (hold (fun _=>z3D (z20 P t' i) (ev G T a) (hold (fun v=>z0n P G ops false r ⟨H,(t,v) :: T⟩ K) .mk)) .mk) (hold (fun _=>z0n P G ops false r ⟨H,(t,UD) :: T⟩ K) .mk) := by rw [zqB,zjR];rfl
theorem z1C {t' : TypeId} {a c : Operand} : z0n P G ops b (⟨some t, .indexAddr t' a c,ty,pos,af,none⟩ :: r) ⟨H,T⟩ K = (okX b (.indexAddr t' a c) ∧ z3c P t' H (ev G T a) (ev G T c) (hold (fun v=>z0n P G ops b r ⟨H,(t,v) :: T⟩ K) .mk)) := by rw [zgp,zba];rfl
theorem z1E {t' : TypeId} {a c : Operand} {j : Nat} {w : Bool} : z0n P G ops false (⟨some t, .indexAddr t' a c,ty,pos,af,some (j,w)⟩ :: r) ⟨H,T⟩ K = gO (z1N ops j) T w (hold (fun _=>z3c P t' H (ev G T a) (ev G T c) (hold (fun v=>z0n P G ops false r ⟨H,(t,v) :: T⟩ K) .mk)) .mk) (hold (fun _=>z0n P G ops false r ⟨H,(t,UD) :: T⟩ K) .mk) := by rw [zgy,zba];rfl
theorem z6J {t' : TypeId} {a c : Operand} : z0n P G ops b (⟨some t, .index t' a c,ty,pos,af,none⟩ :: r) ⟨H,T⟩ K = (okX b (.index t' a c) ∧ z39 P t' (ev G T a) (ev G T c) (hold (fun v=>z0n P G ops b r ⟨H,(t,v) :: T⟩ K) .mk)) := by rw [zqX,zl9];rfl
theorem z6U {t' : TypeId} {a c : Operand} {j : Nat} {w : Bool} : z0n P G ops false (⟨some t, .index t' a c,ty,pos,af,some (j,w)⟩ :: r) ⟨H,T⟩ K = gO (z1N ops j) T w (hold (fun _=>z39 P t' (ev G T a) (ev G T c) (hold (fun v=>z0n P G ops false r ⟨H,(t,v) :: T⟩ K) .mk)) .mk) (hold (fun _=>z0n P G ops false r ⟨H,(t,UD) :: T⟩ K) .mk) := by rw [zqP,zl9];rfl
theorem z6M {t' : TypeId} {a : Operand} {lo hi : Option Operand} : z0n P G ops b (⟨some t, .slice t' a lo hi none,ty,pos,af,none⟩ :: r) ⟨H,T⟩ K = (okX b (.slice t' a lo hi none) ∧ z4X P t' H (ev G T a) (lo.map (ev G T)) (hi.map (ev G T)) (hold (fun v=>z0n P G ops b r ⟨H,(t,v) :: T⟩ K) .mk)) := by rw [zsr,zjL];rfl
theorem z6m {t' : TypeId} {a : Operand} {lo hi : Option Operand} {j : Nat} {w : Bool} : z0n P G ops false (⟨some t, .slice t' a lo hi none,ty,pos,af,some (j,w)⟩ :: r) ⟨H,T⟩ K = gO (z1N ops j) T w (hold (fun _=>z4X P t' H (ev G T a) (lo.map (ev G T)) (hi.map (ev G T)) (hold (fun v=>z0n P G ops false r ⟨H,(t,v) :: T⟩ K) .mk)) .mk) (hold (fun _=>z0n P G ops false r ⟨H,(t,UD) :: T⟩ K) .mk) := by rw [zsq,zjL];rfl
theorem zen {t' : TypeId} {a : Operand} : z0n P G ops b (⟨some t, .call { callee := .builtin .len,args := #[a],argTypes := #[t'] },ty,pos,af,none⟩ :: r) ⟨H,T⟩ K = (okX b (.call { callee := .builtin .len,args := #[a],argTypes := #[t'] }) ∧ zCJ P t' H (ev G T a) (hold (fun v=>z0n P G ops b r ⟨H,(t,v) :: T⟩ K) .mk)) := by rw [zpG,zuK];rfl
theorem zfm {t' : TypeId} {a : Operand} {j : Nat} {w : Bool} : z0n P G ops false (⟨some t, .call { callee := .builtin .len,args := #[a],argTypes := #[t'] },ty,pos,af,some (j,w)⟩ :: r) ⟨H,T⟩ K = gO (z1N ops j) T w (hold (fun _=>zCJ P t' H (ev G T a) (hold (fun v=>z0n P G ops false r ⟨H,(t,v) :: T⟩ K) .mk)) .mk) (hold (fun _=>z0n P G ops false r ⟨H,(t,UD) :: T⟩ K) .mk) := by rw [zq3,zuK];rfl
theorem z9Z {f : FuncId} {ags : Array Operand} {ts : Array TypeId} : z0n P G ops b (⟨some t, .call { callee := .value (.func f),args := ags,argTypes := ts },ty,pos,af,none⟩ :: r) ⟨H,T⟩ K = (okX b (.call { callee := .value (.func f),args := ags,argTypes := ts }) ∧ zsW P G f ((ags.toList.map (ev G T)).map (ro H)) (hold (fun v=>z0n P G ops b r ⟨H,(t,v) :: T⟩ K) .mk)) := by rw [zpG,zqp];rfl
theorem za5 {f : FuncId} {ags : Array Operand} {ts : Array TypeId} {j : Nat} {w : Bool} : z0n P G ops false (⟨some t, .call { callee := .value (.func f),args := ags,argTypes := ts },ty,pos,af,some (j,w)⟩ :: r) ⟨H,T⟩ K = gO (z1N ops j) T w (hold (fun _=>zsW P G f ((ags.toList.map (ev G T)).map (ro H)) (hold (fun v=>z0n P G ops false r ⟨H,(t,v) :: T⟩ K) .mk)) .mk) (hold (fun _=>z0n P G ops false r ⟨H,(t,UD) :: T⟩ K) .mk) := by rw [zq3,zqp];rfl
end
end Go.Proofs.YtaplemeamcgpkaaDoor

namespace Go.Proofs.YtaplemeamcgpkaaDoor
open Go.RowKit
theorem zF2 : z0z Tryd.prog 3 = 1 := by kernel_rfl
theorem zD5 : z0z Tryd.prog 5 = 1 := by kernel_rfl
theorem zCy : z0z Tryd.prog 9 = 1 := by kernel_rfl
theorem zxM : z0z Tryd.prog 22 = 1 := by kernel_rfl
theorem zy1 : z0z Tryd.prog 23 = 18 := by kernel_rfl
theorem zxr : z0z Tryd.prog 24 = 18 := by kernel_rfl
theorem zxz : z0z Tryd.prog 26 = 34 := by kernel_rfl
theorem zyg : z0z Tryd.prog 28 = 37 := by kernel_rfl
theorem zy9 : z0z Tryd.prog 31 = 1 := by kernel_rfl
theorem zyq : z0z Tryd.prog 65 = 5 := by kernel_rfl
theorem zyj : z0z Tryd.prog 67 = 6 := by kernel_rfl
theorem zyf : z0z Tryd.prog 71 = 4 := by kernel_rfl
theorem zxA : z0z Tryd.prog 79 = 7 := by kernel_rfl
theorem zy3 : z0z Tryd.prog 89 = 1 := by kernel_rfl
theorem zox : z0z Tryd.prog 135 = 1 := by kernel_rfl
theorem ziu : z20 Tryd.prog 26 0 = some (0,18) := by kernel_rfl
theorem zhJ : z20 Tryd.prog 26 1 = some (16,18) := by kernel_rfl
theorem zif : z20 Tryd.prog 28 0 = some (0,34) := by kernel_rfl
theorem zhE : z20 Tryd.prog 28 1 = some (32,1) := by kernel_rfl
theorem zhR : z20 Tryd.prog 28 2 = some (33,1) := by kernel_rfl
theorem ziF : z20 Tryd.prog 28 3 = some (34,1) := by kernel_rfl
theorem zhe : z20 Tryd.prog 65 0 = some (0,1) := by kernel_rfl
theorem zi6 : z20 Tryd.prog 65 2 = some (2,1) := by kernel_rfl
theorem zhx : z20 Tryd.prog 67 0 = some (0,1) := by kernel_rfl
theorem zir : z20 Tryd.prog 67 1 = some (1,5) := by kernel_rfl
theorem ziz : z20 Tryd.prog 71 0 = some (0,1) := by kernel_rfl
theorem zhu : z20 Tryd.prog 71 1 = some (1,1) := by kernel_rfl
theorem zi1 : z20 Tryd.prog 79 0 = some (0,1) := by kernel_rfl
theorem zhh : z20 Tryd.prog 79 1 = some (1,5) := by kernel_rfl
theorem zih : z20 Tryd.prog 79 2 = some (4,1) := by kernel_rfl
theorem zEV : z1Y Tryd.prog 9 = none := by kernel_rfl
theorem zya : z1Y Tryd.prog 22 = some (79,7) := by kernel_rfl
theorem zxy : z1Y Tryd.prog 23 = none := by kernel_rfl
theorem zyh : z1Y Tryd.prog 24 = none := by kernel_rfl
theorem zxD : z1Y Tryd.prog 29 = some (67,6) := by kernel_rfl
theorem zxj : z1Y Tryd.prog 87 = some (89,1) := by kernel_rfl
theorem zxY : z1Y Tryd.prog 89 = some (5,1) := by kernel_rfl
theorem zna : z1Y Tryd.prog 138 = none := by kernel_rfl
theorem zFL : z4m Tryd.prog 9 = none := by kernel_rfl
theorem zyn : z4m Tryd.prog 22 = none := by kernel_rfl
theorem zym : z4m Tryd.prog 23 = some (16,1) := by kernel_rfl
theorem zxw : z4m Tryd.prog 24 = some (16,1) := by kernel_rfl
theorem zy6 : z4m Tryd.prog 29 = none := by kernel_rfl
theorem zxq : z4m Tryd.prog 87 = none := by kernel_rfl
theorem zxJ : z4m Tryd.prog 89 = none := by kernel_rfl
theorem zn9 : z4m Tryd.prog 138 = some (2,1) := by kernel_rfl
theorem zy0 : z7I Tryd.prog 26 = some [(0,16),(16,16)] := by kernel_rfl
theorem zxZ : z7I Tryd.prog 28 = some [(0,32),(32,1),(33,1),(34,1)] := by kernel_rfl
theorem zy7 : z7I Tryd.prog 71 = some [(0,1),(1,1)] := by kernel_rfl
theorem zxB : z7I Tryd.prog 79 = some [(0,1),(1,3),(4,1)] := by kernel_rfl
theorem zxs : zEP Tryd.prog 22 = some (79,5) := by kernel_rfl
theorem zxm : zEP Tryd.prog 87 = some (89,1) := by kernel_rfl
theorem zxV : zEP Tryd.prog 89 = some (5,1) := by kernel_rfl
theorem zDO : zF0 Tryd.prog 3 = some .i64 := by kernel_rfl
theorem zDz : zF0 Tryd.prog 5 = some .u8 := by kernel_rfl
theorem zoD : zF0 Tryd.prog 135 = some .u64 := by kernel_rfl
theorem zDP : z7r Tryd.prog 3 = some [V (Value.int IntKind.i64 0)] := by kernel_rfl
theorem zCh : z7r Tryd.prog 26 = some [V (Value.slice none 0 0),V (Value.slice none 0 0),V (Value.slice none 0 0),V (Value.slice none 0 0),V (Value.slice none 0 0),V (Value.slice none 0 0),V (Value.slice none 0 0),V (Value.slice none 0 0),V (Value.slice none 0 0),V (Value.slice none 0 0),V (Value.slice none 0 0),V (Value.slice none 0 0),V (Value.slice none 0 0),V (Value.slice none 0 0),V (Value.slice none 0 0),V (Value.slice none 0 0),V (Value.int IntKind.i64 0),V (Value.int IntKind.i64 0),V (Value.int IntKind.i64 0),V (Value.int IntKind.i64 0),V (Value.int IntKind.i64 0),V (Value.int IntKind.i64 0),V (Value.int IntKind.i64 0),V (Value.int IntKind.i64 0),V (Value.int IntKind.i64 0),V (Value.int IntKind.i64 0),V (Value.int IntKind.i64 0),V (Value.int IntKind.i64 0),V (Value.int IntKind.i64 0),V (Value.int IntKind.i64 0),V (Value.int IntKind.i64 0),V (Value.int IntKind.i64 0)] := by kernel_rfl
theorem zxK : z7r Tryd.prog 28 = some [V (Value.slice none 0 0),V (Value.slice none 0 0),V (Value.slice none 0 0),V (Value.slice none 0 0),V (Value.slice none 0 0),V (Value.slice none 0 0),V (Value.slice none 0 0),V (Value.slice none 0 0),V (Value.slice none 0 0),V (Value.slice none 0 0),V (Value.slice none 0 0),V (Value.slice none 0 0),V (Value.slice none 0 0),V (Value.slice none 0 0),V (Value.slice none 0 0),V (Value.slice none 0 0),V (Value.int IntKind.i64 0),V (Value.int IntKind.i64 0),V (Value.int IntKind.i64 0),V (Value.int IntKind.i64 0),V (Value.int IntKind.i64 0),V (Value.int IntKind.i64 0),V (Value.int IntKind.i64 0),V (Value.int IntKind.i64 0),V (Value.int IntKind.i64 0),V (Value.int IntKind.i64 0),V (Value.int IntKind.i64 0),V (Value.int IntKind.i64 0),V (Value.int IntKind.i64 0),V (Value.int IntKind.i64 0),V (Value.int IntKind.i64 0),V (Value.int IntKind.i64 0),V (Value.int IntKind.i64 0),V (Value.int IntKind.i64 0),V (Value.int IntKind.i64 0)] := by kernel_rfl
theorem zxo : z7r Tryd.prog 31 = some [V (Value.int IntKind.i64 0)] := by kernel_rfl
theorem zxk : z7r Tryd.prog 65 = some [V (Value.int IntKind.i64 0),V (Value.int IntKind.i64 0),V (Value.string ⟨#[]⟩)] := by kernel_rfl
theorem zxC : z7r Tryd.prog 67 = some [V (Value.string ⟨#[]⟩),V (Value.int IntKind.i64 0),V (Value.int IntKind.i64 0),V (Value.string ⟨#[]⟩)] := by kernel_rfl
theorem zxE : z7r Tryd.prog 71 = some [V (Value.int IntKind.i64 0),V (Value.int IntKind.i64 0)] := by kernel_rfl
theorem zxO : z7r Tryd.prog 79 = some [V (Value.string ⟨#[]⟩),V (Value.int IntKind.i64 0),V (Value.int IntKind.i64 0),V (Value.string ⟨#[]⟩),V (Value.int IntKind.i64 0)] := by kernel_rfl
theorem zCM : (Tryd.prog.underlying 3).isSome = true := by kernel_rfl
theorem zCx : (Tryd.prog.underlying 5).isSome = true := by kernel_rfl
theorem zET : Tryd.prog.underlying 9 = some .string := by kernel_rfl
theorem zFV : (Tryd.prog.underlying 9).isSome = true := by kernel_rfl
theorem zxX : (Tryd.prog.underlying 31).isSome = true := by kernel_rfl
theorem zo3 : (Tryd.prog.underlying 135).isSome = true := by kernel_rfl
end Go.Proofs.YtaplemeamcgpkaaDoor

section
namespace Go.Proofs.YtaplemeamcgpkaaDoor
attribute [local go_sem] zcW z95 zoB zoh ze7 znr zxN zyr zxF zyp zsb zg4 zl6 zm7 zz8 zyT zwW z2K zz1 zop zix zdZ zAc zzs zA4 zea zdR zkx zgU zrn zg8 zkV zkc zk1 zgk zdg ze6 zgK zlt zg2 zei zgh zlL zdx ziE zdn zis znp zyU zAb zyu zzL zAv zAr zyF lt1 zgW zfY z7S zsL zgg zlj zdW ze1 zqV zkQ zrA zhd zsp zqZ zmw zge zmj zdc zk5 zzP zzr zzW zzl zA0 zzE zDV zzz zga zyt zAm zyz zAw zz5 zze zyI zAt zzN zyV zyY zAu zzf zF8 zEc zEW zFc zmJ zi8 zyK zgr zg5 ze5 zdp zz3 zsO zqz zD2 zrO zrM zqO zrX zzj zyS zFg zr9 zmU zFJ zdB zxU zyl zn4 zou z8k zhj zhF zed zdI zmW zic ixS zDU zEv zin zds zh9 zrF zrZ zki zdr zmg zk4 zgT zh3 zr8 zkZ znz zib zoy ziJ ze0 zoF zxx zsb znV zy4 zhN zxT zaW zg4 zmN zhT zol zhZ znG ziH zdN zmy zyi zgL zgf zbf zxi zhM zaU znQ zoI zhB zi3 zdH zbN zh7 zdq z9r zcW z95 zr6 zkB zE0 zyd znI zye zxp zow zxI zFE zyk znE zxH zxh zmL zEj zy8 zn7 zxt zxG zxQ z7S beq_self_eq_true Nat.zero_lt_succ Nat.lt_add_one true_or or_true Bool.or_self Nat.zero_add Nat.add_zero Nat.mul_one Int.toNat_natCast Int.natCast_zero Int.natCast_add Int.cast_ofNat_Int or_false false_or or_true true_or Nat.sub_zero Int.natCast_nonneg Int.toNat_zero Bool.true_and Bool.and_true Bool.false_and Bool.and_false Bool.true_or Bool.or_true Bool.false_or Bool.or_false Bool.not_true Bool.not_false Bool.not_not true_and and_true false_and and_false not_true_eq_false not_false_eq_true eq_self decide_true decide_false ne_eq implies_true forall_const true_implies false_implies Bool.true_eq_false Bool.false_eq_true List.map_cons List.map_nil List.all_cons List.all_nil List.length_cons List.length_nil List.length_map List.length_append List.nil_append List.cons_append List.set_cons_zero List.set_cons_succ List.set_nil List.drop_zero List.drop_succ_cons List.drop_nil List.take_zero List.take_succ_cons List.take_nil Option.map_some Option.map_none Option.isSome_some
attribute [local go_sem_proc] Nat.reduceEqDiff Nat.reduceAdd Nat.reduceSub Nat.reduceMul Nat.reduceLeDiff Nat.reduceLT Int.reduceEq Int.reduceNe Int.reduceLT Int.reduceLE Int.reduceAdd Int.reduceSub Int.reduceMul Int.reduceNeg Int.reduceToNat reduceCtorEq
attribute [local go_sem_proc ↓] reduceIte
section
open Go.RowKit
theorem zxW (x : Item) : flA Item.cells x = .agg [V (.string ⟨x.key.toArray⟩),V (.int .i64 x.kind),V (.int .i64 x.i),V (.string ⟨x.s.toArray⟩),V (.int .i64 x.ver)] := _root_.id rfl
theorem zeq (l : List Item) : allC 5 (l.map (flA Item.cells)) = True := zjW fun x=>rfl
def zlr (l : List Item) (k : Nat) : List AV := ((l.take k).map Item.one).map (flA Item.cells)
theorem zaO (l : List Item) (k : Nat) : allC 5 (zlr l k) = True := zeq _
theorem zw4 (l : List Item) (m : Nat) : (l.map (flA Item.cells)).all (ltA m) = true := by
 simp only [List.all_map,List.all_eq_true,Function.comp_apply]
 exact fun x _=>rfl
theorem zio (l : List Item) (k m : Nat) : (zlr l k).all (ltA m) = true := zw4 _ m
theorem zm3 (l : List Item) : zlr l 0 = [] := _root_.id rfl
theorem z00 (l : List Item) {k : Nat} (h : k ≤ l.length) : (zlr l k).length = k := by simp [zlr];omega
theorem zf7 (l : List Item) {k : Nat} (h : k < l.length) : zlr l k ++ [iA l[k].one] = zlr l (k + 1) := by
 unfold zlr
 rw [List.take_succ_eq_append_getElem h,List.map_append,List.map_append]
 rfl
theorem zeW (l : List Item) {k : Nat} (h : ¬ k < l.length) : zlr l k = (l.map Item.one).map (flA Item.cells) := by
 unfold zlr
 rw [List.take_of_length_le (by omega)]
attribute [local go_sem ↓] z74 zpB zpp z75 z6B z9O zq9 zp9 zpb zpE zao z6f zDb zDH zDA zEa zE1 zD4 zer zfx z9S zfk z9T zae z6x z4o z9N z4J zal zfh zpk z6w z1k z9X z2m zaj z3a z1A z6i z1B z6h z6Y zeJ z6O zew z6d z9V z4I z2l z6j zet z6A z6H z9P za0 z4q z4x za8 zam zfA zfQ zpK zpm z6r z6P z1j z1h za2 z9I z2o z2h za9 za3 z35 z38 z1L z1y z6E z6Q z1C z1E z6J z6U z6M z6m zen zfm z9Z za5 zfy zp0 zfq zfn zqh zpd zpP zqt z9K z9M z9U z9F zp1 zpR zpO zeo zeV z33 z3g zfp zf3
attribute [local go_sem] zF2 zD5 zCy zxM zy1 zxr zxz zyg zy9 zyq zyj zyf zxA zy3 zox ziu zhJ zif zhE zhR ziF zhe zi6 zhx zir ziz zhu zi1 zhh zih zEV zya zxy zyh zxD zxj zxY zna zFL zyn zym zxw zy6 zxq zxJ zn9 zy0 zxZ zy7 zxB zxs zxm zxV zDO zDz zoD zDP zxK zxo zxk zxC zxE zxO zCM zCx zET zFV zxX zo3 zcs zxW zeq zaO zw4 zio
set_option maxHeartbeats 400000 in
theorem zvv {G : Gl} (s : z0f) : ACp Tryd.prog G 70 [sA s] (sA (s.take 60)) := by
 refine z0x (c := _) Tryd.func70 rfl (by kernel_rfl) [.tmp 2] rfl _ Tryd.ntmps70 (Nat.le_of_ble_eq_true rfl) rfl ?_
 repeat' (first|(with_reducible first|refine aq ?_|refine yr (by kernel_rfl) (Nat.le_of_ble_eq_true rfl) ?_|refine yx MIX (by kernel_rfl) (by kernel_rfl) (by kernel_rfl) (Nat.le_of_ble_eq_true rfl) ?_|refine yc ?_|refine zCI ?_|refine z0p ?_|refine z0H ?_|refine z0u ?_|refine z0v ?_|refine yr1 (by kernel_rfl) (Nat.le_of_ble_eq_true rfl) ?_|refine yx1 MIX (by kernel_rfl) (by kernel_rfl) (by kernel_rfl) (Nat.le_of_ble_eq_true rfl) ?_)|(simp only [go_sem])|((with_reducible first|refine zE8 (by first|assumption|(simp only [decide_eq_true_eq,decide_eq_false_iff_not];first|assumption|omega)) (fun h=>?_)|refine zFf (by first|assumption|(simp only [decide_eq_true_eq,decide_eq_false_iff_not];first|assumption|omega)) (fun h=>?_)|refine zF6 (by first|assumption|(simp only [decide_eq_true_eq,decide_eq_false_iff_not];first|assumption|omega)) (fun h=>?_)|refine zCY (by first|assumption|(simp only [decide_eq_true_eq,decide_eq_false_iff_not];first|assumption|omega)) (fun h=>?_)|refine zER (by first|assumption|(simp only [decide_eq_true_eq,decide_eq_false_iff_not];first|assumption|omega)) (fun h=>?_)|refine zDm (by first|assumption|(simp only [decide_eq_true_eq,decide_eq_false_iff_not];first|assumption|omega)) (fun h=>?_)) <;> (try rewrite [h]) <;> clear h)|(with_reducible refine z6G ?_)|((with_reducible first|refine z0w (fun h=>?_) (fun h=>?_)|refine z0y (fun h=>?_) (fun h=>?_)) <;> (try rewrite [h]) <;> (try simp (disch := omega) only [z0C,z0I,z02,z01,z05,z00] at h) <;> (try simp only [decide_eq_true_eq,decide_eq_false_iff_not,Bool.not_eq_true,Bool.not_eq_false,Bool.not_eq_true',Bool.not_eq_false',not_true_eq_false,not_false_eq_true] at h) <;> (try (exfalso;omega)))|(simp (disch := omega) only [z0C,z0I,z02,z01,z05,z00])|(with_reducible first|refine And.intro (by first|assumption|rfl|omega) ?_|refine And.intro ?_ ?_))
 rw [List.take_of_length_le (by omega)]
set_option maxHeartbeats 400000 in
theorem zBK {G : Gl} (x : Item) : ACp Tryd.prog G 54 [iA x] (iA x.one) := by
 refine z0x (c := _) Tryd.func54 rfl (by kernel_rfl) [.cell 2 79] rfl _ Tryd.ntmps54 (Nat.le_of_ble_eq_true rfl) rfl ?_
 repeat' (first|(refine z0h (zvv _) rfl ?_)|(with_reducible first|refine aq ?_|refine yr (by kernel_rfl) (Nat.le_of_ble_eq_true rfl) ?_|refine yx MIX (by kernel_rfl) (by kernel_rfl) (by kernel_rfl) (Nat.le_of_ble_eq_true rfl) ?_|refine yc ?_|refine zCI ?_|refine z0p ?_|refine z0H ?_|refine z0u ?_|refine z0v ?_|refine yr1 (by kernel_rfl) (Nat.le_of_ble_eq_true rfl) ?_|refine yx1 MIX (by kernel_rfl) (by kernel_rfl) (by kernel_rfl) (Nat.le_of_ble_eq_true rfl) ?_)|(simp only [go_sem])|((with_reducible first|refine zE8 (by first|assumption|(simp only [decide_eq_true_eq,decide_eq_false_iff_not];first|assumption|omega)) (fun h=>?_)|refine zFf (by first|assumption|(simp only [decide_eq_true_eq,decide_eq_false_iff_not];first|assumption|omega)) (fun h=>?_)|refine zF6 (by first|assumption|(simp only [decide_eq_true_eq,decide_eq_false_iff_not];first|assumption|omega)) (fun h=>?_)|refine zCY (by first|assumption|(simp only [decide_eq_true_eq,decide_eq_false_iff_not];first|assumption|omega)) (fun h=>?_)|refine zER (by first|assumption|(simp only [decide_eq_true_eq,decide_eq_false_iff_not];first|assumption|omega)) (fun h=>?_)|refine zDm (by first|assumption|(simp only [decide_eq_true_eq,decide_eq_false_iff_not];first|assumption|omega)) (fun h=>?_)) <;> (try rewrite [h]) <;> clear h)|(with_reducible refine z6G ?_)|((with_reducible first|refine z0w (fun h=>?_) (fun h=>?_)|refine z0y (fun h=>?_) (fun h=>?_)) <;> (try rewrite [h]) <;> (try simp (disch := omega) only [z0C,z0I,z02,z01,z05,z00] at h) <;> (try simp only [decide_eq_true_eq,decide_eq_false_iff_not,Bool.not_eq_true,Bool.not_eq_false,Bool.not_eq_true',Bool.not_eq_false',not_true_eq_false,not_false_eq_true] at h) <;> (try (exfalso;omega)))|(simp (disch := omega) only [z0C,z0I,z02,z01,z05,z00])|(with_reducible first|refine And.intro (by first|assumption|rfl|omega) ?_|refine And.intro ?_ ?_))
 ·exact rfl
 ·have e : x.one.s = x.s := List.take_of_length_le (by omega)
  rw [e]
  rfl
set_option maxHeartbeats 400000 in
theorem zvQ {G : Gl} (l : List Item) (hl : l.length ≤ maxLen) : ACp Tryd.prog G 34 [lA l] (lA (zCv l)) := by
 refine z0x (c := _) Tryd.func34 rfl (by kernel_rfl) [.tmp 2] rfl _ Tryd.ntmps34 (Nat.le_of_ble_eq_true rfl) rfl ?_
 unfold lA
 have hq : (l.take 66).length ≤ 66 := by rw [List.length_take];exact Nat.min_le_left ..
 repeat' (first|(with_reducible first|refine aq ?_|refine yr (by kernel_rfl) (Nat.le_of_ble_eq_true rfl) ?_|refine yx MIX (by kernel_rfl) (by kernel_rfl) (by kernel_rfl) (Nat.le_of_ble_eq_true rfl) ?_|refine yc ?_|refine zCI ?_|refine z0p ?_|refine z0H ?_|refine z0u ?_|refine z0v ?_|refine yr1 (by kernel_rfl) (Nat.le_of_ble_eq_true rfl) ?_|refine yx1 MIX (by kernel_rfl) (by kernel_rfl) (by kernel_rfl) (Nat.le_of_ble_eq_true rfl) ?_)|(simp only [go_sem])|((with_reducible first|refine zE8 (by first|assumption|(simp only [decide_eq_true_eq,decide_eq_false_iff_not];first|assumption|omega)) (fun h=>?_)|refine zFf (by first|assumption|(simp only [decide_eq_true_eq,decide_eq_false_iff_not];first|assumption|omega)) (fun h=>?_)|refine zF6 (by first|assumption|(simp only [decide_eq_true_eq,decide_eq_false_iff_not];first|assumption|omega)) (fun h=>?_)|refine zCY (by first|assumption|(simp only [decide_eq_true_eq,decide_eq_false_iff_not];first|assumption|omega)) (fun h=>?_)|refine zER (by first|assumption|(simp only [decide_eq_true_eq,decide_eq_false_iff_not];first|assumption|omega)) (fun h=>?_)|refine zDm (by first|assumption|(simp only [decide_eq_true_eq,decide_eq_false_iff_not];first|assumption|omega)) (fun h=>?_)) <;> (try rewrite [h]) <;> clear h)|(with_reducible refine z6G ?_)|((with_reducible first|refine z0w (fun h=>?_) (fun h=>?_)|refine z0y (fun h=>?_) (fun h=>?_)) <;> (try rewrite [h]) <;> (try simp (disch := omega) only [z0C,z0I,z02,z01,z05,z00] at h) <;> (try simp only [decide_eq_true_eq,decide_eq_false_iff_not,Bool.not_eq_true,Bool.not_eq_false,Bool.not_eq_true',Bool.not_eq_false',not_true_eq_false,not_false_eq_true] at h) <;> (try (exfalso;omega)))|(simp (disch := omega) only [z0C,z0I,z02,z01,z05,z00])|(with_reducible first|refine And.intro (by first|assumption|rfl|omega) ?_|refine And.intro ?_ ?_))
 all_goals
  refine zpZ 3 79 5 rfl (Nat.le_refl _) ?_
  refine z9e (ι := {k : Nat // k ≤ (l.take 66).length}) (fun k=>⟨[⟨2,79,5,zlr (l.take 66) k.1⟩],[(0,SL ((l.take 66).map (flA Item.cells))),(3,OW 0 k.1),(4,V (.int .i64 k.1))]⟩) (fun k=>66 - k.1) ⟨0,Nat.zero_le _⟩ ?_ (Nat.zero_le _) ?_
 any_goals ((refine zjH ?_ ?_ ?_ <;> (try simp (disch := omega) only [go_sem,z0C,z0I,z02,z01,z05,z00,List.map_take,zm3])))
 any_goals (rintro ⟨k,hk⟩;dsimp only;repeat' (first|(refine z0h (zBK _) rfl ?_)|(refine ziS ⟨k + 1,by omega⟩ ?_ (Nat.zero_le _) (by dsimp only;omega))|(refine zjH ?_ ?_ ?_ <;> (try simp (disch := omega) only [go_sem,z0C,z0I,z02,z01,z05,z00]))|(with_reducible first|refine aq ?_|refine yr (by kernel_rfl) (Nat.le_of_ble_eq_true rfl) ?_|refine yx MIX (by kernel_rfl) (by kernel_rfl) (by kernel_rfl) (Nat.le_of_ble_eq_true rfl) ?_|refine yc ?_|refine zCI ?_|refine z0p ?_|refine z0H ?_|refine z0u ?_|refine z0v ?_|refine yr1 (by kernel_rfl) (Nat.le_of_ble_eq_true rfl) ?_|refine yx1 MIX (by kernel_rfl) (by kernel_rfl) (by kernel_rfl) (Nat.le_of_ble_eq_true rfl) ?_)|(simp only [go_sem])|((with_reducible first|refine zE8 (by first|assumption|(simp only [decide_eq_true_eq,decide_eq_false_iff_not];first|assumption|omega)) (fun h=>?_)|refine zFf (by first|assumption|(simp only [decide_eq_true_eq,decide_eq_false_iff_not];first|assumption|omega)) (fun h=>?_)|refine zF6 (by first|assumption|(simp only [decide_eq_true_eq,decide_eq_false_iff_not];first|assumption|omega)) (fun h=>?_)|refine zCY (by first|assumption|(simp only [decide_eq_true_eq,decide_eq_false_iff_not];first|assumption|omega)) (fun h=>?_)|refine zER (by first|assumption|(simp only [decide_eq_true_eq,decide_eq_false_iff_not];first|assumption|omega)) (fun h=>?_)|refine zDm (by first|assumption|(simp only [decide_eq_true_eq,decide_eq_false_iff_not];first|assumption|omega)) (fun h=>?_)) <;> (try rewrite [h]) <;> clear h)|(with_reducible refine z6G ?_)|((with_reducible first|refine z0w (fun h=>?_) (fun h=>?_)|refine z0y (fun h=>?_) (fun h=>?_)) <;> (try rewrite [h]) <;> (try simp (disch := omega) only [z0C,z0I,z02,z01,z05,z00] at h) <;> (try simp only [decide_eq_true_eq,decide_eq_false_iff_not,Bool.not_eq_true,Bool.not_eq_false,Bool.not_eq_true',Bool.not_eq_false',not_true_eq_false,not_false_eq_true] at h) <;> (try (exfalso;omega)))|(simp (disch := omega) only [z0C,z0I,z02,z01,z05,z00])|(with_reducible first|refine And.intro (by first|assumption|rfl|omega) ?_|refine And.intro ?_ ?_)))
 ·exact congrArg (AObj.mk 2 79 5) (zf7 _ _).symm
 ·rw [zeW _ (by omega)];rfl
 ·rw [List.take_of_length_le (by rw [List.length_map];omega)]
 ·exact congrArg (AObj.mk 2 79 5) (zf7 _ _).symm
 ·rw [zeW _ (by omega)];rfl
end

section
open Go.RowKit
structure Tr where
 leaf : Nat → List Item
 ver : Nat → Int
def Tr.zero : Tr := ⟨fun _=>[],fun _=>0⟩
def Tr.setL (t : Tr) (k : Nat) (l : List Item) : Tr := ⟨fun i=>if i = k then l else t.leaf i,t.ver⟩
def Tr.setV (t : Tr) (k : Nat) (v : Int) : Tr := ⟨t.leaf,fun i=>if i = k then v else t.ver i⟩
def leC (t : Tr) : List AV := (List.range 16).map fun i=>lA (t.leaf i)
def veC (t : Tr) : List AV := (List.range 16).map fun i=>nA (t.ver i)
def tC (t : Tr) : List AV := leC t ++ veC t
def zC : List AV := List.replicate 16 (V (.slice none 0 0)) ++ List.replicate 16 (nA 0)
def tA (t : Tr) : AV := .agg (tC t)
theorem z2a (t : Tr) : tA t = .agg (tC t) := _root_.id rfl
section
variable {t u : Tr} {i k m : Nat} {K1 : AV → Prop} {H : List AObj}
theorem z3C : (leC t).length = 16 := by simp [leC]
theorem zq0 : (veC t).length = 16 := by simp [veC]
theorem z0E : (tC t).length = 32 := by simp [tC,z3C,zq0]
theorem z7q : zC.length = 32 := _root_.id rfl
theorem zuz {d : AV} (h : d ∈ tC t) : (∃ l : List Item,d = lA l) ∨ ∃ n,d = nA n := by
 simp only [tC,leC,veC,List.mem_append,List.mem_map] at h
 rcases h with ⟨i,_,rfl⟩|⟨i,_,rfl⟩
 ·exact .inl ⟨_,rfl⟩
 ·exact .inr ⟨_,rfl⟩
theorem zlg {p : AV → Bool} (h1 : ∀ l : List Item,p (lA l) = true) (h2 : ∀ n,p (nA n) = true) : (tC t).all p = true := List.all_eq_true.2 fun d hd=>by
 rcases zuz hd with ⟨l,rfl⟩|⟨n,rfl⟩
 ·exact h1 l
 ·exact h2 n
theorem z47 : (tC t).all zCU = true := zlg (fun _=>rfl) fun _=>rfl
theorem z8E : (tC t).all (lt1 m) = true := zlg (fun _=>rfl) fun _=>rfl
theorem z7R : (tC t).all (ltA m) = true := zlg (fun _=>rfl) fun _=>rfl
theorem zvX {d : AV} (h : d ∈ leC t) : ∃ l : List Item,d = lA l := by
 simp only [leC,List.mem_map] at h
 obtain ⟨i,_,rfl⟩ := h
 exact ⟨_,rfl⟩
theorem zjK : (leC t).all (lt1 m) = true := List.all_eq_true.2 fun d hd=>by obtain ⟨l,rfl⟩ := zvX hd;rfl
theorem zgo : (tC t).map (ro1 H) = tC t := by
 have : ∀ l : List AV,(∀ d ∈ l,ro1 H d = d) → l.map (ro1 H) = l := fun l h=>by
  conv=>rhs;rw [← List.map_id l]
  exact List.map_congr_left h
 refine this _ fun d hd=>?_
 rcases zuz hd with ⟨l,rfl⟩|⟨n,rfl⟩ <;> rfl
theorem z4y : zC.all zCU = true := by decide
theorem z8e : zC.all (ltA m) = true := _root_.id rfl
theorem z99 : zC.all (lt1 m) = true := _root_.id rfl
theorem z5m (l : List Item) : lA l = SL (l.map (flA Item.cells)) := _root_.id rfl
theorem zhO : zC.map (ro1 H) = tC Tr.zero := _root_.id rfl
theorem z4K : (tC t).take 32 = tC t := List.take_of_length_le (by rw [z0E];exact Nat.le_refl _)
theorem z56 : zC.take 32 = zC := _root_.id rfl
theorem z8H : (tC t).take 16 = leC t := by rw [tC,List.take_append_of_le_length (by rw [z3C];exact Nat.le_refl _),List.take_of_length_le (by rw [z3C];exact Nat.le_refl _)]
theorem z0i (h : i < 16) : nth (leC t) i K1 = K1 (lA (t.leaf i)) := by
 simp [nth,leC,List.getElem?_map,List.getElem?_range h]
theorem z0k (h : i < 16) : nth (tC t) i K1 = K1 (lA (t.leaf i)) := by
 have e := z0i (t := t) (K1 := K1) h
 rw [← e]
 unfold nth tC
 rw [List.getElem?_append_left (by rw [z3C];exact h)]
theorem z0j (h : 16 ≤ i) (h2 : i < 32) : nth (tC t) i K1 = K1 (nA (t.ver (i - 16))) := by
 simp only [nth,tC]
 rw [List.getElem?_append_right (by rw [z3C];exact h),z3C]
 simp [veC,List.getElem?_map,List.getElem?_range (show i - 16 < 16 by omega)]
theorem zpU {α β : Type} (f : Nat → β) (n k : Nat) (x : β) : ((List.range n).map f).set k x = (List.range n).map fun i=>if i = k then x else f i := by
 refine List.ext_getElem? fun j=>?_
 rw [List.getElem?_set]
 simp only [List.length_map,List.length_range,List.getElem?_map]
 by_cases hj : j < n
 ·rw [List.getElem?_range hj]
  by_cases e : k = j
  ·subst e;simp [hj]
  ·simp [e,Ne.symm e]
 ·rw [List.getElem?_eq_none (by simpa using hj)]
  by_cases e : k = j
  ·subst e;simp [hj]
  ·simp [e]
theorem z0d {l : List Item} (h : i < 16) : (tC t).set i (SL (l.map (flA Item.cells))) = tC (t.setL i l) := by
 rw [tC,List.set_append_left _ _ (by rw [z3C];exact h)]
 show (leC t).set i _ ++ veC t = leC (t.setL i l) ++ veC t
 congr 1
 rw [leC,zpU (α := Nat)]
 unfold leC Tr.setL
 refine List.map_congr_left fun j _=>?_
 dsimp only
 split <;> rfl
theorem z0c {v : Int} (h : 16 ≤ i) (h2 : i < 32) : (tC t).set i (V (.int .i64 v)) = tC (t.setV (i - 16) v) := by
 rw [tC,List.set_append_right _ _ (by rw [z3C];exact h),z3C]
 show leC t ++ (veC t).set (i - 16) _ = leC t ++ veC (t.setV (i - 16) v)
 congr 1
 rw [veC,zpU (α := Nat)]
 unfold veC Tr.setV
 refine List.map_congr_left fun j _=>?_
 dsimp only
 split <;> rfl
theorem z2f {α : Type} {xs l : List α} (h : xs.length = l.length) : z0e l 0 xs = xs := by
 refine List.ext_getElem? fun j=>?_
 rw [z1o xs l 0 (by omega)]
 split
 ·simp
 ·rename_i hn
  rw [List.getElem?_eq_none (by omega),List.getElem?_eq_none (by omega)]
theorem zjo : z0e (tC t) 0 (tC u) = tC u := z2f (by rw [z0E,z0E])
theorem zjA : z0e zC 0 (tC u) = tC u := z2f (by rw [z0E,z7q])
theorem zjy : z0e (tC t) 0 zC = zC := z2f (by rw [z0E,z7q])
theorem zje : z0e zC 0 zC = zC := _root_.id rfl
theorem ziV : 16 + k - 16 = k := by omega
end
theorem zEH : z7r Tryd.prog 26 = some zC := zCh
def zE3 (t : Tr) (k : Nat) : Tr := ⟨fun i=>if i < k then zCv (t.leaf i) else t.leaf i,t.ver⟩
theorem znq (t : Tr) : zE3 t 0 = t := by simp [zE3]
theorem zoG (t : Tr) (k : Nat) : (zE3 t k).setL k (zCv ((zE3 t k).leaf k)) = zE3 t (k + 1) := by
 simp only [zE3,Tr.setL,Nat.lt_irrefl,if_false]
 congr 1
 funext i
 by_cases h : i = k
 ·subst h;simp
 ·by_cases h2 : i < k
  ·simp [h,h2,show i < k + 1 by omega]
  ·simp [h,h2,show ¬ i < k + 1 by omega]
theorem zo6 (t : Tr) (k : Nat) : (zE3 t k).leaf k = t.leaf k := by simp [zE3]
attribute [local go_sem ↓] z74 zpB zpp z75 z6B z9O zq9 zp9 zpb zpE zao z6f zDb zDH zDA zEa zE1 zD4 zer zfx z9S zfk z9T zae z6x z4o z9N z4J zal zfh zpk z6w z1k z9X z2m zaj z3a z1A z6i z1B z6h z6Y zeJ z6O zew z6d z9V z4I z2l z6j zet z6A z6H z9P za0 z4q z4x za8 zam zfA zfQ zpK zpm z6r z6P z1j z1h za2 z9I z2o z2h za9 za3 z35 z38 z1L z1y z6E z6Q z1C z1E z6J z6U z6M z6m zen zfm z9Z za5 zfy zp0 zfq zfn zqh zpd zpP zqt z9K z9M z9U z9F zp1 zpR zpO zeo zeV z33 z3g zfp zf3
attribute [local go_sem] zF2 zD5 zCy zxM zy1 zxr zxz zyg zy9 zyq zyj zyf zxA zy3 zox ziu zhJ zif zhE zhR ziF zhe zi6 zhx zir ziz zhu zi1 zhh zih zEV zya zxy zyh zxD zxj zxY zna zFL zyn zym zxw zy6 zxq zxJ zn9 zy0 zxZ zy7 zxB zxs zxm zxV zDO zDz zoD zDP zxK zxo zxk zxC zxE zxO zCM zCx zET zFV zxX zo3 zcs zxW zeq zaO zw4 zio z5m zjK z0E z7q z47 z8E z7R z8e z99 zgo z4y zhO z4K z56 z8H zjo zjA zjy zje ziV zEH z2a
set_option maxHeartbeats 400000 in
theorem zBX {G : Gl} (t : Tr) (hl : ∀ i,(t.leaf i).length ≤ maxLen) : ACp Tryd.prog G 17 [tA t] (tA (zE3 t 16)) := by
 refine z0x (c := _) Tryd.func17 rfl (by kernel_rfl) [.cell 2 26] rfl _ Tryd.ntmps17 (Nat.le_of_ble_eq_true rfl) rfl ?_
 repeat' (first|(with_reducible first|refine aq ?_|refine yr (by kernel_rfl) (Nat.le_of_ble_eq_true rfl) ?_|refine yx MIX (by kernel_rfl) (by kernel_rfl) (by kernel_rfl) (Nat.le_of_ble_eq_true rfl) ?_|refine yc ?_|refine zCI ?_|refine z0p ?_|refine z0H ?_|refine z0u ?_|refine z0v ?_|refine yr1 (by kernel_rfl) (Nat.le_of_ble_eq_true rfl) ?_|refine yx1 MIX (by kernel_rfl) (by kernel_rfl) (by kernel_rfl) (Nat.le_of_ble_eq_true rfl) ?_)|(simp only [go_sem])|((with_reducible first|refine zE8 (by first|assumption|(simp only [decide_eq_true_eq,decide_eq_false_iff_not];first|assumption|omega)) (fun h=>?_)|refine zFf (by first|assumption|(simp only [decide_eq_true_eq,decide_eq_false_iff_not];first|assumption|omega)) (fun h=>?_)|refine zF6 (by first|assumption|(simp only [decide_eq_true_eq,decide_eq_false_iff_not];first|assumption|omega)) (fun h=>?_)|refine zCY (by first|assumption|(simp only [decide_eq_true_eq,decide_eq_false_iff_not];first|assumption|omega)) (fun h=>?_)|refine zER (by first|assumption|(simp only [decide_eq_true_eq,decide_eq_false_iff_not];first|assumption|omega)) (fun h=>?_)|refine zDm (by first|assumption|(simp only [decide_eq_true_eq,decide_eq_false_iff_not];first|assumption|omega)) (fun h=>?_)) <;> (try rewrite [h]) <;> clear h)|(with_reducible refine z6G ?_)|((with_reducible first|refine z0w (fun h=>?_) (fun h=>?_)|refine z0y (fun h=>?_) (fun h=>?_)) <;> (try rewrite [h]) <;> (try simp (disch := omega) only [z0C,z0I,z02,z01,z05,z00,z0i,z0k,z0j,z0d,z0c] at h) <;> (try simp only [decide_eq_true_eq,decide_eq_false_iff_not,Bool.not_eq_true,Bool.not_eq_false,Bool.not_eq_true',Bool.not_eq_false',not_true_eq_false,not_false_eq_true] at h) <;> (try (exfalso;omega)))|(simp (disch := omega) only [z0C,z0I,z02,z01,z05,z00,z0i,z0k,z0j,z0d,z0c])|(with_reducible first|refine And.intro (by first|assumption|rfl|omega) ?_|refine And.intro ?_ ?_))
 refine z9e (ι := {k : Nat // k ≤ 16}) (fun k=>⟨[⟨1,26,0,tC (zE3 t k.1)⟩,⟨1,26,0,zC⟩],[(3,V (.int .i64 k.1)),(2,OP 1 0),(1,OP 0 0)]⟩) (fun k=>16 - k.1) ⟨0,Nat.zero_le _⟩ ?_ (Nat.zero_le _) ?_
 ·(refine zjH ?_ ?_ ?_ <;> (try simp (disch := omega) only [go_sem,z0C,z0I,z02,z01,z05,z00,z0i,z0k,z0j,z0d,z0c,znq]))
 rintro ⟨k,hk⟩
 dsimp only
 repeat' (first|(refine z0h (zvQ _ (by rw [zo6];exact hl k)) rfl ?_)|(refine ziS ⟨k + 1,by omega⟩ ?_ (Nat.zero_le _) (by dsimp only;omega))|(refine zjH ?_ ?_ ?_ <;> (try simp (disch := omega) only [go_sem,z0C,z0I,z02,z01,z05,z00,z0i,z0k,z0j,z0d,z0c,zoG]))|(with_reducible first|refine aq ?_|refine yr (by kernel_rfl) (Nat.le_of_ble_eq_true rfl) ?_|refine yx MIX (by kernel_rfl) (by kernel_rfl) (by kernel_rfl) (Nat.le_of_ble_eq_true rfl) ?_|refine yc ?_|refine zCI ?_|refine z0p ?_|refine z0H ?_|refine z0u ?_|refine z0v ?_|refine yr1 (by kernel_rfl) (Nat.le_of_ble_eq_true rfl) ?_|refine yx1 MIX (by kernel_rfl) (by kernel_rfl) (by kernel_rfl) (Nat.le_of_ble_eq_true rfl) ?_)|(simp only [go_sem])|((with_reducible first|refine zE8 (by first|assumption|(simp only [decide_eq_true_eq,decide_eq_false_iff_not];first|assumption|omega)) (fun h=>?_)|refine zFf (by first|assumption|(simp only [decide_eq_true_eq,decide_eq_false_iff_not];first|assumption|omega)) (fun h=>?_)|refine zF6 (by first|assumption|(simp only [decide_eq_true_eq,decide_eq_false_iff_not];first|assumption|omega)) (fun h=>?_)|refine zCY (by first|assumption|(simp only [decide_eq_true_eq,decide_eq_false_iff_not];first|assumption|omega)) (fun h=>?_)|refine zER (by first|assumption|(simp only [decide_eq_true_eq,decide_eq_false_iff_not];first|assumption|omega)) (fun h=>?_)|refine zDm (by first|assumption|(simp only [decide_eq_true_eq,decide_eq_false_iff_not];first|assumption|omega)) (fun h=>?_)) <;> (try rewrite [h]) <;> clear h)|(with_reducible refine z6G ?_)|((with_reducible first|refine z0w (fun h=>?_) (fun h=>?_)|refine z0y (fun h=>?_) (fun h=>?_)) <;> (try rewrite [h]) <;> (try simp (disch := omega) only [z0C,z0I,z02,z01,z05,z00,z0i,z0k,z0j,z0d,z0c] at h) <;> (try simp only [decide_eq_true_eq,decide_eq_false_iff_not,Bool.not_eq_true,Bool.not_eq_false,Bool.not_eq_true',Bool.not_eq_false',not_true_eq_false,not_false_eq_true] at h) <;> (try (exfalso;omega)))|(simp (disch := omega) only [z0C,z0I,z02,z01,z05,z00,z0i,z0k,z0j,z0d,z0c])|(with_reducible first|refine And.intro (by first|assumption|rfl|omega) ?_|refine And.intro ?_ ?_))
 obtain rfl : k = 16 := by omega
 rfl
end

end Go.Proofs.YtaplemeamcgpkaaDoor
end

