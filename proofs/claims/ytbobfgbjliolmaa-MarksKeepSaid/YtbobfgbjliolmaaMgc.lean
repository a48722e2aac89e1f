/-
  Texts laid together, part 3 of 5: laws of a walk over data, contracts of functions, each whole by itself.
-/
import Derived.Test.YtbobfgbjliolmaaMgb
import Derived.Test.YtbobfgbjliolmaaProg
import Derived.KernelRfl
import Derived.Test.YtbobfgbjliolmaaMga
import Derived.Shelf.Spec.SlicesInsert
import Derived.Lib.AppendZerosOnto
import Derived.Laws.CopyRow
import Derived.WalkKit
import Derived.Deep.Cut
import Derived.Deep.RegionLaw
import Derived.Shelf.RegionOpenPlain
namespace Go.Proofs.Ytbobfgbjliolmaa
open Go.RowKit
set_option linter.unusedVariables false
set_option linter.unusedSimpArgs false
section
variable {R : Type} {P : Program} {G : Gl} {E : Env} {M N n : Nat}
noncomputable abbrev whenK (b : Bool) (x : Option R) : Option R := Bool.rec (motive := fun _ => Option R) none x b
theorem whenK_eq (b : Bool) (x : Option R) : whenK b x = whenE b x := by cases b <;> rfl
noncomputable abbrev iteK {α : Type} (b : Bool) (x y : α) : α := Bool.rec (motive := fun _ => α) y x b
noncomputable abbrev nthK {α : Type} (l : List α) (n : Nat) : Option α := List.rec (motive := fun _ => Nat → Option α) (fun _ => none) (fun a _ ih n => Nat.rec (motive := fun _ => Option α) (some a) (fun m _ => ih m) n) l n
theorem nthK_eq {α : Type} : ∀ (l : List α) (n : Nat), nthK l n = l[n]?
  | [], n => rfl
  | a :: r, 0 => rfl
  | a :: r, n + 1 => (nthK_eq r n : nthK r n = r[n]?)
noncomputable abbrev slotK (T : Tm) (i : Nat) : AV := List.rec (motive := fun _ => AV) .nil (fun p _ ih => iteK (Nat.beq p.1 i) p.2 ih) T
theorem slotK_eq : ∀ (T : Tm) (i : Nat), slotK T i = get T i
  | [], i => rfl
  | (j, d) :: r, i => by
    have := slotK_eq r i
    show iteK (Nat.beq j i) d (slotK r i) = if j = i then d else get r i
    by_cases e : j = i
    · rw [if_pos e, Nat.beq_eq.mpr e]
    · rw [if_neg e]
      cases hb : Nat.beq j i with
      | false => exact this
      | true => exact absurd (Nat.eq_of_beq_eq_true hb) e
noncomputable abbrev evK (G : Gl) (T : Tm) (x : Operand) : AV := Operand.rec (motive := fun _ => AV) (fun t => slotK T t) (fun v => cv v) (fun g => glob G g) (fun f => V (.func (.func f) #[] #[])) x
theorem evK_eq (G : Gl) (T : Tm) (x : Operand) : evK G T x = ev G T x := by
  cases x with
  | tmp t => exact slotK_eq T t
  | const v => rfl
  | global g => rfl
  | func f => rfl
noncomputable abbrev mapK {α β : Type} (f : α → β) (l : List α) : List β := List.rec (motive := fun _ => List β) [] (fun a _ ih => f a :: ih) l
theorem mapK_eq {α β : Type} (f : α → β) : ∀ (l : List α), mapK f l = l.map f
  | [] => rfl
  | a :: r => by
    have := mapK_eq f r
    show f a :: mapK f r = f a :: r.map f
    rw [this]
noncomputable abbrev findK (E : Env) (f : FuncId) : Option Ent := List.rec (motive := fun _ => Option Ent) none (fun p _ ih => iteK (Nat.beq f p.1) (some p.2) ih) E
theorem findK_eq : ∀ (E : Env) (f : FuncId), findK E f = findE E f
  | [], f => rfl
  | (g, e) :: r, f => by
    have := findK_eq r f
    show iteK (Nat.beq f g) (some e) (findK r f) = if f = g then some e else findE r f
    by_cases q : f = g
    · rw [if_pos q, Nat.beq_eq.mpr q]
    · rw [if_neg q]
      cases hb : Nat.beq f g with
      | false => exact this
      | true => exact absurd (Nat.eq_of_beq_eq_true hb) q
noncomputable abbrev unK (op : UnOp) (x : AV) (K : AV → Option R) : Option R :=
  UnOp.rec (motive := fun _ => Option R) (unE .neg x K) (unE .xor x K) (boolB x fun b => K (V (.bool (!b)))) (unE .plus x K) op
theorem unK_eq (op : UnOp) (x : AV) (K : AV → Option R) : unK op x K = unE op x K := by cases op <;> rfl
abbrev callVK (E : Env) (x : AV) (args : List AV) (H : List AObj) (K : AV → List AObj → Option R) : Option R :=
  match x with
  | .slice caps [.held (.inl (.func (.func f) _ _)), .held (.inr (.inl (k, _)))] => callE (findE E f) ((caps.take k ++ args ++ caps.drop k).map (ro H)) H K
  | _ => none
abbrev idxAK (st : Option (TypeId × Nat)) (at_ : Option (Nat × Nat)) (H : List AObj) (x ix : AV) (K : AV → Option R) : Option R :=
  match st with
  | some (_, ek) => idxSE ek H x ix K
  | none => match at_ with
    | some (n, ek) => idxPE n ek x ix K
    | none => none
abbrev callK (e : Option Ent) (args : List AV) (H : List AObj) (K : AV → List AObj → Option R) : Option R :=
  match e with
  | some (.tell g) => tellE (g args) args fun X => K X H
  | some (.keep g) => keepE (g args H) K
  | some (.add g) => addE (g args H.length) H K
  | none => none
abbrev callDK (e : Option Ent) (args : List AV) (K : AV → Option R) : Option R :=
  match e with
  | some (.tell g) => tellE (g args) args K
  | _ => none
noncomputable abbrev stepK (P : Program) (G : Gl) (E : Env) (D : Bool) (o : Op) (s : ASt) (K : AV → List AObj → Option R) : Option R :=
  match o with
  | .move x => K (evK G s.T x) s.H
  | .assign x => K (evK G s.T x) s.H
  | .pick c x y => boolC (evK G s.T c) (K (evK G s.T x) s.H) (K (evK G s.T y) s.H)
  | .binOp op t x y _ => binE (cmpT P t) (isBoolT P t) (isSlT P t) op (evK G s.T x) (evK G s.T y) fun r => K r s.H
  | .unOp op _ x => unK op (evK G s.T x) fun r => K r s.H
  | .alloc t => allocE (zeroC P t) t s.H K
  | .box t x => boxE t s.H (evK G s.T x) K
  | .build t ps => buildE (placesT P t) (zeroC P t) (mapK (fun p => (p.1, evK G s.T p.2)) ps.toList) fun r => K r s.H
  | .buildSlice t n ps => buildSE (appT P t) n (mapK (fun p => (p.1, evK G s.T p.2)) ps.toList) fun r => K r s.H
  | .load t x => loadE (kindT P t) s.H (evK G s.T x) fun r => K r s.H
  | .store t x y => storeE (kindT P t) s.H (evK G s.T x) (evK G s.T y) fun H' => K .nil H'
  | .nilCheck x => nilE (evK G s.T x) fun r => K r s.H
  | .convert src dst x => convE (isStrT P src && isStrT P dst) (intT P dst) (P.underlying src).isSome (bytT P src && isStrT P dst) (evK G s.T x) fun r => K r s.H
  | .extract x i => extE (evK G s.T x) i fun r => K r s.H
  | .fieldAddr t x f => fieldE (fieldT P t f) (evK G s.T x) fun r => K r s.H
  | .field t x f => fieldVE (fieldT P t f) (evK G s.T x) fun r => K r s.H
  | .indexAddr t x y => idxAK (sliceT P t) (arrayT P t) s.H (evK G s.T x) (evK G s.T y) fun r => K r s.H
  | .index t x y => idxVE (isStrT P t) (arrayT P t) (evK G s.T x) (evK G s.T y) fun r => K r s.H
  | .slice t x lo hi none => sliceE (isStrT P t) (sliceT P t) s.H (evK G s.T x) (lo.map (evK G s.T)) (hi.map (evK G s.T)) fun r => K r s.H
  | .call { callee := .value (.func f), args := args, argTypes := _ } => iteK D (callDK (findK E f) (mapK (ro s.H) (mapK (evK G s.T) args.toList)) fun r => K r s.H) (callK (findK E f) (mapK (ro s.H) (mapK (evK G s.T) args.toList)) s.H K)
  | .makeFunc fn first caps => whenE ((mapK (evK G s.T) (first.toList ++ caps.toList)).all cap0) (K (CL fn first.toList.length (mapK (evK G s.T) (first.toList ++ caps.toList))) s.H)
  | .call { callee := .value (.tmp t), args := args, argTypes := _ } => callVK E (slotK s.T t) (mapK (evK G s.T) args.toList) s.H K
  | .call { callee := .builtin .len, args := ⟨[x]⟩, argTypes := ⟨[t]⟩ } => lenE (isStrT P t) (sliceT P t).isSome s.H (evK G s.T x) fun r => K r s.H
  | .call { callee := .builtin .append, args := ⟨[x, y]⟩, argTypes := ⟨[t, t']⟩ } => whenK (Nat.beq t' t) (appE (appT P t) s.H (evK G s.T x) (evK G s.T y) K)
  | .call { callee := .builtin .max, args := ⟨[x, y]⟩, argTypes := _ } => mmE true (evK G s.T x) (evK G s.T y) fun r => K r s.H
  | .call { callee := .builtin .min, args := ⟨[x, y]⟩, argTypes := _ } => mmE false (evK G s.T x) (evK G s.T y) fun r => K r s.H
  | _ => none
theorem beq_dec (a b : Nat) : Nat.beq a b = decide (a = b) := by
  rw [Bool.eq_iff_iff]
  simp
theorem stepK_eqE (o : Oper) (s : ASt) (K : AV → List AObj → Option R) : stepK P G E false o.op s K = stepE P G E o s K := by
  obtain ⟨dst, op, ty, pos, af, gd⟩ := o
  have e1 : ∀ T, evK G T = ev G T := fun T => funext (evK_eq G T)
  have e4 : ∀ T, (fun p : Nat × Operand => (p.1, evK G T p.2)) = fun p => (p.1, ev G T p.2) := fun T => funext fun p => by rw [evK_eq]
  unfold stepE stepK
  dsimp only
  cases op
  case slice t x lo hi mx =>
    cases mx
    · dsimp only; rw [evK_eq, e1]
    · rfl
  case call c =>
    obtain ⟨cal, ⟨args⟩, ⟨ts⟩⟩ := c
    cases cal
    case value f =>
      cases f
      case tmp t => show callVE E (slotK s.T t) (mapK (evK G s.T) args) s.H K = callVE E (get s.T t) (args.map (ev G s.T)) s.H K; rw [slotK_eq, mapK_eq, e1]
      case func f => show callK (findK E f) (mapK (ro s.H) (mapK (evK G s.T) args)) s.H K = callE (findE E f) ((args.map (ev G s.T)).map (ro s.H)) s.H K; rw [findK_eq, mapK_eq, mapK_eq, e1]; rfl
      all_goals rfl
    case invoke r m => rfl
    case builtin b =>
      cases b
      case len =>
        rcases args with _ | ⟨x, _ | ⟨y, r⟩⟩ <;> rcases ts with _ | ⟨t, _ | ⟨t', q⟩⟩ <;> first | rfl | (dsimp only; rw [evK_eq])
      case append =>
        rcases args with _ | ⟨x, _ | ⟨y, _ | ⟨z, r⟩⟩⟩ <;> rcases ts with _ | ⟨t, _ | ⟨t', _ | ⟨t2, q⟩⟩⟩ <;> first | rfl | (dsimp only; rw [evK_eq, evK_eq, whenK_eq, beq_dec])
      case max => rcases args with _ | ⟨x, _ | ⟨y, _ | ⟨z, r⟩⟩⟩ <;> first | rfl | (dsimp only; rw [evK_eq, evK_eq])
      case min => rcases args with _ | ⟨x, _ | ⟨y, _ | ⟨z, r⟩⟩⟩ <;> first | rfl | (dsimp only; rw [evK_eq, evK_eq])
      all_goals rfl
  case pick c x y =>
    show boolC (evK G s.T c) (K (evK G s.T x) s.H) (K (evK G s.T y) s.H) = boolC (ev G s.T c) (K (ev G s.T x) s.H) (K (ev G s.T y) s.H)
    rw [evK_eq, evK_eq, evK_eq]
  case unOp op t x =>
    show unK op (evK G s.T x) _ = unE op (ev G s.T x) _
    rw [unK_eq, evK_eq]
  case build t ps =>
    show buildE _ _ (mapK (fun p => (p.1, evK G s.T p.2)) ps.toList) _ = buildE _ _ (ps.toList.map fun p => (p.1, ev G s.T p.2)) _
    rw [mapK_eq, e4]
  case buildSlice t n ps =>
    show buildSE _ _ (mapK (fun p => (p.1, evK G s.T p.2)) ps.toList) _ = buildSE _ _ (ps.toList.map fun p => (p.1, ev G s.T p.2)) _
    rw [mapK_eq, e4]
  case makeFunc fn first caps =>
    show whenE ((mapK (evK G s.T) (first.toList ++ caps.toList)).all cap0) (K (CL fn _ (mapK (evK G s.T) (first.toList ++ caps.toList))) s.H) = _
    rw [mapK_eq, e1]
  all_goals first
    | rfl
    | ((repeat (first | rw [evK_eq] | rw [e1] | rw [slotK_eq])) <;> first | done | rfl)
theorem stepK_D (op : Op) (s : ASt) (K : AV → List AObj → Option R) (hne : ∀ f args ts, op ≠ .call { callee := .value (.func f), args := args, argTypes := ts }) : stepK P G E true op s K = stepK P G E false op s K := by
  cases op
  case slice t x lo hi mx => cases mx <;> rfl
  case call c =>
    obtain ⟨cal, ⟨args⟩, ⟨ts⟩⟩ := c
    cases cal
    case value f =>
      cases f
      case func f => exact (hne _ _ _ rfl).elim
      all_goals rfl
    case invoke r m => rfl
    case builtin b =>
      cases b
      case len => rcases args with _ | ⟨x, _ | ⟨y, r⟩⟩ <;> rcases ts with _ | ⟨t, _ | ⟨t', q⟩⟩ <;> rfl
      case append => rcases args with _ | ⟨x, _ | ⟨y, _ | ⟨z, r⟩⟩⟩ <;> rcases ts with _ | ⟨t, _ | ⟨t', _ | ⟨t2, q⟩⟩⟩ <;> rfl
      case max => rcases args with _ | ⟨x, _ | ⟨y, _ | ⟨z, r⟩⟩⟩ <;> rfl
      case min => rcases args with _ | ⟨x, _ | ⟨y, _ | ⟨z, r⟩⟩⟩ <;> rfl
      all_goals rfl
  all_goals rfl
theorem stepK_eq (D : Bool) (o : Oper) (s : ASt) (K : AV → List AObj → Option R) : stepK P G E D o.op s K = stepX P G E D o s K := by
  cases D with
  | false => exact stepK_eqE o s K
  | true =>
    have key := stepK_eqE (P := P) (G := G) (E := E) o s K
    unfold stepX
    dsimp only
    split
    · rename_i f args ts he
      have e1 : ∀ T, evK G T = ev G T := fun T => funext (evK_eq G T)
      rw [he]
      show callDK (findK E f) (mapK (ro s.H) (mapK (evK G s.T) args.toList)) (fun r => K r s.H) = callDE (findE E f) ((args.toList.map (ev G s.T)).map (ro s.H)) (fun r => K r s.H)
      rw [findK_eq, mapK_eq, mapK_eq, e1]
      rfl
    · rename_i hne
      rw [← key]
      exact stepK_D _ _ _ fun f args ts he => hne f args ts he
noncomputable abbrev setK (T : Tm) (d : Option Tmp) (v : AV) : Tm := Option.rec (motive := fun _ => Tm) T (fun d => (d, v) :: T) d
theorem setK_eq (s : ASt) (H : List AObj) (d : Option Tmp) (v : AV) : (⟨H, setK s.T d v⟩ : ASt) = s.set H d v := by cases d <;> rfl
noncomputable abbrev dstK (ops : List Oper) (j : Nat) : Option Tmp := Option.rec (motive := fun _ => Option Tmp) none (fun o => o.dst) (nthK ops j)
theorem dstK_eq (ops : List Oper) (j : Nat) : dstK ops j = dstAt ops j := by
  unfold dstAt
  show Option.rec (motive := fun _ => Option Tmp) none (fun o => o.dst) (nthK ops j) = _
  rw [nthK_eq]
  cases ops[j]? <;> rfl
noncomputable abbrev runK (P : Program) (G : Gl) (E : Env) (D : Bool) (ops : List Oper) (K : ASt → Option R) (l : List Oper) : List Nat → ASt → Option R :=
  List.rec (motive := fun _ => List Nat → ASt → Option R) (fun _ s => K s)
    (fun o _ ih sk s => match o.guard with
      | none => stepK P G E D o.op s fun d H => ih (skO sk o.dst) ⟨H, setK s.T o.dst d⟩
      | some (j, want) => match dstK ops j with
        | none => none
        | some t => iteK (sk.contains t) (ih (skN sk o.dst) ⟨s.H, setK s.T o.dst UD⟩)
          (boolC (slotK s.T t)
            (iteK want (stepK P G E D o.op ⟨s.H, (t, V (.bool true)) :: s.T⟩ fun d H => ih (skO sk o.dst) ⟨H, setK ((t, V (.bool true)) :: s.T) o.dst d⟩) (ih (skN sk o.dst) ⟨s.H, setK ((t, V (.bool true)) :: s.T) o.dst UD⟩))
            (iteK want (ih (skN sk o.dst) ⟨s.H, setK ((t, V (.bool false)) :: s.T) o.dst UD⟩) (stepK P G E D o.op ⟨s.H, (t, V (.bool false)) :: s.T⟩ fun d H => ih (skO sk o.dst) ⟨H, setK ((t, V (.bool false)) :: s.T) o.dst d⟩)))) l
theorem condE_congr {x x' : AV} {A A' B B' : Option R} (h1 : x = x') (h2 : A = A') (h3 : B = B') : boolC x A B = condE x' A' B' := by subst h1 h2 h3; rfl
theorem runK_eq (D : Bool) (ops : List Oper) (K : ASt → Option R) : ∀ (l : List Oper) (sk : List Nat) (s : ASt), runK P G E D ops K l sk s = runE P G E D ops sk l s K
  | [], sk, s => rfl
  | o :: r, sk, s => by
    have ih : ∀ sk s, List.rec (motive := fun _ => List Nat → ASt → Option R) _ _ r sk s = _ := fun sk s => runK_eq D ops K r sk s
    unfold runE
    unfold runK
    dsimp only
    cases hg : o.guard with
    | none =>
      dsimp only
      rw [stepK_eq]
      refine congrArg (stepX P G E D o s) (funext fun d => funext fun H => ?_)
      exact (ih _ _).trans (by rw [setK_eq])
    | some g =>
      obtain ⟨j, want⟩ := g
      dsimp only
      rw [dstK_eq]
      cases hd : dstAt ops j with
      | none => rfl
      | some t =>
        dsimp only
        cases hc : sk.contains t with
        | true =>
          dsimp only
          exact (ih _ _).trans (by rw [setK_eq])
        | false =>
          refine condE_congr (slotK_eq _ _) ?_ ?_
          · cases want with
            | true => exact (stepK_eq D o _ _).trans (congrArg (stepX P G E D o _) (funext fun d => funext fun H => (ih (skO sk o.dst) ⟨H, setK ((t, V (.bool true)) :: s.T) o.dst d⟩).trans (by rw [setK_eq ⟨s.H, (t, V (.bool true)) :: s.T⟩])))
            | false => exact (ih (skN sk o.dst) ⟨s.H, setK ((t, V (.bool true)) :: s.T) o.dst UD⟩).trans (by rw [setK_eq ⟨s.H, (t, V (.bool true)) :: s.T⟩])
          · cases want with
            | true => exact (ih (skN sk o.dst) ⟨s.H, setK ((t, V (.bool false)) :: s.T) o.dst UD⟩).trans (by rw [setK_eq ⟨s.H, (t, V (.bool false)) :: s.T⟩])
            | false => exact (stepK_eq D o _ _).trans (congrArg (stepX P G E D o _) (funext fun d => funext fun H => (ih (skO sk o.dst) ⟨H, setK ((t, V (.bool false)) :: s.T) o.dst d⟩).trans (by rw [setK_eq ⟨s.H, (t, V (.bool false)) :: s.T⟩])))
noncomputable abbrev runDK (P : Program) (G : Gl) (E : Env) (ops : List Oper) (A : List Nat) (K : ASt → Option R) (l : List Oper) : List Nat → List (List AObj) → ASt → Option R :=
  List.rec (motive := fun _ => List Nat → List (List AObj) → ASt → Option R) (fun _ _ s => K s)
    (fun o _ ih sk acc s => match clsO (kcE E) o.op with
      | 0 => (match o.guard with
        | none => stepK P G E true o.op ⟨lowH (kcE E) ops A (acc ++ [s.H]) acc.length, s.T⟩ fun d _ => ih (skO sk o.dst) (acc ++ [s.H]) ⟨s.H, setK s.T o.dst d⟩
        | some (j, want) => match dstK ops j with
          | none => none
          | some t => iteK (sk.contains t) (ih (skN sk o.dst) (acc ++ [s.H]) ⟨s.H, setK s.T o.dst UD⟩)
            (boolC (slotK s.T t)
              (iteK want (stepK P G E true o.op ⟨lowH (kcE E) ops A (acc ++ [s.H]) acc.length, (t, V (.bool true)) :: s.T⟩ fun d _ => ih (skO sk o.dst) (acc ++ [s.H]) ⟨s.H, setK ((t, V (.bool true)) :: s.T) o.dst d⟩) (ih (skN sk o.dst) (acc ++ [s.H]) ⟨s.H, setK ((t, V (.bool true)) :: s.T) o.dst UD⟩))
              (iteK want (ih (skN sk o.dst) (acc ++ [s.H]) ⟨s.H, setK ((t, V (.bool false)) :: s.T) o.dst UD⟩) (stepK P G E true o.op ⟨lowH (kcE E) ops A (acc ++ [s.H]) acc.length, (t, V (.bool false)) :: s.T⟩ fun d _ => ih (skO sk o.dst) (acc ++ [s.H]) ⟨s.H, setK ((t, V (.bool false)) :: s.T) o.dst d⟩))))
      | 1 => (match o.guard with | none => stepA P G E o s fun d Y => ih (skO sk o.dst) (acc ++ [s.H]) ⟨s.H ++ Y, setK s.T o.dst d⟩ | some _ => none)
      | _ => (match o.guard with
        | none => stepK P G E false o.op s fun d H' => ih (skO sk o.dst) (acc ++ [s.H]) ⟨H', setK s.T o.dst d⟩
        | some (j, want) => match dstK ops j with
          | none => none
          | some t => iteK (sk.contains t) (ih (skN sk o.dst) (acc ++ [s.H]) ⟨s.H, setK s.T o.dst UD⟩)
            (boolC (slotK s.T t)
              (iteK want (stepK P G E false o.op ⟨s.H, (t, V (.bool true)) :: s.T⟩ fun d H' => ih (skO sk o.dst) (acc ++ [s.H]) ⟨H', setK ((t, V (.bool true)) :: s.T) o.dst d⟩) (ih (skN sk o.dst) (acc ++ [s.H]) ⟨s.H, setK ((t, V (.bool true)) :: s.T) o.dst UD⟩))
              (iteK want (ih (skN sk o.dst) (acc ++ [s.H]) ⟨s.H, setK ((t, V (.bool false)) :: s.T) o.dst UD⟩) (stepK P G E false o.op ⟨s.H, (t, V (.bool false)) :: s.T⟩ fun d H' => ih (skO sk o.dst) (acc ++ [s.H]) ⟨H', setK ((t, V (.bool false)) :: s.T) o.dst d⟩))))) l
theorem runDK_eq (ops : List Oper) (K : ASt → Option R) : ∀ (l : List Oper) (sk : List Nat) (acc : List (List AObj)) (s : ASt), runDK P G E ops (ancs ops []) K l sk acc s = runD P G E ops sk acc l s K
  | [], sk, acc, s => rfl
  | o :: r, sk, acc, s => by
    have ih : ∀ sk acc s, List.rec (motive := fun _ => List Nat → List (List AObj) → ASt → Option R) _ _ r sk acc s = _ := fun sk acc s => runDK_eq ops K r sk acc s
    unfold runD
    unfold runDK
    dsimp only
    generalize clsO (kcE E) o.op = cl
    rcases cl with _ | _ | cl
    · cases hg : o.guard with
      | none =>
        dsimp only
        rw [stepK_eq]
        exact congrArg (stepX P G E true o _) (funext fun d => funext fun H => (ih (skO sk o.dst) (acc ++ [s.H]) ⟨s.H, setK s.T o.dst d⟩).trans (by rw [setK_eq]))
      | some g =>
        obtain ⟨j, want⟩ := g
        dsimp only
        rw [dstK_eq]
        cases hd : dstAt ops j with
        | none => rfl
        | some t =>
          dsimp only
          cases hc : sk.contains t with
          | true =>
            exact (ih (skN sk o.dst) (acc ++ [s.H]) ⟨s.H, setK s.T o.dst UD⟩).trans (by rw [setK_eq]; rfl)
          | false =>
            refine condE_congr (slotK_eq _ _) ?_ ?_
            · cases want with
              | true => exact (stepK_eq true o _ _).trans (congrArg (stepX P G E true o _) (funext fun d => funext fun H => (ih (skO sk o.dst) (acc ++ [s.H]) ⟨s.H, setK ((t, V (.bool true)) :: s.T) o.dst d⟩).trans (by rw [setK_eq ⟨s.H, (t, V (.bool true)) :: s.T⟩])))
              | false => exact (ih (skN sk o.dst) (acc ++ [s.H]) ⟨s.H, setK ((t, V (.bool true)) :: s.T) o.dst UD⟩).trans (by rw [setK_eq ⟨s.H, (t, V (.bool true)) :: s.T⟩])
            · cases want with
              | true => exact (ih (skN sk o.dst) (acc ++ [s.H]) ⟨s.H, setK ((t, V (.bool false)) :: s.T) o.dst UD⟩).trans (by rw [setK_eq ⟨s.H, (t, V (.bool false)) :: s.T⟩])
              | false => exact (stepK_eq true o _ _).trans (congrArg (stepX P G E true o _) (funext fun d => funext fun H => (ih (skO sk o.dst) (acc ++ [s.H]) ⟨s.H, setK ((t, V (.bool false)) :: s.T) o.dst d⟩).trans (by rw [setK_eq ⟨s.H, (t, V (.bool false)) :: s.T⟩])))
    · cases hg : o.guard with
      | none =>
        exact congrArg (stepA P G E o s) (funext fun d => funext fun Y => (ih (skO sk o.dst) (acc ++ [s.H]) ⟨s.H ++ Y, setK s.T o.dst d⟩).trans (by rw [setK_eq]))
      | some g => rfl
    · cases hg : o.guard with
      | none =>
        exact (stepK_eqE o s _).trans (congrArg (stepE P G E o s) (funext fun d => funext fun Y => (ih (skO sk o.dst) (acc ++ [s.H]) ⟨Y, setK s.T o.dst d⟩).trans (by rw [setK_eq])))
      | some g =>
        obtain ⟨j, want⟩ := g
        dsimp only
        rw [dstK_eq]
        cases hd : dstAt ops j with
        | none => rfl
        | some t =>
          dsimp only
          cases hc : sk.contains t with
          | true =>
            exact (ih (skN sk o.dst) (acc ++ [s.H]) ⟨s.H, setK s.T o.dst UD⟩).trans (by rw [setK_eq]; rfl)
          | false =>
            refine condE_congr (slotK_eq _ _) ?_ ?_
            · cases want with
              | true => exact (stepK_eqE o ⟨s.H, (t, V (.bool true)) :: s.T⟩ _).trans (congrArg (stepE P G E o _) (funext fun d => funext fun Y => (ih (skO sk o.dst) (acc ++ [s.H]) ⟨Y, setK ((t, V (.bool true)) :: s.T) o.dst d⟩).trans (by rw [setK_eq ⟨s.H, (t, V (.bool true)) :: s.T⟩])))
              | false => exact (ih (skN sk o.dst) (acc ++ [s.H]) ⟨s.H, setK ((t, V (.bool true)) :: s.T) o.dst UD⟩).trans (by rw [setK_eq ⟨s.H, (t, V (.bool true)) :: s.T⟩])
            · cases want with
              | true => exact (ih (skN sk o.dst) (acc ++ [s.H]) ⟨s.H, setK ((t, V (.bool false)) :: s.T) o.dst UD⟩).trans (by rw [setK_eq ⟨s.H, (t, V (.bool false)) :: s.T⟩])
              | false => exact (stepK_eqE o ⟨s.H, (t, V (.bool false)) :: s.T⟩ _).trans (congrArg (stepE P G E o _) (funext fun d => funext fun Y => (ih (skO sk o.dst) (acc ++ [s.H]) ⟨Y, setK ((t, V (.bool false)) :: s.T) o.dst d⟩).trans (by rw [setK_eq ⟨s.H, (t, V (.bool false)) :: s.T⟩])))
noncomputable abbrev keepTK (L : List Nat) (T : Tm) : Tm := List.rec (motive := fun _ => Tm) [] (fun i _ ih => (i, slotK T i) :: ih) L
theorem keepTK_eq : ∀ (L : List Nat) (T : Tm), keepTK L T = keepT L T
  | [], T => rfl
  | i :: r, T => by
    have := keepTK_eq r T
    show (i, slotK T i) :: keepTK r T = (i, get T i) :: keepT r T
    rw [this, slotK_eq]
noncomputable abbrev rowsK (K : ASt → Option R) (l : List (Nat × TypeId × Nat)) : ASt → Option R :=
  List.rec (motive := fun _ => ASt → Option R) (fun s => K s) (fun p _ ih s => rowE (slotK s.T p.1) p.2.1 p.2.2 s.H fun d H => ih ⟨H, (p.1, d) :: s.T⟩) l
theorem rowsK_eq (K : ASt → Option R) : ∀ (l : List (Nat × TypeId × Nat)) (s : ASt), rowsK K l s = rowsE l s K
  | [], s => rfl
  | (i, e, z) :: r, s => by
    have ih : ∀ s, List.rec (motive := fun _ => ASt → Option R) _ _ r s = _ := fun s => rowsK_eq K r s
    unfold rowsE
    unfold rowsK
    dsimp only
    rw [slotK_eq]
    exact congrArg (rowE _ e z s.H) (funext fun d => funext fun H => ih _)
noncomputable abbrev litK (c : Operand) (b : Bool) (T : Tm) : Tm := Operand.rec (motive := fun _ => Tm) (fun t => (t, V (.bool b)) :: T) (fun _ => T) (fun _ => T) (fun _ => T) c
theorem litK_eq (c : Operand) (b : Bool) (T : Tm) : litK c b T = litC c b T := by cases c <;> rfl
noncomputable abbrev backKK (n0 : Nat) (L Lo : List Nat) (kc : ASt → Option R) (kx : KO R) : KO R := fun e s => match e with | .normal => backE n0 s.H (keepTK L s.T) kc | e => kx e ⟨s.H, keepTK Lo s.T⟩
theorem keepT_all (n0 : Nat) : ∀ (L : List Nat) (T : Tm), (keepT L T).all (fun p => ltT n0 p.2) = L.all fun i => ltT n0 (get T i)
  | [], T => rfl
  | i :: r, T => by simp only [keepT, List.all_cons, keepT_all n0 r T]
theorem backKK_eq (n0 : Nat) (L Lo : List Nat) (kc : ASt → Option R) (kx : KO R) : backKK n0 L Lo kc kx = backK n0 L Lo kc kx := by
  funext e s
  have e1 : ∀ L, keepTK L s.T = keepT L s.T := fun L => keepTK_eq L s.T
  cases e with
  | normal =>
    show backE n0 s.H (keepTK L s.T) kc = trimE n0 L s kc
    unfold backE trimE
    rw [e1, keepT_all]
  | exit i => show kx _ ⟨s.H, keepTK Lo s.T⟩ = kx _ ⟨s.H, keepT Lo s.T⟩; rw [e1]
  | goto i => show kx _ ⟨s.H, keepTK Lo s.T⟩ = kx _ ⟨s.H, keepT Lo s.T⟩; rw [e1]
  | ret => show kx _ ⟨s.H, keepTK Lo s.T⟩ = kx _ ⟨s.H, keepT Lo s.T⟩; rw [e1]
  | panic i => show kx _ ⟨s.H, keepTK Lo s.T⟩ = kx _ ⟨s.H, keepT Lo s.T⟩; rw [e1]
  | outgrown => show kx _ ⟨s.H, keepTK Lo s.T⟩ = kx _ ⟨s.H, keepT Lo s.T⟩; rw [e1]
noncomputable def gt (T : Tm) (i : Nat) : AV := slotK T i
theorem gt_eq (T : Tm) (i : Nat) : gt T i = get T i := slotK_eq T i
noncomputable def joinW (P : Program) (G : Gl) (E : Env) (M N : Nat) (c : Code) (h : Hint) (s : ASt) (k : KO R) : Option R := exec P G E M N c h s k
noncomputable def bodyW (P : Program) (G : Gl) (E : Env) (M N : Nat) (c : Code) (h : Hint) (L Lo : List Nat) (s : ASt) (kc : ASt → Option R) (kx : KO R) : Option R := exec P G E M N c h s (backK s.H.length L Lo kc kx)
noncomputable def backW (n0 : Nat) (L Lo : List Nat) (kc : ASt → Option R) (kx : KO R) : KO R := (fun _ : Program → Gl → Env → Nat → Nat → Code → Hint → List Nat → List Nat → ASt → (ASt → Option R) → KO R → Option R => backKK n0 L Lo kc kx) bodyW
theorem backW_eq (n0 : Nat) (L Lo : List Nat) (kc : ASt → Option R) (kx : KO R) : backW n0 L Lo kc kx = backK n0 L Lo kc kx := backKK_eq n0 L Lo kc kx
noncomputable def seqX (next : ASt → Option R) (k : KO R) : KO R := (fun _ : Program → Gl → Env → Nat → Nat → Code → Hint → List Nat → List Nat → ASt → (ASt → Option R) → KO R → Option R => fun e s => match e with | .normal => next s | e => k e s) bodyW
noncomputable def blockX (id : Nat) (k : KO R) : KO R := (fun _ : Program → Gl → Env → Nat → Nat → Code → Hint → List Nat → List Nat → ASt → (ASt → Option R) → KO R → Option R => fun e s => match e with | .exit i => (match Nat.beq i id with | true => k .normal s | false => k (.exit i) s) | e => k e s) bodyW
noncomputable abbrev forceK {α X : Type} (l : List α) (k : List α → X) : X := List.rec (motive := fun _ => (List α → X) → X) (fun k => k []) (fun a _ ih k => ih (fun r => k (a :: r))) l k
theorem forceK_eq {α X : Type} : ∀ (l : List α) (k : List α → X), forceK l k = k l
  | [], k => rfl
  | a :: r, k => (forceK_eq r (fun r => k (a :: r)) : forceK r (fun r => k (a :: r)) = k (a :: r))
noncomputable abbrev ancsK {X : Type} (l : List Oper) (acc : List Nat) (k : List Nat → X) : X := List.rec (motive := fun _ => List Nat → (List Nat → X) → X) (fun acc k => k acc) (fun o _ ih acc k => forceK (acc ++ [maskO acc o]) fun acc => ih acc k) l acc k
theorem ancsK_eq {X : Type} : ∀ (l : List Oper) (acc : List Nat) (k : List Nat → X), ancsK l acc k = k (ancs l acc)
  | [], acc, k => rfl
  | o :: r, acc, k => by
    show forceK (acc ++ [maskO acc o]) (fun acc => ancsK r acc k) = k (ancs r (acc ++ [maskO acc o]))
    rw [forceK_eq, ancsK_eq r]
noncomputable abbrev allK (l : List Oper) (f : Nat → Oper → Bool) (j : Nat) : Bool := List.rec (motive := fun _ => Nat → Bool) (fun _ => true) (fun o _ ih j => Bool.rec (motive := fun _ => Bool) false (ih (j + 1)) (f j o)) l j
theorem allL_cons (o : Oper) (r : List Oper) (f : Nat → Oper → Bool) : allL (o :: r) f = (f 0 o && allL r fun k => f (k + 1)) := by
  unfold allL
  rw [List.length_cons, List.range_succ_eq_map, List.all_cons, List.all_map]
  rfl
theorem allK_eq : ∀ (l : List Oper) (f : Nat → Oper → Bool) (j : Nat), allK l f j = allL l fun k => f (k + j)
  | [], f, j => rfl
  | o :: r, f, j => by
    rw [allL_cons]
    have := allK_eq r f (j + 1)
    show Bool.rec (motive := fun _ => Bool) false (allK r f (j + 1)) (f j o) = _
    rw [this]
    have e : (fun k => f (k + (j + 1))) = fun k => f (k + 1 + j) := by funext k; congr 1; omega
    rw [e]
    simp only [Nat.zero_add]
    cases f j o <;> rfl
theorem allL_K (l : List Oper) (f : Nat → Oper → Bool) : allL l f = allK l f 0 := (allK_eq l f 0).symm
noncomputable abbrev oddA (ops : List Oper) (A : List Nat) (p : Nat) : Bool := isAl ops p && isAl ops (p + 1) && allK ops (fun j _ => !((A.getD j 0).testBit (p + 1)) || (A.getD j 0).testBit p) 0
noncomputable abbrev tailA (kc : KC) (ops : List Oper) (N : Nat) (A : List Nat) : Bool :=
  allK ops (fun k o =>
    (match o.dst with
      | some d => decide (d < N) && allK ops (fun q oq => q == k || oq.dst != some d) 0
      | none => clsO kc o.op != 0) &&
    (decide (clsO kc o.op ≤ 1) || allK ops (fun i oi => i == k || clsO kc oi.op == 0 || (if i < k then (A.getD k 0).testBit i else (A.getD i 0).testBit k)) 0) &&
    (decide (clsO kc o.op ≠ 1) || allK ops (fun i oi => i == k || decide (clsO kc oi.op ≠ 1) || (if i < k then (A.getD k 0).testBit i || (k == i + 1 && oddA ops A i) else (A.getD i 0).testBit k || (i == k + 1 && oddA ops A k))) 0)) 0
noncomputable abbrev looksA (ops : List Oper) (A : List Nat) : Bool :=
  allK ops (fun j o => (tmpsOf o ++ (match o.guard with | some (k, _) => (dstAt ops k).toList | none => [])).all fun t =>
      (allK ops (fun k ok => ok.dst != some t || (A.getD k 0).testBit j) 0) || !(allK ops (fun k ok => !(decide (k < j) && ok.dst == some t && (A.getD j 0).testBit k)) 0)) 0
noncomputable abbrev drawA (kc : KC) (N : Nat) (ops : List Oper) (A : List Nat) : Bool := backShape ops.toArray && tailA kc ops N A && looksA ops A
theorem drawA_eq (kc : KC) (N : Nat) (ops : List Oper) : drawA kc N ops (ancs ops []) = drawOK kc N ops := by
  unfold drawOK tailY looksY oddY
  simp only [allL_K]
  rfl
noncomputable abbrev runQK (P : Program) (G : Gl) (E : Env) (ops : List Oper) (K : ASt → Option R) (l : List Oper) : List Nat → ASt → Option R :=
  List.rec (motive := fun _ => List Nat → ASt → Option R) (fun _ s => K s)
    (fun o _ ih sk s => match o.guard with
        | none => stepK P G E true o.op s fun d _ => ih (skO sk o.dst) ⟨s.H, setK s.T o.dst d⟩
        | some (j, want) => match dstK ops j with
          | none => none
          | some t => iteK (sk.contains t) (ih (skN sk o.dst) ⟨s.H, setK s.T o.dst UD⟩)
            (boolC (slotK s.T t)
              (iteK want (stepK P G E true o.op ⟨s.H, (t, V (.bool true)) :: s.T⟩ fun d _ => ih (skO sk o.dst) ⟨s.H, setK ((t, V (.bool true)) :: s.T) o.dst d⟩) (ih (skN sk o.dst) ⟨s.H, setK ((t, V (.bool true)) :: s.T) o.dst UD⟩))
              (iteK want (ih (skN sk o.dst) ⟨s.H, setK ((t, V (.bool false)) :: s.T) o.dst UD⟩) (stepK P G E true o.op ⟨s.H, (t, V (.bool false)) :: s.T⟩ fun d _ => ih (skO sk o.dst) ⟨s.H, setK ((t, V (.bool false)) :: s.T) o.dst d⟩)))) l
theorem runQK_eq (ops : List Oper) (K : ASt → Option R) (hq : ∀ (k : Nat) (o : Oper), ops[k]? = some o → clsO (kcE E) o.op = 0) : ∀ (l : List Oper) (sk : List Nat) (acc : List (List AObj)) (s : ASt), (∀ o ∈ l, clsO (kcE E) o.op = 0) → (∀ x ∈ acc, x = s.H) → runQK P G E ops K l sk s = runD P G E ops sk acc l s K
  | [], sk, acc, s, hl, ha => rfl
  | o :: r, sk, acc, s, hl, ha => by
    have ih : ∀ sk T, List.rec (motive := fun _ => List Nat → ASt → Option R) _ _ r sk (⟨s.H, T⟩ : ASt) = _ := fun sk T => runQK_eq ops K hq r sk (acc ++ [s.H]) ⟨s.H, T⟩ (fun o h => hl o (List.mem_cons_of_mem _ h)) (fun x h => by
      rcases List.mem_append.1 h with h | h
      · exact ha x h
      · exact List.mem_singleton.1 h)
    have h0 : clsO (kcE E) o.op = 0 := hl o (List.mem_cons_self ..)
    have hlo : loI (kcE E) ops (ancs ops []) acc.length = 0 := by
      rcases loI_spec (kc := kcE E) ops acc.length with h | ⟨q, o', h1, h2, h3, h4, h5⟩
      · exact h.1
      · exact absurd (hq q o' h3) h4
    have hH : lowH (kcE E) ops (ancs ops []) (acc ++ [s.H]) acc.length = s.H := by
      unfold lowH
      rw [freeI_quiet hq]
      dsimp only
      rw [hlo]
      cases acc with
      | nil => rfl
      | cons x a => exact ha x (List.mem_cons_self ..)
    unfold runD
    unfold runQK
    rw [h0, hH]
    dsimp only
    cases hg : o.guard with
      | none =>
        dsimp only
        rw [stepK_eq]
        exact congrArg (stepX P G E true o _) (funext fun d => funext fun H => (ih (skO sk o.dst) (setK s.T o.dst d)).trans (by rw [setK_eq]))
      | some g =>
        obtain ⟨j, want⟩ := g
        dsimp only
        rw [dstK_eq]
        cases hd : dstAt ops j with
        | none => rfl
        | some t =>
          dsimp only
          cases hc : sk.contains t with
          | true =>
            exact (ih (skN sk o.dst) (setK s.T o.dst UD)).trans (by rw [setK_eq]; rfl)
          | false =>
            refine condE_congr (slotK_eq _ _) ?_ ?_
            · cases want with
              | true => exact (stepK_eq true o _ _).trans (congrArg (stepX P G E true o _) (funext fun d => funext fun H => (ih (skO sk o.dst) (setK ((t, V (.bool true)) :: s.T) o.dst d)).trans (by rw [setK_eq ⟨s.H, (t, V (.bool true)) :: s.T⟩])))
              | false => exact (ih (skN sk o.dst) (setK ((t, V (.bool true)) :: s.T) o.dst UD)).trans (by rw [setK_eq ⟨s.H, (t, V (.bool true)) :: s.T⟩])
            · cases want with
              | true => exact (ih (skN sk o.dst) (setK ((t, V (.bool false)) :: s.T) o.dst UD)).trans (by rw [setK_eq ⟨s.H, (t, V (.bool false)) :: s.T⟩])
              | false => exact (stepK_eq true o _ _).trans (congrArg (stepX P G E true o _) (funext fun d => funext fun H => (ih (skO sk o.dst) (setK ((t, V (.bool false)) :: s.T) o.dst d)).trans (by rw [setK_eq ⟨s.H, (t, V (.bool false)) :: s.T⟩])))
noncomputable abbrev runZK (P : Program) (G : Gl) (E : Env) (ops : List Oper) (A : List Nat) (K : ASt → Option R) (s : ASt) : Option R :=
  iteK (allK ops (fun _ o => Nat.beq (clsO (kcE E) o.op) 0) 0) (runQK P G E ops K ops [] s) (runDK P G E ops A K ops [] [] s)
theorem runZK_eq (ops : List Oper) (K : ASt → Option R) (s : ASt) : runZK P G E ops (ancs ops []) K s = runD P G E ops [] [] ops s K := by
  unfold runZK
  cases h : allK ops (fun _ o => Nat.beq (clsO (kcE E) o.op) 0) 0 with
  | false => exact runDK_eq ops K ops [] [] s
  | true =>
    rw [← allL_K] at h
    have hq : ∀ (k : Nat) (o : Oper), ops[k]? = some o → clsO (kcE E) o.op = 0 := fun k o ho => Nat.eq_of_beq_eq_true (allL_spec h ho)
    exact runQK_eq ops K hq ops [] [] s (fun o ho => by obtain ⟨k, hk⟩ := List.getElem?_of_mem ho; exact hq k o hk) (fun x hx => absurd hx List.not_mem_nil)
noncomputable abbrev execK (P : Program) (G : Gl) (E : Env) (M N : Nat) (c : Code) : Hint → ASt → KO R → Option R :=
  Code.rec (motive := fun _ => Hint → ASt → KO R → Option R)
    (fun h s k => k .normal s)
    (fun id ops draw h s k => forceK ops.toList fun l => iteK draw
      (ancsK l [] fun A => whenK (drawA (kcE E) N l A) (runZK P G E l A (fun s => k .normal s) s))
      (whenK (fits N l) (runK P G E false l (fun s => k .normal s) l [] s)))
    (fun a b iha ihb h s k => iha h.l s (fun e s' => match e with | .normal => Option.rec (motive := fun _ => Option R) (ihb h.r s' k) (fun L => joinW P G E M N b h.r ⟨s'.H, keepTK L s'.T⟩ k) h.J | e => k e s'))
    (fun c x y ihx ihy h s k => boolC (evK G s.T c) (ihx h.l ⟨s.H, litK c true s.T⟩ k) (ihy h.r ⟨s.H, litK c false s.T⟩ k))
    (fun id c ih h s k => ih h.c s (fun e s' => match e with | .exit i => (iteK (Nat.beq i id) (k .normal s') (k (.exit i) s')) | e => k e s'))
    (fun c ih h s k => rowsK (fun s => iterC M (bodyW P G E M N c h.c h.L h.Lo) ⟨s.H, keepTK h.L s.T⟩ k) h.rows s)
    (fun _ _ _ _ _ _ _ _ _ => none)
    (fun id h s k => k (.exit id) s)
    (fun _ _ _ _ _ => none)
    (fun _ _ _ _ => none)
    (fun _ _ _ _ => none)
    (fun h s k => k .ret s)
    (fun _ _ _ _ => none) c
theorem execK_eq : ∀ (c : Code) (h : Hint) (s : ASt) (k : KO R), execK P G E M N c h s k = exec P G E M N c h s k
  | .skip, h, s, k => rfl
  | .region id ops draw, h, s, k => by
    refine (forceK_eq ops.toList _).trans ?_
    cases draw with
    | true =>
      refine (ancsK_eq ops.toList [] fun A => whenK (drawA (kcE E) N ops.toList A) (runZK P G E ops.toList A (fun s => k .normal s) s)).trans ?_
      rw [drawA_eq]
      show whenK (drawOK (kcE E) N ops.toList) (runZK P G E ops.toList (ancs ops.toList []) (fun s => k .normal s) s) = whenE _ _
      rw [whenK_eq, runZK_eq]
    | false =>
      show whenK _ (runK P G E false ops.toList (fun s => k .normal s) ops.toList [] s) = whenE _ _
      rw [whenK_eq, runK_eq]
  | .seq a b, h, s, k => by
    show execK P G E M N a h.l s _ = exec P G E M N a h.l s _
    rw [execK_eq a]
    congr 1
    funext e s'
    cases e with
    | normal =>
      dsimp only
      cases h.J with
      | none => exact execK_eq b h.r s' k
      | some L => exact (congrArg (fun q => exec P G E M N b h.r ⟨s'.H, q⟩ k) (keepTK_eq L s'.T))
    | exit id => rfl
    | goto l => rfl
    | ret => rfl
    | panic ch => rfl
    | outgrown => rfl
  | .cond c x y, h, s, k => by
    show boolC (evK G s.T c) (execK P G E M N x h.l _ k) (execK P G E M N y h.r _ k) = _
    rw [execK_eq x, execK_eq y, evK_eq, litK_eq, litK_eq]
    rfl
  | .block id c, h, s, k => by
    show execK P G E M N c h.c s _ = exec P G E M N c h.c s _
    rw [execK_eq c]
    congr 1
    funext e s'
    cases e with
    | exit i =>
      show iteK (Nat.beq i id) _ _ = _
      dsimp only
      cases Nat.beq i id <;> rfl
    | normal => rfl
    | goto l => rfl
    | ret => rfl
    | panic ch => rfl
    | outgrown => rfl
  | .loop c, h, s, k => by
    show rowsK _ h.rows s = rowsE h.rows s _
    rw [rowsK_eq]
    congr 1
    funext s
    rw [keepTK_eq]
    rfl
  | .rangeFunc .., h, s, k => rfl
  | .scope _, h, s, k => rfl
  | .label _, h, s, k => rfl
  | .goto _, h, s, k => rfl
  | .refuse _, h, s, k => rfl
  | .exit id, h, s, k => rfl
  | .ret, h, s, k => rfl
theorem joinW_eq (P : Program) (G : Gl) (E : Env) (M N : Nat) (c : Code) (h : Hint) (s : ASt) (k : KO R) : joinW P G E M N c h s k = execK P G E M N c h s k := (execK_eq c h s k).symm
theorem bodyW_eq (P : Program) (G : Gl) (E : Env) (M N : Nat) (c : Code) (h : Hint) (L Lo : List Nat) (s : ASt) (kc : ASt → Option R) (kx : KO R) : bodyW P G E M N c h L Lo s kc kx = execK P G E M N c h s (backKK s.H.length L Lo kc kx) := by
  rw [execK_eq, backKK_eq]; rfl
noncomputable abbrev resEK (P : Program) (H : List AObj) (T : Tm) (rs : List ResultVar) : (List AV → RO) → RO :=
  List.rec (motive := fun _ => (List AV → RO) → RO) (fun K => K [])
    (fun r _ ih K => ResultVar.rec (motive := fun _ => RO) (fun t => ih fun ds => K (gt T t :: ds)) (fun b t => loadE (kindT P t) H (gt T b) fun d => ih fun ds => K (d :: ds)) r) rs
theorem resEK_eq {P : Program} {H : List AObj} {T : Tm} : ∀ (rs : List ResultVar) (K : List AV → RO), resEK P H T rs K = resE P H T rs K
  | [], K => rfl
  | .tmp t :: rs, K => by
    have ih : ∀ K, resEK P H T rs K = _ := fun K => resEK_eq rs K
    show resEK P H T rs (fun ds => K (gt T t :: ds)) = resE P H T rs (fun ds => K (get T t :: ds))
    rw [ih, gt_eq]
  | .cell b t :: rs, K => by
    have ih : ∀ K, resEK P H T rs K = _ := fun K => resEK_eq rs K
    show loadE (kindT P t) H (gt T b) (fun d => resEK P H T rs fun ds => K (d :: ds)) = loadE (kindT P t) H (get T b) (fun d => resE P H T rs fun ds => K (d :: ds))
    rw [gt_eq]
    exact congrArg (loadE _ _ _) (funext fun d => ih _)
noncomputable abbrev tellFK (P : Program) (rs : List ResultVar) : KO (AV × List AObj) := fun e s => match e with
  | .normal => resEK P s.H s.T rs fun ds => tellK s.H (ro s.H (oneOf ds))
  | .ret => resEK P s.H s.T rs fun ds => tellK s.H (ro s.H (oneOf ds))
  | _ => none
theorem tellFK_eq (P : Program) (rs : List ResultVar) : tellFK P rs = tellF P rs := by
  funext e s
  cases e <;> first | rfl | exact resEK_eq rs _
noncomputable abbrev keepFK (P : Program) (n : Nat) (rs : List ResultVar) : KO (AV × List AObj) := fun e s => match e with
  | .normal => resEK P s.H s.T rs fun ds => keepK n s.H (ro s.H (oneOf ds))
  | .ret => resEK P s.H s.T rs fun ds => keepK n s.H (ro s.H (oneOf ds))
  | _ => none
theorem keepFK_eq (P : Program) (n : Nat) (rs : List ResultVar) : keepFK P n rs = keepF P n rs := by
  funext e s
  cases e <;> first | rfl | exact resEK_eq rs _
theorem tellX (P : Program) (G : Gl) (E : Env) (M N : Nat) (c : Code) (h : Hint) (s : ASt) (rs : List ResultVar) : exec P G E M N c h s (tellFK P rs) = execK P G E M N c h s (tellFK P rs) := (execK_eq c h s _).symm
theorem keepX (P : Program) (G : Gl) (E : Env) (M N n : Nat) (c : Code) (h : Hint) (s : ASt) (rs : List ResultVar) : exec P G E M N c h s (keepFK P n rs) = execK P G E M N c h s (keepFK P n rs) := (execK_eq c h s _).symm
theorem tell_okK {G : Gl} {E : Env} {M : Nat} {P : Program} {N : Nat} (hm : P.follows .mixedOrders = true) (hE : EnvOk P G E) {f : FuncId} {fn : Func} {c : Code} {args : List AV} (hf : P.funcs[f]? = some fn) (hb : fn.body = some c) (hc : callIs P f = true) (rs : List ResultVar) (hrs : fn.results.toList = rs) (hN : fn.ntmps = N) (hargs : args.length ≤ N) (h : Hint)
    {X : AV} {H' : List AObj} (hx : exec P G E M N c h ⟨[], argsT 0 args⟩ (tellFK P rs) = some (X, H')) : ACp P G f args X :=
  tell_ok hm hE hf hb hc rs hrs hN hargs h (by rw [← tellFK_eq]; exact hx)
theorem keep_okK {G : Gl} {E : Env} {M : Nat} {P : Program} {N : Nat} {H : List AObj} (hm : P.follows .mixedOrders = true) (hE : EnvOk P G E) {f : FuncId} {fn : Func} {c : Code} {args : List AV} (hf : P.funcs[f]? = some fn) (hb : fn.body = some c) (hc : callIs P f = true) (rs : List ResultVar) (hrs : fn.results.toList = rs) (hN : fn.ntmps = N) (hargs : args.length ≤ N) (h : Hint)
    {X : AV} {H' : List AObj} (hx : exec P G E M N c h ⟨H, argsT 0 args⟩ (keepFK P H.length rs) = some (X, H')) : AC P G f args H (Is X H') :=
  keep_ok hm hE hf hb hc rs hrs hN hargs h (by rw [← keepFK_eq]; exact hx)
end
end Go.Proofs.Ytbobfgbjliolmaa

namespace Go.Proofs.Ytbobfgbjliolmaa
open Go.RowKit
set_option linter.unusedVariables false
set_option linter.unusedSimpArgs false
abbrev nA (n : Int) : AV := V (.int .i64 n)
abbrev bA (b : Bool) : AV := V (.bool b)
section
variable {R : Type} {K : AV → Option R} {ks : Option (List CK)} {isB sl : Bool} {k k' : IntKind} {a b : Int} {A B : Option R} {H : List AObj} {T : Tm} {x y z : AV} {i j n m o : Nat} {cs es : List AV}
theorem u_add : binE ks isB sl .add (V (.int k a)) (V (.int k b)) K = K (V (.int k (k.wrap (a + b)))) := by simp [binE, intE, whenE]
theorem u_sub : binE ks isB sl .sub (V (.int k a)) (V (.int k b)) K = K (V (.int k (k.wrap (a - b)))) := by simp [binE, intE, whenE]
theorem u_mul : binE ks isB sl .mul (V (.int k a)) (V (.int k b)) K = K (V (.int k (k.wrap (a * b)))) := by simp [binE, intE, whenE]
theorem u_quo : binE ks isB sl .quo (V (.int k a)) (V (.int k b)) K = whenE (decide (¬ b = 0)) (K (V (.int k (k.wrap (a.tdiv b))))) := by simp [binE, intE, whenE]
theorem u_rem : binE ks isB sl .rem (V (.int k a)) (V (.int k b)) K = whenE (decide (¬ b = 0)) (K (V (.int k (a.tmod b)))) := by simp [binE, intE, whenE]
theorem u_and : binE ks isB sl .and (V (.int k a)) (V (.int k b)) K = K (V (.int k (bits .and k a b))) := by simp [binE, intE, whenE]
theorem u_or : binE ks isB sl .or (V (.int k a)) (V (.int k b)) K = K (V (.int k (bits .or k a b))) := by simp [binE, intE, whenE]
theorem u_xor : binE ks isB sl .xor (V (.int k a)) (V (.int k b)) K = K (V (.int k (bits .xor k a b))) := by simp [binE, intE, whenE]
theorem u_andNot : binE ks isB sl .andNot (V (.int k a)) (V (.int k b)) K = K (V (.int k (bits .andNot k a b))) := by simp [binE, intE, whenE]
theorem u_shl : binE ks isB sl .shl (V (.int k a)) (V (.int k' b)) K = whenE (decide (0 ≤ b)) (K (V (.int k (k.wrap (a * 2 ^ (min b.toNat k.bits)))))) := by simp [binE, intE, whenE]
theorem u_shr : binE ks isB sl .shr (V (.int k a)) (V (.int k' b)) K = whenE (decide (0 ≤ b)) (K (V (.int k (a.fdiv (2 ^ (min b.toNat k.bits)))))) := by simp [binE, intE, whenE]
theorem u_eql : binE ks isB sl .eql (V (.int k a)) (V (.int k b)) K = K (V (.bool (decide (a = b)))) := by simp [binE, intE, whenE]
theorem u_neq : binE ks isB sl .neq (V (.int k a)) (V (.int k b)) K = K (V (.bool (!decide (a = b)))) := by simp [binE, intE, whenE]
theorem u_lss : binE ks isB sl .lss (V (.int k a)) (V (.int k b)) K = K (V (.bool (decide (a < b)))) := by simp [binE, intE, whenE]
theorem u_leq : binE ks isB sl .leq (V (.int k a)) (V (.int k b)) K = K (V (.bool (decide (a ≤ b)))) := by simp [binE, intE, whenE]
theorem u_gtr : binE ks isB sl .gtr (V (.int k a)) (V (.int k b)) K = K (V (.bool (decide (b < a)))) := by simp [binE, intE, whenE]
theorem u_geq : binE ks isB sl .geq (V (.int k a)) (V (.int k b)) K = K (V (.bool (decide (b ≤ a)))) := by simp [binE, intE, whenE]
section
variable {s t : List UInt8}
theorem u_sadd : binE ks isB sl .add (V (.string ⟨s.toArray⟩)) (V (.string ⟨t.toArray⟩)) K = whenE (decide ((((s.length + t.length : Nat) : Int)) ≤ 9223372036854775807)) (K (V (.string ⟨(s ++ t).toArray⟩))) := _root_.id rfl
theorem u_seql : binE ks isB sl .eql (V (.string ⟨s.toArray⟩)) (V (.string ⟨t.toArray⟩)) K = K (V (.bool (decide (s = t)))) := _root_.id rfl
theorem u_sneq : binE ks isB sl .neq (V (.string ⟨s.toArray⟩)) (V (.string ⟨t.toArray⟩)) K = K (V (.bool (!decide (s = t)))) := _root_.id rfl
theorem u_slss : binE ks isB sl .lss (V (.string ⟨s.toArray⟩)) (V (.string ⟨t.toArray⟩)) K = K (V (.bool (Op.bytesLess s t))) := _root_.id rfl
theorem u_sleq : binE ks isB sl .leq (V (.string ⟨s.toArray⟩)) (V (.string ⟨t.toArray⟩)) K = K (V (.bool (Op.bytesLess s t || decide (s = t)))) := _root_.id rfl
theorem u_sgtr : binE ks isB sl .gtr (V (.string ⟨s.toArray⟩)) (V (.string ⟨t.toArray⟩)) K = K (V (.bool (!(Op.bytesLess s t || decide (s = t))))) := _root_.id rfl
theorem u_sgeq : binE ks isB sl .geq (V (.string ⟨s.toArray⟩)) (V (.string ⟨t.toArray⟩)) K = K (V (.bool (!Op.bytesLess s t))) := _root_.id rfl
theorem u_slen {isS isL : Bool} : lenE isS isL H (V (.string ⟨s.toArray⟩)) K = whenE isS (K (V (.int .i64 s.length))) := _root_.id rfl
theorem u_sidx {isS : Bool} {at_ : Option (Nat × Nat)} : idxVE isS at_ (V (.string ⟨s.toArray⟩)) (V (.int k a)) K = whenE (isS && decide (0 ≤ a) && decide (a < s.length)) (K (V (.int .u8 ((s.getD a.toNat 0).toNat : Int)))) := _root_.id rfl
theorem u_scut {isS : Bool} {st : Option (TypeId × Nat)} {lo hi : Option AV} : sliceE isS st H (V (.string ⟨s.toArray⟩)) lo hi K = whenE isS (asIE lo 0 fun l => asIE hi s.length fun h => whenE (decide (0 ≤ l) && decide (l ≤ h) && decide (h ≤ s.length)) (K (V (.string ⟨((s.take h.toNat).drop l.toNat).toArray⟩)))) := _root_.id rfl
theorem u_sconv {isS so ib : Bool} {dk : Option IntKind} {q : ByteArray} : convE isS dk so ib (V (.string q)) K = whenE isS (K (V (.string q))) := _root_.id rfl
end
theorem u_beql {p q : Bool} : binE ks isB sl .eql (V (.bool p)) (V (.bool q)) K = whenE isB (K (V (.bool (decide (p = q))))) := _root_.id rfl
theorem u_bneq {p q : Bool} : binE ks isB sl .neq (V (.bool p)) (V (.bool q)) K = whenE isB (K (V (.bool (!decide (p = q))))) := _root_.id rfl
theorem u_iconv {isS ib : Bool} : convE isS (some k) true ib (V (.int k' a)) K = K (V (.int k (k.wrap a))) := _root_.id rfl
theorem u_cond {p : Bool} : condE (V (.bool p)) A B = if p = true then A else B := by cases p <;> rfl
theorem u_condT : condE (V (.bool true)) A B = A := _root_.id rfl
theorem u_condF : condE (V (.bool false)) A B = B := _root_.id rfl
theorem u_notb {p : Bool} : unE .not (V (.bool p)) K = K (V (.bool (!p))) := _root_.id rfl
theorem u_negi : unE .neg (V (.int k a)) K = K (V (.int k (k.wrap (0 - a)))) := _root_.id rfl
theorem u_pick {p : Bool} : pickE (V (.bool p)) x y K = if p = true then K x else K y := by cases p <;> rfl
theorem u_ext {ds : List AV} : extE (TU ds) i K = nthE ds i K := _root_.id rfl
theorem u_nth0 : nthE (x :: es) 0 K = K x := _root_.id rfl
theorem u_nthS : nthE (x :: es) (i + 1) K = nthE es i K := _root_.id rfl
theorem u_nthM {α : Type} {f : α → AV} {l : List α} (h : i < l.length) : nthE (l.map f) i K = K (f l[i]) := by simp [nthE, h]
theorem u_nthO0 {q : AObj} {K : AObj → Option R} : nthOE (q :: H) 0 K = K q := _root_.id rfl
theorem u_nthOS {q : AObj} {K : AObj → Option R} : nthOE (q :: H) (i + 1) K = nthOE H i K := _root_.id rfl
theorem u_ldA : loadE n H (.ptr (.agg cs)) K = whenE (decide (n = cs.length + 2)) (K (.agg cs)) := _root_.id rfl
theorem u_ldV {v : Value} : loadE n H (.ptr (V v)) K = whenE (decide (n = 1)) (K (V v)) := _root_.id rfl
theorem u_ldS {sp : List AV} : loadE n H (.ptr (.slice es sp)) K = whenE (decide (n = 1)) (K (.slice es sp)) := _root_.id rfl
theorem u_ldO : loadE n H (OP i o) K = nthOE H i fun ob => cellsE ob fun l => ofCellsE n l o K := by unfold loadE; rfl
theorem u_cl1 {e : TypeId} {z : Nat} {K : List AV → Option R} : cellsE ⟨1, e, z, cs⟩ K = K cs := by unfold cellsE; rfl
theorem u_cl4 {e : TypeId} {z : Nat} {K : List AV → Option R} : cellsE ⟨4, e, z, cs⟩ K = whenE (decide (0 < cs.length)) (K (flat cs)) := by unfold cellsE; rfl
theorem u_oc1 : ofCellsE 1 cs o K = nthE cs o K := _root_.id rfl
theorem u_oc2 : ofCellsE (n + 2) cs o K = whenE (decide (o + n ≤ cs.length)) (K (.agg ((cs.drop o).take n))) := _root_.id rfl
theorem u_stO {K : List AObj → Option R} : storeE n H (OP i o) x K = nthOE H i fun ob => putE ob n o x fun ob' => K (H.set i ob') := by unfold storeE; rfl
theorem u_pt1 {e : TypeId} {z : Nat} {K : AObj → Option R} : putE ⟨1, e, z, cs⟩ n o x K = whenE (decide (¬ n = 0) && decide ((cellsOf x).length = szOf n) && (cellsOf x).all sure) (whenE (decide (o + szOf n ≤ cs.length)) (K ⟨1, e, z, setCells cs o (cellsOf x)⟩)) := by unfold putE; rfl
theorem u_pt4 {e : TypeId} {z : Nat} {K : AObj → Option R} : putE ⟨4, e, z, cs⟩ n o x K = whenE (decide (¬ n = 0) && decide ((cellsOf x).length = szOf n) && (cellsOf x).all sure) (whenE (decide (0 < z) && decide (szOf n = z) && decide (o % z = 0) && decide (o / z < cs.length)) (K ⟨4, e, z, cs.set (o / z) x⟩)) := by unfold putE; rfl
theorem u_ixR {q : Nat} : idxSE n H (PR q m) (V (.int k a)) K = whenE (decide (0 ≤ a)) (whenE (decide (a < m)) (nthOE H q fun ob => whenE (decide (ob.k = 4) && decide (ob.z = szOf n) && decide (m = ob.c.length)) (K (OP q (a.toNat * szOf n))))) := _root_.id rfl
theorem u_lenR {isS isL : Bool} : lenE isS isL H (PR i m) K = whenE isL (K (V (.int .i64 m))) := _root_.id rfl
theorem u_lenZ {isS isL : Bool} : lenE isS isL H ZV K = whenE isL (K (V (.int .i64 0))) := _root_.id rfl
theorem u_elZ {K : List AV → Option R} : elemsE H ZV K = K [] := _root_.id rfl
theorem u_ixZ : idxSE n H ZV (V (.int k a)) K = whenE (decide (0 ≤ a)) (nthE [] a.toNat fun d => whenE (decide ((cellsOf d).length = szOf n)) (K (.ptr d))) := _root_.id rfl
theorem u_fA : fieldE (some (o, n)) (.ptr (.agg cs)) K = ofCellsE n cs o fun d => K (.ptr d) := _root_.id rfl
theorem u_fO : fieldE (some (o, n)) (OP i j) K = K (OP i (j + o)) := _root_.id rfl
theorem u_fV : fieldVE (some (o, n)) (.agg cs) K = ofCellsE n cs o K := _root_.id rfl
theorem u_ixS : idxSE n H (SL es) (V (.int k a)) K = whenE (decide (0 ≤ a)) (nthE es a.toNat fun d => whenE (decide ((cellsOf d).length = szOf n)) (K (.ptr d))) := _root_.id rfl
theorem u_ixW : idxSE n H (OW i m) (V (.int k a)) K = whenE (decide (0 ≤ a)) (nthOE H i fun ob => whenE (decide (ob.k = 2) && decide (m = ob.c.length)) (nthE ob.c a.toNat fun d => whenE (decide ((cellsOf d).length = szOf n)) (K (.ptr d)))) := _root_.id rfl
theorem u_ixN : idxSE n H (V (.slice none 0 0)) (V (.int k a)) K = whenE (decide (0 ≤ a)) (nthE [] a.toNat fun d => whenE (decide ((cellsOf d).length = szOf n)) (K (.ptr d))) := _root_.id rfl
theorem u_ixP : idxPE m n (.ptr (.agg cs)) (V (.int k a)) K = whenE (decide (0 ≤ a) && decide (a < m)) (ofCellsE n cs (a.toNat * szOf n) fun d => K (.ptr d)) := _root_.id rfl
theorem u_ixO : idxPE m n (OP i j) (V (.int k a)) K = whenE (decide (0 ≤ a) && decide (a < m)) (K (OP i (j + a.toNat * szOf n))) := _root_.id rfl
theorem u_ixV {isS : Bool} : idxVE isS (some (m, n)) (.agg cs) (V (.int k a)) K = whenE (decide (0 ≤ a) && decide (a < m)) (ofCellsE n cs (a.toNat * szOf n) K) := _root_.id rfl
theorem u_lenS {isS isL : Bool} : lenE isS isL H (SL es) K = whenE isL (K (V (.int .i64 es.length))) := _root_.id rfl
theorem u_lenW {isS isL : Bool} : lenE isS isL H (OW i m) K = whenE isL (nthOE H i fun ob => whenE (decide (ob.k = 2) && decide (m = ob.c.length)) (K (V (.int .i64 ob.c.length)))) := _root_.id rfl
theorem u_lenN {isS isL : Bool} : lenE isS isL H (V (.slice none 0 0)) K = whenE isL (K (V (.int .i64 0))) := _root_.id rfl
theorem u_elS {K : List AV → Option R} : elemsE H (SL es) K = K es := _root_.id rfl
theorem u_elN {K : List AV → Option R} : elemsE H (V (.slice none 0 0)) K = K [] := _root_.id rfl
theorem u_elW {K : List AV → Option R} : elemsE H (OW i m) K = nthOE H i fun ob => whenE (decide (ob.k = 2) && decide (m = ob.c.length)) (K ob.c) := _root_.id rfl
section
variable {e : TypeId} {K : AV → List AObj → Option R} {K1 : AV → Option R} {lo hi : Option AV} {isS : Bool}
theorem u_appZ : appE (some (e, n)) H ZV y K = elemsE H y fun es => whenE (allCE n es) (whenE (decide (es.length ≤ 34359738368)) (K (OW H.length es.length) (H ++ [⟨2, e, n, es⟩]))) := _root_.id rfl
theorem u_appN : appE (some (e, n)) H (V (.slice none 0 0)) y K = elemsE H y fun es => whenE (allCE n es) (whenE (decide (es.length ≤ 34359738368)) (K (OW H.length es.length) (H ++ [⟨2, e, n, es⟩]))) := _root_.id rfl
theorem u_appW : appE (some (e, n)) H (OW i m) y K = elemsE H y fun es => whenE (allCE n es) (nthOE H i fun ob => whenE (decide (ob.k = 2) && decide (ob.e = e) && decide (ob.z = n) && decide (m = ob.c.length) && decide (m + es.length ≤ 34359738368)) (K (OW i (m + es.length)) (H.set i { ob with c := ob.c ++ es }))) := _root_.id rfl
theorem u_allC {n : Nat} : allCE n es = es.all fun d => decide ((cellsOf d).length = n) := _root_.id rfl
theorem u_cutS : sliceE isS (some (e, n)) H (SL es) lo hi K1 = whenE (allCE (szOf n) es) (asIE lo 0 fun l => asIE hi es.length fun h => whenE (decide (0 ≤ l) && decide (l ≤ h) && decide (h ≤ es.length)) (K1 (SL (cutE es l h)))) := _root_.id rfl
theorem u_cutW : sliceE isS (some (e, n)) H (OW i m) lo hi K1 = nthOE H i fun ob => whenE (decide (ob.k = 2) && decide (m = ob.c.length)) (whenE (allCE (szOf n) ob.c) (asIE lo 0 fun l => asIE hi ob.c.length fun h => whenE (decide (0 ≤ l) && decide (l ≤ h) && decide (h ≤ ob.c.length)) (K1 (SL (cutE ob.c l h))))) := _root_.id rfl
theorem u_cutN : sliceE isS (some (e, n)) H (V (.slice none 0 0)) lo hi K1 = asIE lo 0 fun l => asIE hi 0 fun h => whenE (decide (0 ≤ l) && decide (l ≤ h) && decide (h ≤ 0)) (K1 (SL (cutE [] l h))) := _root_.id rfl
theorem u_alloc : allocE (some cs) e H K = K (OP H.length 0) (H ++ [⟨1, e, 0, cs⟩]) := _root_.id rfl
theorem u_box : boxE e H x K = whenE ((cellsOf x).all sure) (K (OP H.length 0) (H ++ [⟨1, e, 0, cellsOf x⟩])) := _root_.id rfl
theorem u_keep {X : AV} {H' : List AObj} : keepE (some (X, H')) K = K X H' := _root_.id rfl
theorem u_rowN : rowE (V (.slice none 0 0)) e n H K = K (OW H.length 0) (H ++ [⟨2, e, n, []⟩]) := _root_.id rfl
theorem u_rowS {sp : List AV} : rowE (.slice es sp) e n H K = K (.slice es sp) H := _root_.id rfl
theorem u_rowW : rowE (OW i m) e n H K = K (OW i m) H := _root_.id rfl
end
theorem u_asN {K : Int → Option R} : asIE none a K = K a := _root_.id rfl
theorem u_asS {K : Int → Option R} : asIE (some (V (.int k b))) a K = K b := _root_.id rfl
theorem u_nilO : nilE (OP i o) K = K (OP i o) := _root_.id rfl
theorem u_nilP : nilE (.ptr x) K = K (.ptr x) := _root_.id rfl
theorem u_tell {X : AV} {H' : List AObj} {args : List AV} : tellE (some (X, H')) args K = whenE (args.all (ltT 0)) (K X) := _root_.id rfl
theorem u_tellK {X : AV} : tellK H X = cbE (ltT 0 X) (some (X, [])) (tellZ H X) := _root_.id rfl
theorem u_cbT {x y : R} : cbE true x y = x := _root_.id rfl
theorem u_cbF {x y : R} : cbE false x y = y := _root_.id rfl
theorem u_tellZ {X : AV} : tellZ H X = whenE (ltT 0 (fzV H X)) (some (fzV H X, [])) := _root_.id rfl
theorem u_keepK {X : AV} : keepK n H X = whenE (decide (n ≤ H.length) && (H.take n).all (ltO n) && ltT n X) (some (X, H.take n)) := _root_.id rfl
section
variable {next : ASt → Option R} {kk kx : KO R} {s : ASt} {e : Exit} {kc : ASt → Option R} {L Lo : List Nat} {Bd : ASt → (ASt → Option R) → KO R → Option R}
theorem u_seqN : seqX next kk .normal s = next s := _root_.id rfl
theorem u_seqR : seqX next kk .ret s = kk .ret s := _root_.id rfl
theorem u_seqX : seqX next kk (.exit i) s = kk (.exit i) s := _root_.id rfl
theorem u_blkN : blockX j kk .normal s = kk .normal s := _root_.id rfl
theorem u_blkR : blockX j kk .ret s = kk .ret s := _root_.id rfl
theorem u_blkX : blockX j kk (.exit i) s = if i = j then kk .normal s else kk (.exit i) s := by
  show (match Nat.beq i j with | true => kk .normal s | false => kk (.exit i) s) = _
  by_cases e : i = j
  · rw [if_pos e, Nat.beq_eq.mpr e]
  · rw [if_neg e]
    cases hb : Nat.beq i j with
    | false => rfl
    | true => exact absurd (Nat.eq_of_beq_eq_true hb) e
theorem u_bakN : backK n L Lo kc kx .normal s = trimE n L s kc := _root_.id rfl
theorem u_bakR : backK n L Lo kc kx .ret s = kx .ret ⟨s.H, keepT Lo s.T⟩ := _root_.id rfl
theorem u_bakX : backK n L Lo kc kx (.exit i) s = kx (.exit i) ⟨s.H, keepT Lo s.T⟩ := _root_.id rfl
theorem u_bwN : backW n L Lo kc kx .normal s = backE n s.H (keepT L s.T) kc := by rw [backW_eq]; show trimE n L s kc = _; unfold trimE backE; rw [keepT_all]
theorem u_bwR : backW n L Lo kc kx .ret s = kx .ret ⟨s.H, keepT Lo s.T⟩ := by rw [backW_eq]; rfl
theorem u_bwX : backW n L Lo kc kx (.exit i) s = kx (.exit i) ⟨s.H, keepT Lo s.T⟩ := by rw [backW_eq]; rfl
theorem u_kpN : keepT [] T = [] := _root_.id rfl
theorem u_kpC : keepT (i :: L) T = (i, get T i) :: keepT L T := _root_.id rfl
theorem u_back {L : Tm} : backE n H L kc = whenE (decide (n ≤ H.length) && (H.take n).all (ltO n) && L.all fun p => ltT n p.2) (kc ⟨H.take n, L⟩) := _root_.id rfl
theorem u_trim : trimE n L s kc = whenE (decide (n ≤ s.H.length) && (s.H.take n).all (ltO n) && L.all fun i => ltT n (get s.T i)) (kc ⟨s.H.take n, keepT L s.T⟩) := _root_.id rfl
theorem iter_ind {ι : Type} {kx : KO R} {Bd : ASt → (ASt → Option R) → KO R → Option R} (I : ι → ASt) (M : ι → Nat) (A : ι → Option R) (hs : ∀ i (kc : ASt → Option R), (∀ j, M j < M i → kc (I j) = A j) → Bd (I i) kc kx = A i) (i : ι) {m : Nat} (hm : M i < m) : iterC m Bd (I i) kx = A i := by
  induction m generalizing i with
  | zero => omega
  | succ m ih => exact hs i _ fun j hj => ih j (by omega)
theorem iter_go {ι : Type} {kxr : KO R} {Bd : ASt → (ASt → Option R) → KO R → Option R} (I : ι → ASt) (M : ι → Nat) (A : ι → Option R) (hs : ∀ (kx : KO R), (∀ e s, kx e s = kxr e s) → ∀ i (kc : ASt → Option R), (∀ j, M j < M i → kc (I j) = A j) → Bd (I i) kc kx = A i) (i : ι) {m : Nat} (hm : M i < m) : iterC m Bd (I i) kxr = A i :=
  iter_ind I M A (fun i kc h => hs kxr (fun _ _ => rfl) i kc h) i hm
end
end
attribute [go_sem] u_add u_sub u_mul u_quo u_rem u_and u_or u_xor u_andNot u_shl u_shr u_eql u_neq u_lss u_leq u_gtr u_geq u_sadd u_seql u_sneq u_slss u_sleq u_sgtr u_sgeq u_slen u_sidx u_scut u_sconv u_beql u_bneq u_iconv u_cond u_condT u_condF u_notb u_negi u_pick u_ext u_nth0 u_nthS u_nthO0 u_nthOS u_ldA u_ldV u_ldS u_ldO u_oc1 u_oc2 u_stO u_fA u_fO u_fV u_ixS u_ixW u_ixN u_ixP u_ixO u_ixV u_lenS u_lenW u_lenN u_elS u_elN u_elW u_appN u_appW u_allC u_cutS u_cutW u_cutN u_alloc u_box u_keep u_rowN u_rowS u_rowW u_asN u_asS u_nilO u_nilP u_tell u_tellK u_cbT u_cbF u_keepK u_seqN u_seqR u_seqX u_blkN u_blkR u_blkX u_bakN u_bakR u_bakX u_kpN u_kpC u_back u_trim whenE_t whenE_f u_cl1 u_cl4 u_pt1 u_pt4 u_ixR u_lenR u_lenZ u_elZ u_ixZ u_appZ
attribute [go_sem ↓] u_add u_sub u_mul u_quo u_rem u_and u_or u_xor u_andNot u_shl u_shr u_eql u_neq u_lss u_leq u_gtr u_geq u_sadd u_seql u_sneq u_slss u_sleq u_sgtr u_sgeq u_slen u_sidx u_scut u_sconv u_beql u_bneq u_iconv u_cond u_condT u_condF u_notb u_negi u_pick u_ext u_nth0 u_nthS u_nthO0 u_nthOS u_ldA u_ldV u_ldS u_ldO u_oc1 u_oc2 u_stO u_fA u_fO u_fV u_ixS u_ixW u_ixN u_ixP u_ixO u_ixV u_lenS u_lenW u_lenN u_elS u_elN u_elW u_appN u_appW u_allC u_cutS u_cutW u_cutN u_alloc u_box u_keep u_rowN u_rowS u_rowW u_asN u_asS u_nilO u_nilP u_tell u_tellK u_cbT u_cbF u_keepK u_seqN u_seqR u_seqX u_blkN u_blkR u_blkX u_bakN u_bakR u_bakX u_kpN u_kpC u_back u_trim whenE_t whenE_f u_cl1 u_cl4 u_pt1 u_pt4 u_ixR u_lenR u_lenZ u_elZ u_ixZ u_appZ
attribute [go_sem] bsV_nil bsV_cons r1_r0 r1_r1 r1_r2 r1_r3 ro_OW roA_OW cap0_V cap0_OP cap0_ptr szOf_one szOf_two str_data cut_all cut_to get_cons co_agg co_V co_slice co_OW co_OP co_ptr sure_V sure_slice sure_OW sure_OP sure_ptr sure_agg sc_nil sc_cons
theorem u_nilEq {R : Type} {K : AV → Option R} {ks : Option (List CK)} {isB : Bool} {x : AV} {es : List AV} : binE ks isB true .eql (SL (x :: es)) (V (.slice none 0 0)) K = K (V (.bool false)) := _root_.id rfl
theorem u_nilNe {R : Type} {K : AV → Option R} {ks : Option (List CK)} {isB : Bool} {x : AV} {es : List AV} : binE ks isB true .neq (SL (x :: es)) (V (.slice none 0 0)) K = K (V (.bool true)) := _root_.id rfl
theorem u_max {R : Type} {K : AV → Option R} {k : IntKind} {a b : Int} : mmE true (V (.int k a)) (V (.int k b)) K = K (V (.int k (if b > a then b else a))) := by simp [mmE, whenE]
theorem u_min {R : Type} {K : AV → Option R} {k : IntKind} {a b : Int} : mmE false (V (.int k a)) (V (.int k b)) K = K (V (.int k (if b < a then b else a))) := by simp [mmE, whenE]
theorem u_bs {R : Type} {K : AV → Option R} {e : TypeId} {z : Nat} {d : AV} : buildSE (some (e, z)) 1 [(0, d)] K = whenE (decide ((cellsOf d).length = z) && pure1 d && decide (z ≤ 16777216)) (K (SL [d])) := by
  simp [buildSE, allCE, bsV, List.range, List.range.loop]
theorem p1_V {v : Value} : pure1 (V v) = true := _root_.id rfl
theorem p1_SL {es : List AV} : pure1 (SL es) = true := _root_.id rfl
theorem p1_agg {cs : List AV} : pure1 (.agg cs) = cs.all fun y => sure y && lt1 0 y := _root_.id rfl
theorem all_tt {α : Type} {l : List α} : (l.all fun _ => true) = true := by simp
attribute [go_sem] u_nilEq u_nilNe u_max u_min u_bs p1_V p1_SL p1_agg all_tt
attribute [go_sem] gt_eq u_bwN u_bwR u_bwX
attribute [go_sem] ro_int ro_bool ro_str ro_nils ro_slice ro_ptr ro_OP ro_agg ro_tu roA_agg roA_V roA_slice roA_OP roA_ptr r1_int r1_bool r1_str r1_nils r1_slice r1_ptr r1_OP noT_V noT_agg noT_slice noT_OW noT_OP noT_ptr noT_nil
attribute [go_sem] tT_V tT_SL tT_ptr tT_OW tT_OP tT_agg tT_TU tA_V tA_SL tA_ptr tA_OW tA_OP tA_agg t1_V t1_SL t1_ptr t1_OW t1_OP tO_mk oO_one oO_two oO_three oO_nil
end Go.Proofs.Ytbobfgbjliolmaa

namespace Go.Proofs.Ytbobfgbjliolmaa
open Go.RowKit
set_option linter.unusedVariables false
section
variable {P : Program} {G : Gl} {ι : Type}
end
end Go.Proofs.Ytbobfgbjliolmaa

namespace Go.Proofs.Ytbobfgbjliolmaa
open Go.RowKit
def GG : Gl := []
theorem MIX : Try.prog.follows .mixedOrders = true := by kernel_rfl
end Go.Proofs.Ytbobfgbjliolmaa

namespace Go.Proofs.Ytbobfgbjliolmaa
open Go.RowKit
set_option linter.unusedVariables false
set_option linter.unusedSimpArgs false
set_option maxRecDepth 100000
theorem gok_nil {S : SS} : GOk [] S := by
  intro g d hg
  simp at hg
theorem mk_lone {t : TypeId} {d : AV} (h : aggT Try.prog t = false) : mkA Try.prog t [d] = d := by
  unfold mkA
  rw [if_neg (by rw [h]; decide)]
  rfl
theorem arg_int {W : World} {v : Value} (h : Arg Try.prog W 3 v) : ∃ i : Int, (-9223372036854775808 ≤ i ∧ i < 9223372036854775808) ∧ rep (SW W) [] (nA i) v := by
  obtain ⟨n, ds, h1, h2⟩ := h
  obtain ⟨t, rfl, ht⟩ := ofT_i64 Try.underlying3 h1
  rw [mk_lone (by kernel_rfl)] at h2
  exact ⟨t, ht, h2⟩
theorem reps2 {S : SS} {d0 d1 : AV} {v0 v1 : Value} (h0 : rep S [] d0 v0) (h1 : rep S [] d1 v1) : ∀ (j : Nat) (d : AV) (v : Value), [d0, d1][j]? = some d → [v0, v1][j]? = some v → rep S [] d v := by
  intro j d v hd hv
  match j with
  | 0 => simp at hd hv; subst hd hv; exact h0
  | 1 => simp at hd hv; subst hd hv; exact h1
  | j + 2 => simp at hd
end Go.Proofs.Ytbobfgbjliolmaa

namespace Go.Proofs.Ytbobfgbjliolmaa
open Go.RowKit
set_option linter.unusedVariables false
set_option maxRecDepth 100000
noncomputable def math_bits_OnesCount64_c : Code := (Try.f47.body).getD .skip
def math_bits_OnesCount64_h : Hint := (.two .n (.two .n (.two .n (.two .n (.two .n (.two .n (.two .n (.two .n .n))))))))
noncomputable def math_bits_OnesCount64_env (m : Nat) : Env := []
noncomputable abbrev math_bits_OnesCount64_fin : KO (AV × List AObj) := tellFK Try.prog [.tmp 2]
noncomputable def math_bits_OnesCount64 (m : Nat) (t0 : AV) : RO := exec Try.prog GG (math_bits_OnesCount64_env m) m 35 math_bits_OnesCount64_c math_bits_OnesCount64_h ⟨[], argsT 0 [t0]⟩ (math_bits_OnesCount64_fin)
theorem math_bits_OnesCount64_eq (m : Nat) (t0 : AV) : math_bits_OnesCount64 m t0 =
  binE none false false .shr t0 (V (.int .u64 1)) fun t4 =>
  binE none false false .and t4 (V (.int .u64 6148914691236517205)) fun t5 =>
  binE none false false .and t0 (V (.int .u64 6148914691236517205)) fun t7 =>
  binE none false false .add t5 t7 fun t8 =>
  binE none false false .shr t8 (V (.int .u64 2)) fun t10 =>
  binE none false false .and t10 (V (.int .u64 3689348814741910323)) fun t11 =>
  binE none false false .and t8 (V (.int .u64 3689348814741910323)) fun t13 =>
  binE none false false .add t11 t13 fun t14 =>
  binE none false false .shr t14 (V (.int .u64 4)) fun t16 =>
  binE none false false .add t16 t14 fun t18 =>
  binE none false false .and t18 (V (.int .u64 1085102592571150095)) fun t19 =>
  binE none false false .shr t19 (V (.int .u64 8)) fun t22 =>
  binE none false false .add t19 t22 fun t23 =>
  binE none false false .shr t23 (V (.int .u64 16)) fun t26 =>
  binE none false false .add t23 t26 fun t27 =>
  binE none false false .shr t27 (V (.int .u64 32)) fun t30 =>
  binE none false false .add t27 t30 fun t31 =>
  convE false (some .i64) true false t31 fun t33 =>
  binE none false false .and t33 (V (.int .i64 127)) fun t34 =>
  tellK [] (ro [] t34) := by
  refine (tellX Try.prog GG (math_bits_OnesCount64_env m) m 35 math_bits_OnesCount64_c math_bits_OnesCount64_h ⟨[], argsT 0 [t0]⟩ [.tmp 2]).trans ?_
  kernel_rfl
noncomputable def math_bits_OnesCount64_t (m : Nat) : List AV → RO | [t0] => math_bits_OnesCount64 m t0 | _ => none
theorem math_bits_OnesCount64_ok (m : Nat) : ∀ args X H', math_bits_OnesCount64_t m args = some (X, H') → ACp Try.prog GG 47 args X := by
  intro args X H' h
  unfold math_bits_OnesCount64_t at h
  split at h
  · exact tell_okK MIX (by intro f e h; cases h) (f := 47) (c := math_bits_OnesCount64_c) Try.func47 rfl (by kernel_rfl) _ rfl Try.ntmps47 (Nat.le_of_ble_eq_true rfl) math_bits_OnesCount64_h h
  · cases h
noncomputable def quorum_bit_c : Code := (Try.f40.body).getD .skip
def quorum_bit_h : Hint := (.two .n (.two (.two .n (.two (.two .n .n) .n)) (.two .n .n)))
noncomputable def quorum_bit_env (m : Nat) : Env := []
noncomputable abbrev quorum_bit_fin : KO (AV × List AObj) := tellFK Try.prog [.tmp 2]
noncomputable def quorum_bit (m : Nat) (t0 : AV) : RO := exec Try.prog GG (quorum_bit_env m) m 12 quorum_bit_c quorum_bit_h ⟨[], argsT 0 [t0]⟩ (quorum_bit_fin)
theorem quorum_bit_eq (m : Nat) (t0 : AV) : quorum_bit m t0 =
  binE none false false .lss t0 (V (.int .i64 0)) fun t4 =>
  condE t4 (
   tellK [] (ro [] (V (.int .u64 0)))) (
   binE none false false .gtr t0 (V (.int .i64 63)) fun t7 =>
   condE t7 (
   tellK [] (ro [] (V (.int .u64 0)))) (
   convE false (some .u64) true false t0 fun t10 =>
   binE none false false .shl (V (.int .u64 1)) t10 fun t11 =>
   tellK [] (ro [] t11))) := by
  refine (tellX Try.prog GG (quorum_bit_env m) m 12 quorum_bit_c quorum_bit_h ⟨[], argsT 0 [t0]⟩ [.tmp 2]).trans ?_
  kernel_rfl
noncomputable def quorum_bit_t (m : Nat) : List AV → RO | [t0] => quorum_bit m t0 | _ => none
theorem quorum_bit_ok (m : Nat) : ∀ args X H', quorum_bit_t m args = some (X, H') → ACp Try.prog GG 40 args X := by
  intro args X H' h
  unfold quorum_bit_t at h
  split at h
  · exact tell_okK MIX (by intro f e h; cases h) (f := 40) (c := quorum_bit_c) Try.func40 rfl (by kernel_rfl) _ rfl Try.ntmps40 (Nat.le_of_ble_eq_true rfl) quorum_bit_h h
  · cases h
noncomputable def quorum_With_c : Code := (Try.f35.body).getD .skip
def quorum_With_h : Hint := (.two .n (.two .n .n))
noncomputable def quorum_With_env (m : Nat) : Env := [(40, .tell (quorum_bit_t m))]
noncomputable abbrev quorum_With_fin : KO (AV × List AObj) := tellFK Try.prog [.tmp 4]
noncomputable def quorum_With (m : Nat) (t0 t1 : AV) : RO := exec Try.prog GG (quorum_With_env m) m 9 quorum_With_c quorum_With_h ⟨[], argsT 0 [t0, t1]⟩ (quorum_With_fin)
theorem quorum_With_eq (m : Nat) (t0 t1 : AV) : quorum_With m t0 t1 =
  tellE (quorum_bit m (ro [] t1)) [(ro [] t1)] fun t7 =>
  binE none false false .or t0 t7 fun t8 =>
  tellK [] (ro [] t8) := by
  refine (tellX Try.prog GG (quorum_With_env m) m 9 quorum_With_c quorum_With_h ⟨[], argsT 0 [t0, t1]⟩ [.tmp 4]).trans ?_
  kernel_rfl
noncomputable def quorum_With_t (m : Nat) : List AV → RO | [t0, t1] => quorum_With m t0 t1 | _ => none
theorem quorum_With_ok (m : Nat) : ∀ args X H', quorum_With_t m args = some (X, H') → ACp Try.prog GG 35 args X := by
  intro args X H' h
  unfold quorum_With_t at h
  split at h
  · exact tell_okK MIX (by
    intro f e h
    simp only [quorum_With_env, Prod.mk.injEq, List.mem_cons, List.not_mem_nil, or_false] at h
    obtain ⟨rfl, rfl⟩ := h
    · exact quorum_bit_ok m) (f := 35) (c := quorum_With_c) Try.func35 rfl (by kernel_rfl) _ rfl Try.ntmps35 (Nat.le_of_ble_eq_true rfl) quorum_With_h h
  · cases h
noncomputable def quorum_Count_c : Code := (Try.f45.body).getD .skip
def quorum_Count_h : Hint := (.two .n (.two .n .n))
noncomputable def quorum_Count_env (m : Nat) : Env := [(47, .tell (math_bits_OnesCount64_t m))]
noncomputable abbrev quorum_Count_fin : KO (AV × List AObj) := tellFK Try.prog [.tmp 2]
noncomputable def quorum_Count (m : Nat) (t0 : AV) : RO := exec Try.prog GG (quorum_Count_env m) m 5 quorum_Count_c quorum_Count_h ⟨[], argsT 0 [t0]⟩ (quorum_Count_fin)
theorem quorum_Count_eq (m : Nat) (t0 : AV) : quorum_Count m t0 =
  tellE (math_bits_OnesCount64 m (ro [] t0)) [(ro [] t0)] fun t4 =>
  tellK [] (ro [] t4) := by
  refine (tellX Try.prog GG (quorum_Count_env m) m 5 quorum_Count_c quorum_Count_h ⟨[], argsT 0 [t0]⟩ [.tmp 2]).trans ?_
  kernel_rfl
noncomputable def quorum_Count_t (m : Nat) : List AV → RO | [t0] => quorum_Count m t0 | _ => none
theorem quorum_Count_ok (m : Nat) : ∀ args X H', quorum_Count_t m args = some (X, H') → ACp Try.prog GG 45 args X := by
  intro args X H' h
  unfold quorum_Count_t at h
  split at h
  · exact tell_okK MIX (by
    intro f e h
    simp only [quorum_Count_env, Prod.mk.injEq, List.mem_cons, List.not_mem_nil, or_false] at h
    obtain ⟨rfl, rfl⟩ := h
    · exact math_bits_OnesCount64_ok m) (f := 45) (c := quorum_Count_c) Try.func45 rfl (by kernel_rfl) _ rfl Try.ntmps45 (Nat.le_of_ble_eq_true rfl) quorum_Count_h h
  · cases h
noncomputable def quorum_All_c : Code := (Try.f46.body).getD .skip
def quorum_All_h : Hint := (.two .n (.two (.one (.two .n (.two (.two .n .n) (.two .n (.two (.two .n .n) .n))))) (.two .n .n)))
noncomputable def quorum_All_env (m : Nat) : Env := [(40, .tell (quorum_bit_t m))]
noncomputable abbrev quorum_All_fin : KO (AV × List AObj) := tellFK Try.prog [.tmp 2]
noncomputable def quorum_All (m : Nat) (t0 : AV) : RO := exec Try.prog GG (quorum_All_env m) m 12 quorum_All_c quorum_All_h ⟨[], argsT 0 [t0]⟩ (quorum_All_fin)
theorem quorum_All_eq (m : Nat) (t0 : AV) : quorum_All m t0 =
  binE none false false .lss t0 (V (.int .i64 1)) fun t5 =>
  condE t5 (
   tellK [] (ro [] (V (.int .u64 0)))) (
   binE none false false .gtr t0 (V (.int .i64 63)) fun t8 =>
   condE t8 (
    tellK [] (ro [] (V (.int .u64 18446744073709551615)))) (
    tellE (quorum_bit m (ro [] t0)) [(ro [] t0)] fun t10 =>
    binE none false false .sub t10 (V (.int .u64 1)) fun t11 =>
    tellK [] (ro [] t11))) := by
  refine (tellX Try.prog GG (quorum_All_env m) m 12 quorum_All_c quorum_All_h ⟨[], argsT 0 [t0]⟩ [.tmp 2]).trans ?_
  kernel_rfl
noncomputable def quorum_All_t (m : Nat) : List AV → RO | [t0] => quorum_All m t0 | _ => none
theorem quorum_All_ok (m : Nat) : ∀ args X H', quorum_All_t m args = some (X, H') → ACp Try.prog GG 46 args X := by
  intro args X H' h
  unfold quorum_All_t at h
  split at h
  · exact tell_okK MIX (by
    intro f e h
    simp only [quorum_All_env, Prod.mk.injEq, List.mem_cons, List.not_mem_nil, or_false] at h
    obtain ⟨rfl, rfl⟩ := h
    · exact quorum_bit_ok m) (f := 46) (c := quorum_All_c) Try.func46 rfl (by kernel_rfl) _ rfl Try.ntmps46 (Nat.le_of_ble_eq_true rfl) quorum_All_h h
  · cases h
noncomputable def quorum_Faults_c : Code := (Try.f20.body).getD .skip
def quorum_Faults_h : Hint := (.two .n (.two (.two .n (.two (.two .n .n) .n)) (.two .n .n)))
noncomputable def quorum_Faults_env (m : Nat) : Env := []
noncomputable abbrev quorum_Faults_fin : KO (AV × List AObj) := tellFK Try.prog [.tmp 2, .tmp 3]
noncomputable def quorum_Faults (m : Nat) (t0 : AV) : RO := exec Try.prog GG (quorum_Faults_env m) m 17 quorum_Faults_c quorum_Faults_h ⟨[], argsT 0 [t0]⟩ (quorum_Faults_fin)
theorem quorum_Faults_eq (m : Nat) (t0 : AV) : quorum_Faults m t0 =
  binE none false false .rem t0 (V (.int .i64 3)) fun t5 =>
  binE none false false .neq t5 (V (.int .i64 1)) fun t6 =>
  condE t6 (
   tellK [] (ro [] (TU [noT (V (.int .i64 0)), noT (V (.int .i64 1))]))) (
   binE none false false .lss t0 (V (.int .i64 4)) fun t9 =>
   condE t9 (
   tellK [] (ro [] (TU [noT (V (.int .i64 0)), noT (V (.int .i64 1))]))) (
   binE none false false .gtr t0 (V (.int .i64 16)) fun t13 =>
   condE t13 (
   tellK [] (ro [] (TU [noT (V (.int .i64 0)), noT (V (.int .i64 1))]))) (
   binE none false false .quo t0 (V (.int .i64 3)) fun t16 =>
   tellK [] (ro [] (TU [noT t16, noT (V (.int .i64 0))]))))) := by
  refine (tellX Try.prog GG (quorum_Faults_env m) m 17 quorum_Faults_c quorum_Faults_h ⟨[], argsT 0 [t0]⟩ [.tmp 2, .tmp 3]).trans ?_
  kernel_rfl
noncomputable def quorum_Faults_t (m : Nat) : List AV → RO | [t0] => quorum_Faults m t0 | _ => none
theorem quorum_Faults_ok (m : Nat) : ∀ args X H', quorum_Faults_t m args = some (X, H') → ACp Try.prog GG 20 args X := by
  intro args X H' h
  unfold quorum_Faults_t at h
  split at h
  · exact tell_okK MIX (by intro f e h; cases h) (f := 20) (c := quorum_Faults_c) Try.func20 rfl (by kernel_rfl) _ rfl Try.ntmps20 (Nat.le_of_ble_eq_true rfl) quorum_Faults_h h
  · cases h
noncomputable def quorum_Strong_c : Code := (Try.f42.body).getD .skip
def quorum_Strong_h : Hint := (.two .n (.two .n (.two (.two .n (.two (.two .n .n) .n)) (.two .n .n))))
noncomputable def quorum_Strong_env (m : Nat) : Env := [(20, .tell (quorum_Faults_t m))]
noncomputable abbrev quorum_Strong_fin : KO (AV × List AObj) := tellFK Try.prog [.tmp 2]
noncomputable def quorum_Strong (m : Nat) (t0 : AV) : RO := exec Try.prog GG (quorum_Strong_env m) m 15 quorum_Strong_c quorum_Strong_h ⟨[], argsT 0 [t0]⟩ (quorum_Strong_fin)
theorem quorum_Strong_eq (m : Nat) (t0 : AV) : quorum_Strong m t0 =
  tellE (quorum_Faults m (ro [] t0)) [(ro [] t0)] fun t7 =>
  extE t7 0 fun t8 =>
  extE t7 1 fun t9 =>
  binE none false false .neq t9 (V (.int .i64 0)) fun t11 =>
  condE t11 (
   tellK [] (ro [] (V (.int .i64 0)))) (
   binE none false false .mul (V (.int .i64 2)) t8 fun t13 =>
   binE none false false .add t13 (V (.int .i64 1)) fun t14 =>
   tellK [] (ro [] t14)) := by
  refine (tellX Try.prog GG (quorum_Strong_env m) m 15 quorum_Strong_c quorum_Strong_h ⟨[], argsT 0 [t0]⟩ [.tmp 2]).trans ?_
  kernel_rfl
noncomputable def quorum_Strong_t (m : Nat) : List AV → RO | [t0] => quorum_Strong m t0 | _ => none
theorem quorum_Strong_ok (m : Nat) : ∀ args X H', quorum_Strong_t m args = some (X, H') → ACp Try.prog GG 42 args X := by
  intro args X H' h
  unfold quorum_Strong_t at h
  split at h
  · exact tell_okK MIX (by
    intro f e h
    simp only [quorum_Strong_env, Prod.mk.injEq, List.mem_cons, List.not_mem_nil, or_false] at h
    obtain ⟨rfl, rfl⟩ := h
    · exact quorum_Faults_ok m) (f := 42) (c := quorum_Strong_c) Try.func42 rfl (by kernel_rfl) _ rfl Try.ntmps42 (Nat.le_of_ble_eq_true rfl) quorum_Strong_h h
  · cases h
noncomputable def quorum_enough_c : Code := (Try.f41.body).getD .skip
def quorum_enough_h : Hint := (.two .n (.two .n .n))
noncomputable def quorum_enough_env (m : Nat) : Env := [(46, .tell (quorum_All_t m)), (45, .tell (quorum_Count_t m))]
noncomputable abbrev quorum_enough_fin : KO (AV × List AObj) := tellFK Try.prog [.tmp 6]
noncomputable def quorum_enough (m : Nat) (t0 t1 t2 : AV) : RO := exec Try.prog GG (quorum_enough_env m) m 18 quorum_enough_c quorum_enough_h ⟨[], argsT 0 [t0, t1, t2]⟩ (quorum_enough_fin)
theorem quorum_enough_eq (m : Nat) (t0 t1 t2 : AV) : quorum_enough m t0 t1 t2 =
  binE none false false .gtr t2 (V (.int .i64 0)) fun t8 =>
  condE t8 (
   tellE (quorum_All m (ro [] t1)) [(ro [] t1)] fun t12 =>
   binE none false false .and t0 t12 fun t13 =>
   tellE (quorum_Count m (ro [] t13)) [(ro [] t13)] fun t14 =>
   binE none false false .geq t14 t2 fun t16 =>
   tellK [] (ro [] t16)) (
   tellK [] (ro [] (V (.bool false)))) := by
  refine (tellX Try.prog GG (quorum_enough_env m) m 18 quorum_enough_c quorum_enough_h ⟨[], argsT 0 [t0, t1, t2]⟩ [.tmp 6]).trans ?_
  kernel_rfl
noncomputable def quorum_enough_t (m : Nat) : List AV → RO | [t0, t1, t2] => quorum_enough m t0 t1 t2 | _ => none
theorem quorum_enough_ok (m : Nat) : ∀ args X H', quorum_enough_t m args = some (X, H') → ACp Try.prog GG 41 args X := by
  intro args X H' h
  unfold quorum_enough_t at h
  split at h
  · exact tell_okK MIX (by
    intro f e h
    simp only [quorum_enough_env, Prod.mk.injEq, List.mem_cons, List.not_mem_nil, or_false] at h
    rcases h with ⟨rfl, rfl⟩ | ⟨rfl, rfl⟩
    · exact quorum_All_ok m
    · exact quorum_Count_ok m) (f := 41) (c := quorum_enough_c) Try.func41 rfl (by kernel_rfl) _ rfl Try.ntmps41 (Nat.le_of_ble_eq_true rfl) quorum_enough_h h
  · cases h
noncomputable def quorum_IsStrong_c : Code := (Try.f36.body).getD .skip
def quorum_IsStrong_h : Hint := (.two .n (.two .n .n))
noncomputable def quorum_IsStrong_env (m : Nat) : Env := [(42, .tell (quorum_Strong_t m)), (41, .tell (quorum_enough_t m))]
noncomputable abbrev quorum_IsStrong_fin : KO (AV × List AObj) := tellFK Try.prog [.tmp 4]
noncomputable def quorum_IsStrong (m : Nat) (t0 t1 : AV) : RO := exec Try.prog GG (quorum_IsStrong_env m) m 10 quorum_IsStrong_c quorum_IsStrong_h ⟨[], argsT 0 [t0, t1]⟩ (quorum_IsStrong_fin)
theorem quorum_IsStrong_eq (m : Nat) (t0 t1 : AV) : quorum_IsStrong m t0 t1 =
  tellE (quorum_Strong m (ro [] t1)) [(ro [] t1)] fun t8 =>
  tellE (quorum_enough m (ro [] t0) (ro [] t1) (ro [] t8)) [(ro [] t0), (ro [] t1), (ro [] t8)] fun t9 =>
  tellK [] (ro [] t9) := by
  refine (tellX Try.prog GG (quorum_IsStrong_env m) m 10 quorum_IsStrong_c quorum_IsStrong_h ⟨[], argsT 0 [t0, t1]⟩ [.tmp 4]).trans ?_
  kernel_rfl
noncomputable def quorum_IsStrong_t (m : Nat) : List AV → RO | [t0, t1] => quorum_IsStrong m t0 t1 | _ => none
theorem quorum_IsStrong_ok (m : Nat) : ∀ args X H', quorum_IsStrong_t m args = some (X, H') → ACp Try.prog GG 36 args X := by
  intro args X H' h
  unfold quorum_IsStrong_t at h
  split at h
  · exact tell_okK MIX (by
    intro f e h
    simp only [quorum_IsStrong_env, Prod.mk.injEq, List.mem_cons, List.not_mem_nil, or_false] at h
    rcases h with ⟨rfl, rfl⟩ | ⟨rfl, rfl⟩
    · exact quorum_Strong_ok m
    · exact quorum_enough_ok m) (f := 36) (c := quorum_IsStrong_c) Try.func36 rfl (by kernel_rfl) _ rfl Try.ntmps36 (Nat.le_of_ble_eq_true rfl) quorum_IsStrong_h h
  · cases h
noncomputable def plenumref05_Faults_c : Code := (Try.f6.body).getD .skip
def plenumref05_Faults_h : Hint := (.two .n (.join [] (.two .n (.one (.lp [] [0, 3] [2] (.two (.two .n (.two .n .n)) (.two (.one (.two .n (.two (.two .n .n) .n))) .n))))) (.two .n .n)))
noncomputable def plenumref05_Faults_env (m : Nat) : Env := []
noncomputable abbrev plenumref05_Faults_fin : KO (AV × List AObj) := tellFK Try.prog [.tmp 2]
noncomputable def plenumref05_Faults_r1 (m : Nat) (s : ASt) : RO := joinW Try.prog GG (plenumref05_Faults_env m) m 14 (cdR (cdR plenumref05_Faults_c)) plenumref05_Faults_h.r.r s (plenumref05_Faults_fin)
noncomputable def plenumref05_Faults_b1 (m : Nat) (s : ASt) (kc : ASt → RO) (kx : KO (AV × List AObj)) : RO := bodyW Try.prog GG (plenumref05_Faults_env m) m 14 (cdL (cdL (cdR (cdL (cdR plenumref05_Faults_c))))) plenumref05_Faults_h.r.l.r.c.c [0, 3] [2] s kc kx
noncomputable def plenumref05_Faults (m : Nat) (t0 : AV) : RO := exec Try.prog GG (plenumref05_Faults_env m) m 14 plenumref05_Faults_c plenumref05_Faults_h ⟨[], argsT 0 [t0]⟩ (plenumref05_Faults_fin)
theorem plenumref05_Faults_r1_eq (m : Nat) (H : List AObj) : plenumref05_Faults_r1 m ⟨H, []⟩ =
  tellK H (ro H (V (.int .i64 0))) := by
  refine (joinW_eq Try.prog GG (plenumref05_Faults_env m) m 14 (cdR (cdR plenumref05_Faults_c)) plenumref05_Faults_h.r.r ⟨H, []⟩ (plenumref05_Faults_fin)).trans ?_
  kernel_rfl
theorem plenumref05_Faults_b1_eq (m : Nat) (H : List AObj) (t0 t3 : AV) (kc : ASt → RO) (kx : KO (AV × List AObj)) : plenumref05_Faults_b1 m ⟨H, [(0, t0), (3, t3)]⟩ kc kx =
  binE none false false .leq t3 (V (.int .i64 5)) fun t5 =>
  condE t5 (
   binE none false false .mul (V (.int .i64 3)) t3 fun t10 =>
   binE none false false .add t10 (V (.int .i64 1)) fun t11 =>
   binE none false false .eql t0 t11 fun t12 =>
   condE t12 (
    kx .ret ⟨H, [(2, t3)]⟩) (
    binE none false false .add t3 (V (.int .i64 1)) fun t7 =>
    backE H.length H [(0, t0), (3, t7)] kc)) (
   kx (.exit 0) ⟨H, [(2, .nil)]⟩) := by
  refine (bodyW_eq Try.prog GG (plenumref05_Faults_env m) m 14 (cdL (cdL (cdR (cdL (cdR plenumref05_Faults_c))))) plenumref05_Faults_h.r.l.r.c.c [0, 3] [2] ⟨H, [(0, t0), (3, t3)]⟩ kc kx).trans ?_
  kernel_rfl
theorem plenumref05_Faults_eq (m : Nat) (t0 : AV) : plenumref05_Faults m t0 =
  iterC m (plenumref05_Faults_b1 m) ⟨[], [(0, t0), (3, (V (.int .i64 1)))]⟩ (blockX 0 (seqX (fun s => plenumref05_Faults_r1 m ⟨s.H, []⟩) (plenumref05_Faults_fin))) := by
  refine (tellX Try.prog GG (plenumref05_Faults_env m) m 14 plenumref05_Faults_c plenumref05_Faults_h ⟨[], argsT 0 [t0]⟩ [.tmp 2]).trans ?_
  kernel_rfl
noncomputable def plenumref05_Faults_t (m : Nat) : List AV → RO | [t0] => plenumref05_Faults m t0 | _ => none
theorem plenumref05_Faults_ok (m : Nat) : ∀ args X H', plenumref05_Faults_t m args = some (X, H') → ACp Try.prog GG 6 args X := by
  intro args X H' h
  unfold plenumref05_Faults_t at h
  split at h
  · exact tell_okK MIX (by intro f e h; cases h) (f := 6) (c := plenumref05_Faults_c) Try.func6 rfl (by kernel_rfl) _ rfl Try.ntmps6 (Nat.le_of_ble_eq_true rfl) plenumref05_Faults_h h
  · cases h
end Go.Proofs.Ytbobfgbjliolmaa

namespace Go.Proofs.Ytbobfgbjliolmaa
open Go.RowKit
set_option linter.unusedVariables false
set_option linter.unusedSimpArgs false
def farC : Nat → Code → Code → Code
  | 0, _, t => t
  | m + 1, .seq a b, t => .seq a (farC m b t)
  | _ + 1, c, _ => c
def endC : Nat → Code → Code
  | 0, c => c
  | m + 1, .seq _ b => endC m b
  | _ + 1, c => c
def deepC : Nat → Code → Bool
  | 0, _ => true
  | m + 1, .seq _ b => deepC m b
  | _ + 1, _ => false
section
variable {P : Program} {G : Gl} {N n : Nat} {E : Env} {M : Nat} {R : Type}
theorem exec_far (hm : P.follows .mixedOrders = true) (hE : EnvOk P G E) {r : R} {k : KO R} {Q : Exit → ASt → Prop} : ∀ (m : Nat) (c : Code) (h : Hint) (s : ASt), deepC m c = true → n ≤ s.H.length → exec P G E M N (farC m c .skip) h s k = some r →
    (∀ s', n ≤ s'.H.length → k .normal s' = some r → AWp P G N n (endC m c) Q s') → (∀ e s', e ≠ .normal → k e s' = some r → Q e s') → AWp P G N n c Q s
  | 0, c, h, s, hd, hn, hx, hq, he => hq s hn hx
  | m + 1, .seq a b, h, s, hd, hn, hx, hq, he => by
    refine awp_seq (AWp.mono (AWp.len (exec_ok hm hE a h.l s _ hn hx) hn) fun e s' q => ?_)
    obtain ⟨q, hl⟩ := q
    cases e with
    | normal =>
      have q : exec P G E M N (farC m b .skip) h.r (joinS h.J s') k = some r := q
      cases hj : h.J with
      | none => rw [hj] at q; exact exec_far hm hE m b h.r s' hd hl q hq he
      | some L => rw [hj] at q; exact AWp.forget (keepT_get L s'.T) (exec_far hm hE m b h.r ⟨s'.H, keepT L s'.T⟩ hd hl q hq he)
    | exit id => exact he _ _ (by intro q; cases q) q
    | goto l => exact he _ _ (by intro q; cases q) q
    | ret => exact he _ _ (by intro q; cases q) q
    | panic ch => exact he _ _ (by intro q; cases q) q
    | outgrown => exact he _ _ (by intro q; cases q) q
end
noncomputable abbrev farFK (P : Program) (n : Nat) (rn rr : List ResultVar) : KO (AV × List AObj) := fun e s => match e with
  | .normal => resEK P s.H s.T rn fun ds => keepK n s.H (ro s.H (oneOf ds))
  | .ret => resEK P s.H s.T rr fun ds => keepK n s.H (ro s.H (oneOf ds))
  | _ => none
theorem farX (P : Program) (G : Gl) (E : Env) (M N n : Nat) (c : Code) (h : Hint) (s : ASt) (rn rr : List ResultVar) : exec P G E M N c h s (farFK P n rn rr) = execK P G E M N c h s (farFK P n rn rr) := (execK_eq c h s _).symm
theorem noT_PR {d : AV} {H : List AObj} {i n : Nat} (h : roA H (noT d) = PR i n) : d = PR i n := by
  unfold noT at h
  split at h
  · cases h
  · unfold roA at h
    split at h
    · cases h
    · unfold ro1 at h
      split at h
      · split at h
        · split at h <;> first | cases h | (injection h with _ h2; cases h2)
        · cases h
      · cases h
      · exact h
theorem noT_int {d : AV} {H : List AObj} {k : IntKind} {i : Int} (h : roA H (noT d) = V (.int k i)) : d = V (.int k i) := by
  unfold noT at h
  split at h
  · cases h
  · unfold roA at h
    split at h
    · cases h
    · unfold ro1 at h
      split at h
      · split at h
        · split at h <;> first | cases h | (injection h with _ h2; cases h2)
        · cases h
      · cases h
      · exact h
end Go.Proofs.Ytbobfgbjliolmaa

namespace Go.Proofs.Ytbobfgbjliolmaa
open Go.RowKit
set_option linter.unusedVariables false
set_option maxRecDepth 100000
def ty_api_Mark : TypeId := 30
def ty_int : TypeId := 3
def zc_api_Mark : List AV := [(V (.int .i64 0)), (V (.int .i64 0)), (V (.int .i64 0))]
noncomputable def cmp_Or_int_c : Code := (Try.f32.body).getD .skip
def cmp_Or_int_h : Hint := (.two .n (.two .n (.join [3] (.two .n (.one (.lp [] [3, 6, 7, 8] [2, 3] (.two .n (.two (.two .n .n) (.two (.one (.two .n (.two .n (.two (.two .n .n) .n)))) .n)))))) (.two .n .n))))
noncomputable def cmp_Or_int_env (m : Nat) : Env := []
noncomputable abbrev cmp_Or_int_fin : KO (AV × List AObj) := tellFK Try.prog [.tmp 2]
noncomputable def cmp_Or_int_r1 (m : Nat) (s : ASt) : RO := joinW Try.prog GG (cmp_Or_int_env m) m 18 (cdR (cdR (cdR cmp_Or_int_c))) cmp_Or_int_h.r.r.r s (cmp_Or_int_fin)
noncomputable def cmp_Or_int_b1 (m : Nat) (s : ASt) (kc : ASt → RO) (kx : KO (AV × List AObj)) : RO := bodyW Try.prog GG (cmp_Or_int_env m) m 18 (cdL (cdL (cdR (cdL (cdR (cdR cmp_Or_int_c)))))) cmp_Or_int_h.r.r.l.r.c.c [3, 6, 7, 8] [2, 3] s kc kx
noncomputable def cmp_Or_int (m : Nat) (t0 : AV) : RO := exec Try.prog GG (cmp_Or_int_env m) m 18 cmp_Or_int_c cmp_Or_int_h ⟨[], argsT 0 [t0]⟩ (cmp_Or_int_fin)
theorem cmp_Or_int_r1_eq (m : Nat) (H : List AObj) (t3 : AV) : cmp_Or_int_r1 m ⟨H, [(3, t3)]⟩ =
  tellK H (ro H t3) := by
  refine (joinW_eq Try.prog GG (cmp_Or_int_env m) m 18 (cdR (cdR (cdR cmp_Or_int_c))) cmp_Or_int_h.r.r.r ⟨H, [(3, t3)]⟩ (cmp_Or_int_fin)).trans ?_
  kernel_rfl
theorem cmp_Or_int_b1_eq (m : Nat) (H : List AObj) (t3 t6 t7 t8 : AV) (kc : ASt → RO) (kx : KO (AV × List AObj)) : cmp_Or_int_b1 m ⟨H, [(3, t3), (6, t6), (7, t7), (8, t8)]⟩ kc kx =
  binE none false false .lss t8 t7 fun t9 =>
  condE t9 (
   idxSE 1 H t6 t8 fun t10 =>
   loadE 1 H t10 fun t11 =>
   binE none false false .neq t11 t3 fun t14 =>
   condE t14 (
    kx .ret ⟨H, [(2, t11), (3, t3)]⟩) (
    binE none false false .add t8 (V (.int .i64 1)) fun t16 =>
    backE H.length H [(3, t3), (6, t6), (7, t7), (8, t16)] kc)) (
   kx (.exit 0) ⟨H, [(2, .nil), (3, t3)]⟩) := by
  refine (bodyW_eq Try.prog GG (cmp_Or_int_env m) m 18 (cdL (cdL (cdR (cdL (cdR (cdR cmp_Or_int_c)))))) cmp_Or_int_h.r.r.l.r.c.c [3, 6, 7, 8] [2, 3] ⟨H, [(3, t3), (6, t6), (7, t7), (8, t8)]⟩ kc kx).trans ?_
  kernel_rfl
theorem cmp_Or_int_eq (m : Nat) (t0 : AV) : cmp_Or_int m t0 =
  lenE false true [] t0 fun t7 =>
  iterC m (cmp_Or_int_b1 m) ⟨[], [(3, (V (.int .i64 0))), (6, t0), (7, t7), (8, (V (.int .i64 0)))]⟩ (blockX 0 (seqX (fun s => cmp_Or_int_r1 m ⟨s.H, [(3, gt s.T 3)]⟩) (cmp_Or_int_fin))) := by
  refine (tellX Try.prog GG (cmp_Or_int_env m) m 18 cmp_Or_int_c cmp_Or_int_h ⟨[], argsT 0 [t0]⟩ [.tmp 2]).trans ?_
  kernel_rfl
noncomputable def cmp_Or_int_t (m : Nat) : List AV → RO | [t0] => cmp_Or_int m t0 | _ => none
theorem cmp_Or_int_ok (m : Nat) : ∀ args X H', cmp_Or_int_t m args = some (X, H') → ACp Try.prog GG 32 args X := by
  intro args X H' h
  unfold cmp_Or_int_t at h
  split at h
  · exact tell_okK MIX (by intro f e h; cases h) (f := 32) (c := cmp_Or_int_c) Try.func32 rfl (by kernel_rfl) _ rfl Try.ntmps32 (Nat.le_of_ble_eq_true rfl) cmp_Or_int_h h
  · cases h
noncomputable def marks_order_c : Code := (Try.f24.body).getD .skip
def marks_order_h : Hint := (.two .n (.two .n .n))
noncomputable def marks_order_env (m : Nat) : Env := [(32, .tell (cmp_Or_int_t m))]
noncomputable abbrev marks_order_fin : KO (AV × List AObj) := tellFK Try.prog [.tmp 4]
noncomputable def marks_order (m : Nat) (t0 t1 : AV) : RO := exec Try.prog GG (marks_order_env m) m 17 marks_order_c marks_order_h ⟨[], argsT 0 [t0, t1]⟩ (marks_order_fin)
theorem marks_order_eq (m : Nat) (t0 t1 : AV) : marks_order m t0 t1 =
  boxE ty_api_Mark [] t0 fun t2 H1 =>
  boxE ty_api_Mark H1 t1 fun t3 H2 =>
  fieldE (some (1, 1)) t2 fun t5 =>
  loadE 1 H2 t5 fun t6 =>
  fieldE (some (1, 1)) t3 fun t7 =>
  loadE 1 H2 t7 fun t8 =>
  binE none false false .sub t6 t8 fun t9 =>
  fieldE (some (0, 1)) t2 fun t10 =>
  loadE 1 H2 t10 fun t11 =>
  fieldE (some (0, 1)) t3 fun t12 =>
  loadE 1 H2 t12 fun t13 =>
  binE none false false .sub t11 t13 fun t14 =>
  buildSE (some (ty_int, 1)) 2 [(0, t9), (1, t14)] fun t15 =>
  tellE (cmp_Or_int m (ro H2 t15)) [(ro H2 t15)] fun t16 =>
  tellK H2 (ro H2 t16) := by
  refine (tellX Try.prog GG (marks_order_env m) m 17 marks_order_c marks_order_h ⟨[], argsT 0 [t0, t1]⟩ [.tmp 4]).trans ?_
  kernel_rfl
noncomputable def marks_order_t (m : Nat) : List AV → RO | [t0, t1] => marks_order m t0 t1 | _ => none
theorem marks_order_ok (m : Nat) : ∀ args X H', marks_order_t m args = some (X, H') → ACp Try.prog GG 24 args X := by
  intro args X H' h
  unfold marks_order_t at h
  split at h
  · exact tell_okK MIX (by
    intro f e h
    simp only [marks_order_env, Prod.mk.injEq, List.mem_cons, List.not_mem_nil, or_false] at h
    obtain ⟨rfl, rfl⟩ := h
    · exact cmp_Or_int_ok m) (f := 24) (c := marks_order_c) Try.func24 rfl (by kernel_rfl) _ rfl Try.ntmps24 (Nat.le_of_ble_eq_true rfl) marks_order_h h
  · cases h
noncomputable def marks_moved_1_c : Code := (Try.f38.body).getD .skip
def marks_moved_1_h : Hint := (.two .n (.two .n .n))
noncomputable def marks_moved_1_env (m : Nat) : Env := []
noncomputable abbrev marks_moved_1_fin (n0 : Nat) : KO (AV × List AObj) := keepFK Try.prog n0 [.tmp 3]
noncomputable def marks_moved_1 (m : Nat) (t0 t1 : AV) (H : List AObj) : RO := exec Try.prog GG (marks_moved_1_env m) m 8 marks_moved_1_c marks_moved_1_h ⟨H, argsT 0 [t0, t1]⟩ (marks_moved_1_fin H.length)
theorem marks_moved_1_eq (m : Nat) (t0 t1 : AV) (H : List AObj) : marks_moved_1 m t0 t1 H =
  boxE ty_api_Mark H t0 fun t2 H2 =>
  fieldE (some (1, 1)) t2 fun t4 =>
  loadE 1 H2 t4 fun t5 =>
  loadE 1 H2 t1 fun t6 =>
  binE none false false .leq t5 t6 fun t7 =>
  keepK H.length H2 (ro H2 t7) := by
  refine (keepX Try.prog GG (marks_moved_1_env m) m 8 H.length marks_moved_1_c marks_moved_1_h ⟨H, argsT 0 [t0, t1]⟩ [.tmp 3]).trans ?_
  kernel_rfl
noncomputable def marks_moved_1_t (m : Nat) : List AV → List AObj → RO | [t0, t1], H => marks_moved_1 m t0 t1 H | _, _ => none
theorem marks_moved_1_ok (m : Nat) : ∀ args H X H', marks_moved_1_t m args H = some (X, H') → AC Try.prog GG 38 args H (Is X H') := by
  intro args H X H' h
  unfold marks_moved_1_t at h
  split at h
  · exact keep_okK MIX (by intro f e h; cases h) (f := 38) (c := marks_moved_1_c) Try.func38 rfl (by kernel_rfl) _ rfl Try.ntmps38 (Nat.le_of_ble_eq_true rfl) marks_moved_1_h h
  · cases h
noncomputable def slices_IndexFunc_Mark_c : Code := (Try.f43.body).getD .skip
def slices_IndexFunc_Mark_h : Hint := (.two .n (.join [] (.two .n (.one (.lp [] [0, 1, 7, 8] [4] (.two .n (.two (.two .n .n) (.two (.one (.two .n (.two .n (.two (.two .n .n) .n)))) .n)))))) (.two .n .n)))
noncomputable def slices_IndexFunc_Mark_env (m : Nat) : Env := [(38, .keep (marks_moved_1_t m))]
noncomputable abbrev slices_IndexFunc_Mark_fin (n0 : Nat) : KO (AV × List AObj) := keepFK Try.prog n0 [.tmp 4]
noncomputable def slices_IndexFunc_Mark_r1 (m : Nat) (n0k : Nat) (s : ASt) : RO := joinW Try.prog GG (slices_IndexFunc_Mark_env m) m 19 (cdR (cdR slices_IndexFunc_Mark_c)) slices_IndexFunc_Mark_h.r.r s (slices_IndexFunc_Mark_fin n0k)
noncomputable def slices_IndexFunc_Mark_b1 (m : Nat) (s : ASt) (kc : ASt → RO) (kx : KO (AV × List AObj)) : RO := bodyW Try.prog GG (slices_IndexFunc_Mark_env m) m 19 (cdL (cdL (cdR (cdL (cdR slices_IndexFunc_Mark_c))))) slices_IndexFunc_Mark_h.r.l.r.c.c [0, 1, 7, 8] [4] s kc kx
noncomputable def slices_IndexFunc_Mark (m : Nat) (t0 t1 : AV) (H : List AObj) : RO := exec Try.prog GG (slices_IndexFunc_Mark_env m) m 19 slices_IndexFunc_Mark_c slices_IndexFunc_Mark_h ⟨H, argsT 0 [t0, t1]⟩ (slices_IndexFunc_Mark_fin H.length)
theorem slices_IndexFunc_Mark_r1_eq (m : Nat) (n0k : Nat) (H : List AObj) : slices_IndexFunc_Mark_r1 m n0k ⟨H, []⟩ =
  keepK n0k H (ro H (V (.int .i64 (-1)))) := by
  refine (joinW_eq Try.prog GG (slices_IndexFunc_Mark_env m) m 19 (cdR (cdR slices_IndexFunc_Mark_c)) slices_IndexFunc_Mark_h.r.r ⟨H, []⟩ (slices_IndexFunc_Mark_fin n0k)).trans ?_
  kernel_rfl
theorem slices_IndexFunc_Mark_b1_eq (m : Nat) (H : List AObj) (t0 t1 t7 t8 : AV) (kc : ASt → RO) (kx : KO (AV × List AObj)) : slices_IndexFunc_Mark_b1 m ⟨H, [(0, t0), (1, t1), (7, t7), (8, t8)]⟩ kc kx =
  binE none false false .lss t8 t7 fun t9 =>
  condE t9 (
   idxSE 5 H t0 t8 fun t14 =>
   loadE 5 H t14 fun t15 =>
   callVE (slices_IndexFunc_Mark_env m) t1 [t15] H fun t16 H2 =>
   condE t16 (
    kx .ret ⟨H2, [(4, t8)]⟩) (
    binE none false false .add t8 (V (.int .i64 1)) fun t18 =>
    backE H.length H2 [(0, t0), (1, t1), (7, t7), (8, t18)] kc)) (
   kx (.exit 0) ⟨H, [(4, .nil)]⟩) := by
  refine (bodyW_eq Try.prog GG (slices_IndexFunc_Mark_env m) m 19 (cdL (cdL (cdR (cdL (cdR slices_IndexFunc_Mark_c))))) slices_IndexFunc_Mark_h.r.l.r.c.c [0, 1, 7, 8] [4] ⟨H, [(0, t0), (1, t1), (7, t7), (8, t8)]⟩ kc kx).trans ?_
  kernel_rfl
theorem slices_IndexFunc_Mark_eq (m : Nat) (t0 t1 : AV) (H : List AObj) : slices_IndexFunc_Mark m t0 t1 H =
  lenE false true H t0 fun t7 =>
  iterC m (slices_IndexFunc_Mark_b1 m) ⟨H, [(0, t0), (1, t1), (7, t7), (8, (V (.int .i64 0)))]⟩ (blockX 0 (seqX (fun s => slices_IndexFunc_Mark_r1 m H.length ⟨s.H, []⟩) (slices_IndexFunc_Mark_fin H.length))) := by
  refine (keepX Try.prog GG (slices_IndexFunc_Mark_env m) m 19 H.length slices_IndexFunc_Mark_c slices_IndexFunc_Mark_h ⟨H, argsT 0 [t0, t1]⟩ [.tmp 4]).trans ?_
  kernel_rfl
noncomputable def slices_IndexFunc_Mark_t (m : Nat) : List AV → List AObj → RO | [t0, t1], H => slices_IndexFunc_Mark m t0 t1 H | _, _ => none
theorem slices_IndexFunc_Mark_ok (m : Nat) : ∀ args H X H', slices_IndexFunc_Mark_t m args H = some (X, H') → AC Try.prog GG 43 args H (Is X H') := by
  intro args H X H' h
  unfold slices_IndexFunc_Mark_t at h
  split at h
  · exact keep_okK MIX (by
    intro f e h
    simp only [slices_IndexFunc_Mark_env, Prod.mk.injEq, List.mem_cons, List.not_mem_nil, or_false] at h
    obtain ⟨rfl, rfl⟩ := h
    · exact marks_moved_1_ok m) (f := 43) (c := slices_IndexFunc_Mark_c) Try.func43 rfl (by kernel_rfl) _ rfl Try.ntmps43 (Nat.le_of_ble_eq_true rfl) slices_IndexFunc_Mark_h h
  · cases h
noncomputable def slices_BinarySearchFunc_Mark_c : Code := (Try.f23.body).getD .skip
def slices_BinarySearchFunc_Mark_h : Hint := (.two .n (.two .n (.two .n (.join [0, 2, 4, 8, 9] (.one (.lp [] [0, 2, 4, 8, 9, 10] [0, 2, 4, 8, 9] (.two (.two .n (.two .n .n)) (.one (.two .n (.two .n (.two .n .n))))))) (.two .n .n)))))
noncomputable def slices_BinarySearchFunc_Mark_env (m : Nat) : Env := [(24, .tell (marks_order_t m))]
noncomputable abbrev slices_BinarySearchFunc_Mark_fin (n0 : Nat) : KO (AV × List AObj) := keepFK Try.prog n0 [.tmp 6, .tmp 7]
noncomputable def slices_BinarySearchFunc_Mark_r1 (m : Nat) (n0k : Nat) (s : ASt) : RO := joinW Try.prog GG (slices_BinarySearchFunc_Mark_env m) m 49 (cdR (cdR (cdR (cdR slices_BinarySearchFunc_Mark_c)))) slices_BinarySearchFunc_Mark_h.r.r.r.r s (slices_BinarySearchFunc_Mark_fin n0k)
noncomputable def slices_BinarySearchFunc_Mark_b1 (m : Nat) (s : ASt) (kc : ASt → RO) (kx : KO (AV × List AObj)) : RO := bodyW Try.prog GG (slices_BinarySearchFunc_Mark_env m) m 49 (cdL (cdL (cdL (cdR (cdR (cdR slices_BinarySearchFunc_Mark_c)))))) slices_BinarySearchFunc_Mark_h.r.r.r.l.c.c [0, 2, 4, 8, 9, 10] [0, 2, 4, 8, 9] s kc kx
noncomputable def slices_BinarySearchFunc_Mark (m : Nat) (t0 t1 t2 : AV) (H : List AObj) : RO := exec Try.prog GG (slices_BinarySearchFunc_Mark_env m) m 49 slices_BinarySearchFunc_Mark_c slices_BinarySearchFunc_Mark_h ⟨H, argsT 0 [t0, t1, t2]⟩ (slices_BinarySearchFunc_Mark_fin H.length)
theorem slices_BinarySearchFunc_Mark_r1_eq (m : Nat) (n0k : Nat) (H : List AObj) (t0 t2 t4 t8 t9 : AV) : slices_BinarySearchFunc_Mark_r1 m n0k ⟨H, [(0, t0), (2, t2), (4, t4), (8, t8), (9, t9)]⟩ =
  binE none false false .lss t9 t8 fun t38 =>
  condE t38 (
   idxSE 5 H t0 t9 fun t43 =>
   loadE 5 H t43 fun t44 =>
   loadE 5 H t4 fun t45 =>
   callVE (slices_BinarySearchFunc_Mark_env m) t2 [t44, t45] H fun t46 H2 =>
   binE none false false .eql t46 (V (.int .i64 0)) fun t47 =>
   keepK n0k H2 (ro H2 (TU [noT t9, noT t47]))) (
   keepK n0k H (ro H (TU [noT t9, noT (V (.bool false))]))) := by
  refine (joinW_eq Try.prog GG (slices_BinarySearchFunc_Mark_env m) m 49 (cdR (cdR (cdR (cdR slices_BinarySearchFunc_Mark_c)))) slices_BinarySearchFunc_Mark_h.r.r.r.r ⟨H, [(0, t0), (2, t2), (4, t4), (8, t8), (9, t9)]⟩ (slices_BinarySearchFunc_Mark_fin n0k)).trans ?_
  kernel_rfl
theorem slices_BinarySearchFunc_Mark_b1_eq (m : Nat) (H : List AObj) (t0 t2 t4 t8 t9 t10 : AV) (kc : ASt → RO) (kx : KO (AV × List AObj)) : slices_BinarySearchFunc_Mark_b1 m ⟨H, [(0, t0), (2, t2), (4, t4), (8, t8), (9, t9), (10, t10)]⟩ kc kx =
  binE none false false .lss t9 t10 fun t17 =>
  condE t17 (
   binE none false false .add t9 t10 fun t20 =>
   convE false (some .u64) true false t20 fun t21 =>
   binE none false false .shr t21 (V (.int .u64 1)) fun t22 =>
   convE false (some .i64) true false t22 fun t23 =>
   idxSE 5 H t0 t23 fun t27 =>
   loadE 5 H t27 fun t28 =>
   loadE 5 H t4 fun t29 =>
   callVE (slices_BinarySearchFunc_Mark_env m) t2 [t28, t29] H fun t30 H2 =>
   binE none false false .lss t30 (V (.int .i64 0)) fun t31 =>
   condE t31 (
    binE none false false .add t23 (V (.int .i64 1)) fun t33 =>
    backE H.length H2 [(0, t0), (2, t2), (4, t4), (8, t8), (9, t33), (10, t10)] kc) (
    backE H.length H2 [(0, t0), (2, t2), (4, t4), (8, t8), (9, t9), (10, t23)] kc)) (
   kx (.exit 0) ⟨H, [(0, t0), (2, t2), (4, t4), (8, t8), (9, t9)]⟩) := by
  refine (bodyW_eq Try.prog GG (slices_BinarySearchFunc_Mark_env m) m 49 (cdL (cdL (cdL (cdR (cdR (cdR slices_BinarySearchFunc_Mark_c)))))) slices_BinarySearchFunc_Mark_h.r.r.r.l.c.c [0, 2, 4, 8, 9, 10] [0, 2, 4, 8, 9] ⟨H, [(0, t0), (2, t2), (4, t4), (8, t8), (9, t9), (10, t10)]⟩ kc kx).trans ?_
  kernel_rfl
theorem slices_BinarySearchFunc_Mark_eq (m : Nat) (t0 t1 t2 : AV) (H : List AObj) : slices_BinarySearchFunc_Mark m t0 t1 t2 H =
  boxE ty_api_Mark H t1 fun t4 H2 =>
  lenE false true H2 t0 fun t13 =>
  iterC m (slices_BinarySearchFunc_Mark_b1 m) ⟨H2, [(0, t0), (2, t2), (4, t4), (8, t13), (9, (V (.int .i64 0))), (10, t13)]⟩ (blockX 0 (seqX (fun s => slices_BinarySearchFunc_Mark_r1 m H.length ⟨s.H, [(0, gt s.T 0), (2, gt s.T 2), (4, gt s.T 4), (8, gt s.T 8), (9, gt s.T 9)]⟩) (slices_BinarySearchFunc_Mark_fin H.length))) := by
  refine (keepX Try.prog GG (slices_BinarySearchFunc_Mark_env m) m 49 H.length slices_BinarySearchFunc_Mark_c slices_BinarySearchFunc_Mark_h ⟨H, argsT 0 [t0, t1, t2]⟩ [.tmp 6, .tmp 7]).trans ?_
  kernel_rfl
noncomputable def slices_BinarySearchFunc_Mark_t (m : Nat) : List AV → List AObj → RO | [t0, t1, t2], H => slices_BinarySearchFunc_Mark m t0 t1 t2 H | _, _ => none
theorem slices_BinarySearchFunc_Mark_ok (m : Nat) : ∀ args H X H', slices_BinarySearchFunc_Mark_t m args H = some (X, H') → AC Try.prog GG 23 args H (Is X H') := by
  intro args H X H' h
  unfold slices_BinarySearchFunc_Mark_t at h
  split at h
  · exact keep_okK MIX (by
    intro f e h
    simp only [slices_BinarySearchFunc_Mark_env, Prod.mk.injEq, List.mem_cons, List.not_mem_nil, or_false] at h
    obtain ⟨rfl, rfl⟩ := h
    · exact marks_order_ok m) (f := 23) (c := slices_BinarySearchFunc_Mark_c) Try.func23 rfl (by kernel_rfl) _ rfl Try.ntmps23 (Nat.le_of_ble_eq_true rfl) slices_BinarySearchFunc_Mark_h h
  · cases h
noncomputable def slices_DeleteFunc_Mark_c : Code := farC 4 ((Try.f37.body).getD .skip) .skip
def slices_DeleteFunc_Mark_h : Hint := (.two .n (.two .n (.two (.two .n (.two (.two .n .n) .n)) (.join [0, 4, 5] (.two .n (.one (.lp [] [0, 1, 4, 5, 6] [0, 4, 5] (.two (.two .n (.two .n .n)) (.two (.one (.two .n (.two .n (.two (.two .n .n) .n)))) .n))))) .n))))
noncomputable def slices_DeleteFunc_Mark_env (m : Nat) : Env := [(43, .keep (slices_IndexFunc_Mark_t m)), (38, .keep (marks_moved_1_t m))]
noncomputable abbrev slices_DeleteFunc_Mark_fin (n0 : Nat) : KO (AV × List AObj) := farFK Try.prog n0 [.tmp 4, .tmp 0, .tmp 5] [.tmp 4, .tmp 4]
noncomputable def slices_DeleteFunc_Mark_r1 (m : Nat) (n0k : Nat) (s : ASt) : RO := joinW Try.prog GG (slices_DeleteFunc_Mark_env m) m 42 (cdR (cdR (cdR (cdR slices_DeleteFunc_Mark_c)))) slices_DeleteFunc_Mark_h.r.r.r.r s (slices_DeleteFunc_Mark_fin n0k)
noncomputable def slices_DeleteFunc_Mark_b1 (m : Nat) (s : ASt) (kc : ASt → RO) (kx : KO (AV × List AObj)) : RO := bodyW Try.prog GG (slices_DeleteFunc_Mark_env m) m 42 (cdL (cdL (cdR (cdL (cdR (cdR (cdR slices_DeleteFunc_Mark_c))))))) slices_DeleteFunc_Mark_h.r.r.r.l.r.c.c [0, 1, 4, 5, 6] [0, 4, 5] s kc kx
noncomputable def slices_DeleteFunc_Mark (m : Nat) (t0 t1 : AV) (H : List AObj) : RO := exec Try.prog GG (slices_DeleteFunc_Mark_env m) m 42 slices_DeleteFunc_Mark_c slices_DeleteFunc_Mark_h ⟨H, argsT 0 [t0, t1]⟩ (slices_DeleteFunc_Mark_fin H.length)
theorem slices_DeleteFunc_Mark_r1_eq (m : Nat) (n0k : Nat) (H : List AObj) (t0 t4 t5 : AV) : slices_DeleteFunc_Mark_r1 m n0k ⟨H, [(0, t0), (4, t4), (5, t5)]⟩ =
  keepK n0k H (ro H (TU [noT t4, noT t0, noT t5])) := by
  refine (joinW_eq Try.prog GG (slices_DeleteFunc_Mark_env m) m 42 (cdR (cdR (cdR (cdR slices_DeleteFunc_Mark_c)))) slices_DeleteFunc_Mark_h.r.r.r.r ⟨H, [(0, t0), (4, t4), (5, t5)]⟩ (slices_DeleteFunc_Mark_fin n0k)).trans ?_
  kernel_rfl
theorem slices_DeleteFunc_Mark_b1_eq (m : Nat) (H : List AObj) (t0 t1 t4 t5 t6 : AV) (kc : ASt → RO) (kx : KO (AV × List AObj)) : slices_DeleteFunc_Mark_b1 m ⟨H, [(0, t0), (1, t1), (4, t4), (5, t5), (6, t6)]⟩ kc kx =
  lenE false true H t0 fun t18 =>
  binE none false false .lss t6 t18 fun t19 =>
  condE t19 (
   idxSE 5 H t0 t6 fun t24 =>
   loadE 5 H t24 fun t25 =>
   allocE (some zc_api_Mark) ty_api_Mark H fun t7 H2 =>
   storeE 5 H2 t7 t25 fun H3 =>
   loadE 5 H3 t7 fun t27 =>
   callVE (slices_DeleteFunc_Mark_env m) t1 [t27] H3 fun t28 H4 =>
   unE .not t28 fun t29 =>
   condE t29 (
    loadE 5 H4 t7 fun t32 =>
    idxSE 5 H4 t0 t5 fun t33 =>
    storeE 5 H4 t33 t32 fun H5 =>
    binE none false false .add t5 (V (.int .i64 1)) fun t35 =>
    binE none false false .add t6 (V (.int .i64 1)) fun t21 =>
    backE H.length H5 [(0, t0), (1, t1), (4, t4), (5, t35), (6, t21)] kc) (
    binE none false false .add t6 (V (.int .i64 1)) fun t21 =>
    backE H.length H4 [(0, t0), (1, t1), (4, t4), (5, t5), (6, t21)] kc)) (
   kx (.exit 0) ⟨H, [(0, t0), (4, t4), (5, t5)]⟩) := by
  refine (bodyW_eq Try.prog GG (slices_DeleteFunc_Mark_env m) m 42 (cdL (cdL (cdR (cdL (cdR (cdR (cdR slices_DeleteFunc_Mark_c))))))) slices_DeleteFunc_Mark_h.r.r.r.l.r.c.c [0, 1, 4, 5, 6] [0, 4, 5] ⟨H, [(0, t0), (1, t1), (4, t4), (5, t5), (6, t6)]⟩ kc kx).trans ?_
  kernel_rfl
theorem slices_DeleteFunc_Mark_eq (m : Nat) (t0 t1 : AV) (H : List AObj) : slices_DeleteFunc_Mark m t0 t1 H =
  keepE (slices_IndexFunc_Mark m (ro H t0) (ro H t1) H) fun t10 H2 =>
  binE none false false .eql t10 (V (.int .i64 (-1))) fun t12 =>
  condE t12 (
   keepK H.length H2 (ro H2 (TU [noT t0, noT t0]))) (
   binE none false false .add t10 (V (.int .i64 1)) fun t15 =>
   iterC m (slices_DeleteFunc_Mark_b1 m) ⟨H2, [(0, t0), (1, t1), (4, (V (.slice none 0 0))), (5, t10), (6, t15)]⟩ (blockX 0 (seqX (fun s => slices_DeleteFunc_Mark_r1 m H.length ⟨s.H, [(0, gt s.T 0), (4, gt s.T 4), (5, gt s.T 5)]⟩) (slices_DeleteFunc_Mark_fin H.length)))) := by
  refine (farX Try.prog GG (slices_DeleteFunc_Mark_env m) m 42 H.length slices_DeleteFunc_Mark_c slices_DeleteFunc_Mark_h ⟨H, argsT 0 [t0, t1]⟩ [.tmp 4, .tmp 0, .tmp 5] [.tmp 4, .tmp 4]).trans ?_
  kernel_rfl
noncomputable def slices_DeleteFunc_Mark_t (m : Nat) : List AV → List AObj → RO | [t0, t1], H => slices_DeleteFunc_Mark m t0 t1 H | _, _ => none
end Go.Proofs.Ytbobfgbjliolmaa

namespace Go.Proofs.Ytbobfgbjliolmaa
open Go.RowKit
set_option linter.unusedVariables false
set_option linter.unusedSimpArgs false
section
variable {P : Program}
theorem run_copy_rowz (w : World) (dT sT ty elem : TypeId) (z g o dLen dCap : Nat) (a : Addr) (sLen sCap : Nat) (cur : Array Value) (t : TypeId) (cs : List Value)
    (hu : P.underlying dT = some (.slice elem)) (hs : (P.info? elem).map (·.size) = some z)
    (hg : w.heap[g]? = some (.cells cur t (0, 0))) (m : Nat) (hm : Nat.min sLen dLen = m) (hn : cs.length = m * z)
    (hsrc : ∀ j v, cs[j]? = some v → w.cell? (a.add j) = some v) (hfit : o + cs.length ≤ cur.size) (h1 : ∀ v ∈ cs, v.oneCell' = true) :
    (Builtin.copy_ #[dT, sT] ty #[.slice (some ⟨g, o, none⟩) dLen dCap, .slice (some a) sLen sCap]).run P w =
      .ok (goInt m) (w.setRow g (cur.toList.take o ++ cs ++ cur.toList.drop (o + cs.length)).toArray) := by
  have hl := run_loadCells_list (P := P) w a cs hsrc
  have hst := run_storeCells_at P g o t cs 0 cur w hg (by simpa using hfit) h1
  rw [hn] at hl
  cases hq : P.info? elem with
  | none => simp [hq] at hs
  | some i =>
    have hi : i.size = z := by simpa [hq] using hs
    simp [Builtin.copy_, run_underlying hu, Builtin.lenOf, Builtin.firstCells, sizeOf, typeInfo, hq, hi, hm, hl, hst]
theorem run_overlaps_row (w : World) (tS tR e : TypeId) (ht : P.underlying tS = some (.slice e)) (size : Nat) (hz : ∀ w, (Go.sizeOf e).run P w = .ok size w)
    (a b : Addr) (la ca lb cb : Nat) (hne : a.block ≠ b.block) (u0 : Value) (ha : w.cell? a = some u0) {cur : Array Value} {tB : TypeId} (hb : w.heap[b.block]? = some (.cells cur tB (0, 0))) (hcur : cur.size ≠ 0) :
    (Extern.SlicesOverlaps.overlaps #[tS, tS] #[tR] #[.slice (some a) la ca, .slice (some b) lb cb]).run P w = .ok (.bool false) w := by
  have hnb : (a.block != b.block) = true := by simpa using hne
  have hnb' : (a.block == b.block) = false := by simpa using hne
  obtain ⟨ca', ta, fa, hha, hca⟩ : ∃ (c : Array Value) (t : TypeId) (f : Nat × Nat), w.heap[a.block]? = some (.cells c t f) ∧ c[a.off]? = some u0 := by
    unfold World.cell? at ha
    split at ha
    · rename_i c t f h
      split at ha
      · cases ha
      · exact ⟨c, t, f, h, ha⟩
    · cases ha
  have hsa : w.shape? a.block = some (ta, ca'.size) := by simp [World.shape?, hha]
  have hsb : w.shape? b.block = some (tB, cur.size) := by simp [World.shape?, hb]
  have hfb : w.frozen? b = false := by simp [World.frozen?, hb]
  have hfb2 : w.frozen? ⟨b.block, cur.size, none⟩ = false := by simp [World.frozen?, hb]
  have hka : ca'.size ≠ 0 := by
    have := (Array.getElem?_eq_some_iff.1 hca).1
    omega
  change Sem.run P (α := Value) (do
    let some t := (#[tS, tS] : Array TypeId)[0]? | stuck "slices.overlaps: no parameter types"
    let .slice elem ← underlying t | stuck "slices.overlaps: slice type expected"
    let size ← sizeOf elem
    match (some a : Option Addr), (some b : Option Addr) with
    | some a, some b =>
      if la = 0 ∨ lb = 0 ∨ size = 0 then pure (Value.bool false)
      else if a.block != b.block && (← frozen a) && (← frozen b) then unsupported .addressObserved
      else do
        if a.block != b.block then do
          noView a; noView b
          if ← mayBeOne a b then return Value.bool ((← choose (.extern "sameAddr.stringBytes" 2)) == 1)
        pure (Value.bool (a.block == b.block && a.off < b.off + lb * size && b.off < a.off + la * size))
    | _, _ => pure (Value.bool false)) w = _
  by_cases h0 : la = 0 ∨ lb = 0 ∨ size = 0
  · simp [run_underlying ht, hz, h0]
  · obtain ⟨kA, hkA⟩ : ∃ k, ca'.size = k + 1 := ⟨ca'.size - 1, by omega⟩
    obtain ⟨kB, hkB⟩ : ∃ k, cur.size = k + 1 := ⟨cur.size - 1, by omega⟩
    rw [hkA] at hsa
    rw [hkB] at hsb hfb2
    cases hfa : w.frozen? a <;> cases hfe : w.frozen? ⟨a.block, kA + 1, none⟩ <;>
      simp [run_underlying ht, hz, h0, hnb, hnb', frozen, noView, viewAt, mayBeOne, stringish, shape, Sem.run, hsa, hsb, hfa, hfe, hfb, hfb2]
theorem cell_row {w : World} {g : Nat} {cur : Array Value} {t : TypeId} {fr : Nat × Nat} {m : Nat} {us : List Value} (hg : w.heap[g]? = some (.cells cur t fr)) (htk : cur.toList.take m = us) {j : Nat} {u : Value} (h : us[j]? = some u) : w.cell? ⟨g, j, none⟩ = some u := by
  rw [cell_of_row w g j cur t fr hg, ← Array.getElem?_toList]
  rw [← htk, List.getElem?_take] at h
  split at h
  · exact h
  · cases h
theorem add_plain (b o j : Nat) : (⟨b, o, none⟩ : Addr).add j = ⟨b, o + j, none⟩ := by unfold Addr.add; split <;> simp_all
theorem ins_list {L us vs : List Value} {N K z : Nat} (hv : vs.length = z) (hK : K ≤ N) (hN : N + z ≤ L.length) (hu : L.take N = us) :
    (L.take (K + z) ++ us.drop K ++ L.drop (K + z + (us.drop K).length)).take K ++ vs ++ (L.take (K + z) ++ us.drop K ++ L.drop (K + z + (us.drop K).length)).drop (K + vs.length) = us.take K ++ vs ++ us.drop K ++ L.drop (N + z) := by
  have hul : us.length = N := by rw [← hu, List.length_take]; omega
  have e1 : (us.drop K).length = N - K := by rw [List.length_drop, hul]
  have e2 : (L.take (K + z)).length = K + z := by rw [List.length_take]; omega
  rw [e1, show K + z + (N - K) = N + z by omega, hv, List.append_assoc (L.take (K + z)), List.take_append_of_le_length (by omega), List.take_take, Nat.min_eq_left (by omega),
    List.drop_append, e2, Nat.sub_self, List.drop_zero, List.drop_of_length_le (by omega), List.nil_append]
  have : L.take K = us.take K := by rw [← hu, List.take_take, Nat.min_eq_left hK]
  rw [this]
  simp [List.append_assoc]
end
end Go.Proofs.Ytbobfgbjliolmaa

namespace Go.Proofs.Ytbobfgbjliolmaa
open Go.RowKit
set_option linter.unusedVariables false
set_option linter.unusedSimpArgs false
set_option maxRecDepth 100000
set_option maxHeartbeats 4000000 in
theorem ins_shift (g n c k vb vo vc : Nat) (us vs : List Value) (cur : Array Value) (w : World) (hk : k < n) (hroom : n + 1 ≤ c) (hcm : c ≤ 9223372036854775807)
    (hg : w.heap[g]? = some (.cells cur 30 (0, 0))) (hsz : cur.size = c * 3) (hus : us.length = n * 3) (htk : cur.toList.take (n * 3) = us) (h1 : ∀ u ∈ us, u.oneCell' = true) (hne : vb ≠ g)
    (hvl : vs.length = 3) (hvs : ∀ j u, vs[j]? = some u → w.cell? ⟨vb, vo + j, none⟩ = some u) (h1v : ∀ u ∈ vs, u.oneCell' = true) :
    Calls Try.prog 25 #[.slice (some ⟨g, 0, none⟩) n c, .int .i64 k, .slice (some ⟨vb, vo, none⟩) 1 vc] w fun e w' =>
      e = .returned (.slice (some ⟨g, 0, none⟩) (n + 1) c) ∧ ∃ cur', w' = w.drew.setRow g cur' ∧ cur'.size = c * 3 ∧ cur'.toList.take ((n + 1) * 3) = us.take (k * 3) ++ vs ++ us.drop (k * 3) := by
  have hz1 : ¬ ((k : Int) = (n : Int)) := by omega
  have hcur : cur.size ≠ 0 := by omega
  have hv0 : ∃ u0, w.cell? ⟨vb, vo, none⟩ = some u0 := by
    cases vs with
    | nil => simp at hvl
    | cons u r => exact ⟨u, by simpa using hvs 0 u rfl⟩
  obtain ⟨u0, hv0⟩ := hv0
  have hov : ∀ o lb cb, (callFunc 33 #[.slice (some ⟨vb, vo, none⟩) 1 vc, .slice (some ⟨g, o, none⟩) lb cb]).run Try.prog w = .ok (.value (.bool false)) w := fun o lb cb => by
    rw [run_callFunc_extern Try.func33 (by kernel_rfl) (by kernel_rfl) (by kernel_rfl) (e := Extern.SlicesOverlaps.overlaps #[22, 22] #[4]) (by kernel_rfl),
      run_overlaps_row w 22 4 30 Try.underlying22 3 Try.sizeOf30 ⟨vb, vo, none⟩ ⟨g, o, none⟩ 1 vc lb cb hne u0 hv0 hg hcur]
    rfl
  have hw1 : IntKind.i64.wrap ((k : Int) + 1) = (k : Int) + 1 := by rw [IntKind.wrap_i64]; omega
  have hb1 : (0 : Int) ≤ (k : Int) + 1 := by omega
  have hin : k ≤ n := by omega
  have htn : ((k : Int) + 1).toNat = k + 1 := by omega
  have hb2 : ¬ (c = k + 1) := by omega
  have hb3 : (k : Int) ≤ (n : Int) + 1 := by omega
  have hb4 : ¬ (c = k) := by omega
  have hinf : (Try.prog.info? 30).map (·.size) = some 3 := by kernel_rfl
  have hdl : (us.drop (k * 3)).length = (n - k) * 3 := by rw [List.length_drop, hus, Nat.sub_mul]
  have hll : cur.toList.length = c * 3 := by rw [Array.length_toList]; exact hsz
  have hcp1 : ∀ ty dc sc, (Builtin.copy_ #[22, 22] ty #[.slice (some ⟨g, (k + 1) * 3, none⟩) (n - k) dc, .slice (some ⟨g, k * 3, none⟩) (n + 1 - k) sc]).run Try.prog w.drew = .ok (goInt (n - k : Nat)) (w.drew.setRow g (cur.toList.take (k * 3 + 3) ++ us.drop (k * 3) ++ cur.toList.drop (k * 3 + 3 + (us.drop (k * 3)).length)).toArray) := fun ty dc sc => by
    have := run_copy_rowz (P := Try.prog) w.drew 22 22 ty 30 3 g ((k + 1) * 3) (n - k) dc ⟨g, k * 3, none⟩ (n + 1 - k) sc cur 30 (us.drop (k * 3)) Try.underlying22 hinf hg (n - k) (by simp only [Nat.min_def]; split <;> omega) hdl
      (fun j v hj => by rw [add_plain]; exact cell_row (w := w.drew) hg htk (by rwa [List.getElem?_drop] at hj)) (by rw [hdl]; omega) (fun v hv => h1 v (List.mem_of_mem_drop hv))
    rw [show (k + 1) * 3 = k * 3 + 3 by omega] at this ⊢
    exact this
  obtain ⟨L1, hL1⟩ : ∃ L1, L1 = cur.toList.take (k * 3 + 3) ++ us.drop (k * 3) ++ cur.toList.drop (k * 3 + 3 + (us.drop (k * 3)).length) := ⟨_, rfl⟩
  have hL1l : L1.length = c * 3 := by
    rw [hL1, List.length_append, List.length_append, hdl, List.length_take, List.length_drop, hll]; omega
  have hLL := ins_list (L := cur.toList) (us := us) (vs := vs) (N := n * 3) (K := k * 3) (z := 3) hvl (by omega) (by omega) htk
  rw [← hL1] at hcp1 hLL
  have hcp2 : ∀ ty dc, (Builtin.copy_ #[22, 22] ty #[.slice (some ⟨g, k * 3, none⟩) (n + 1 - k) dc, .slice (some ⟨vb, vo, none⟩) 1 vc]).run Try.prog (w.drew.setRow g L1.toArray) = .ok (goInt (1 : Nat)) (w.drew.setRow g (us.take (k * 3) ++ vs ++ us.drop (k * 3) ++ cur.toList.drop (n * 3 + 3)).toArray) := fun ty dc => by
    have := run_copy_rowz (P := Try.prog) (w.drew.setRow g L1.toArray) 22 22 ty 30 3 g (k * 3) (n + 1 - k) dc ⟨vb, vo, none⟩ 1 vc L1.toArray 30 vs Try.underlying22 hinf (setRow_heap w.drew g cur _ _ _ hg) 1 (by simp only [Nat.min_def]; split <;> omega) hvl
      (fun j v hj => by rw [add_plain, World.cell?_of_block (setRow_other w.drew g vb _ hne)]; exact hvs j v hj) (by rw [hvl]; simp only [List.size_toArray]; omega) h1v
    rw [setRow_setRow] at this
    rw [this, hLL]
  have hE1 := hide (show ((us.take (k * 3) ++ vs ++ us.drop (k * 3) ++ cur.toList.drop (n * 3 + 3)).toArray).size = c * 3 by
    simp only [List.size_toArray, List.length_append, List.length_take, List.length_drop, hus, hvl, hll]; omega)
  have hE2 := hide (show ((us.take (k * 3) ++ vs ++ us.drop (k * 3) ++ cur.toList.drop (n * 3 + 3)).toArray).toList.take ((n + 1) * 3) = us.take (k * 3) ++ vs ++ us.drop (k * 3) from by
    have hlen : (us.take (k * 3) ++ vs ++ us.drop (k * 3)).length = (n + 1) * 3 := by
      simp only [List.length_append, List.length_take, List.length_drop, hus, hvl]; omega
    show List.take ((n + 1) * 3) (us.take (k * 3) ++ vs ++ us.drop (k * 3) ++ cur.toList.drop (n * 3 + 3)) = _
    rw [← hlen]
    exact List.take_left)
  generalize (us.take (k * 3) ++ vs ++ us.drop (k * 3) ++ cur.toList.drop (n * 3 + 3)).toArray = C2 at hcp2 hE1 hE2
  generalize L1.toArray = C1 at hcp1 hcp2
  clear hLL hL1 hL1l hll hdl hinf
  have hg := hide hg; have hsz := hide hsz; have hus := hide hus; have htk := hide htk; have hvl := hide hvl; have hvs := hide hvs; have h1 := hide h1; have h1v := hide h1v; have hv0 := hide hv0; have hcur := hide hcur
  have mixed : Try.prog.follows .mixedOrders = true := by kernel_rfl
  go_enter Try.func25, Try.ntmps25
  go_wp2_with (simp only [hov])
  go_region_law_o (refine step_copy_runI rfl _ _ 22 22 rfl _ _ (by simp [Act.eval, Act.put]) (by simp [Act.eval, Act.put]) (hcp1 _ _ _) ?_)
  go_wp2_with (at_builtin; refine wpList_copy_runI _ rfl _ _ 22 22 rfl _ _ rfl rfl (hcp2 _ _) ?_)
  go_ret
  exact ⟨rfl, _, rfl, hE1.out, hE2.out⟩
set_option maxHeartbeats 4000000 in
theorem ins_end (A : Option Addr) (n c vb vo vc : Nat) (w W' : World) (R : Value) (hnil : A = none → n = 0 ∧ c = 0) (hnc : n ≤ c) (hn : n + 1 ≤ 34359738368)
    (hrun : ∀ ty, (Builtin.append_ #[22, 22] ty #[.slice A n c, .slice (some ⟨vb, vo, none⟩) 1 vc]).run Try.prog w = .ok R W') :
    Calls Try.prog 25 #[.slice A n c, .int .i64 n, .slice (some ⟨vb, vo, none⟩) 1 vc] w fun e w' => e = .returned R ∧ w' = W' := by
  go_enter Try.func25, Try.ntmps25
  cases A with
  | none =>
    obtain ⟨rfl, rfl⟩ := hnil rfl
    go_wp2_with (at_builtin; refine Lib.wpList_append_run _ rfl _ _ _ _ rfl _ _ rfl rfl _ _ (hrun _) ?_)
    go_ret
    exact ⟨rfl, rfl⟩
  | some a =>
    obtain ⟨ab, ao, asp⟩ := a
    go_wp2_with (at_builtin; refine Lib.wpList_append_run _ rfl _ _ _ _ rfl _ _ rfl rfl _ _ (hrun _) ?_)
    all_goals (go_ret; exact ⟨rfl, rfl⟩)
set_option maxHeartbeats 4000000 in
theorem ins_grow (g n c k vb vo vc : Nat) (us vs : List Value) (cur : Array Value) (w : World) (hk : k < n) (hroom : c < n + 1) (hnc : n ≤ c) (hn : n + 1 ≤ 34359738368)
    (hg : w.heap[g]? = some (.cells cur 30 (0, 0))) (hus : us.length = n * 3) (htk : cur.toList.take (n * 3) = us) (h1 : ∀ u ∈ us, u.oneCell' = true)
    (hvl : vs.length = 3) (hvs : ∀ j u, vs[j]? = some u → w.cell? ⟨vb, vo + j, none⟩ = some u) (h1v : ∀ u ∈ vs, u.oneCell' = true) :
    Calls Try.prog 25 #[.slice (some ⟨g, 0, none⟩) n c, .int .i64 k, .slice (some ⟨vb, vo, none⟩) 1 vc] w fun e w' =>
      ∃ G cur', e = .returned (.slice (some ⟨w.heap.size, 0, none⟩) (n + 1) G) ∧ n + 1 ≤ G ∧ G ≤ maxLen ∧ w'.heap[w.heap.size]? = some (.cells cur' 30 (0, 0)) ∧ cur'.size = G * 3 ∧ cur'.toList.take ((n + 1) * 3) = us.take (k * 3) ++ vs ++ us.drop (k * 3) ∧
        (∀ b, b < w.heap.size → w'.heap[b]? = w.heap[b]?) ∧ w'.os = w.os ∧ w'.tape = w.tape ∧ w'.output = w.output ∧ w.heap.size ≤ w'.heap.size := by
  have hz1 : ¬ ((k : Int) = (n : Int)) := by omega
  have hz3 : (c : Int) < (n : Int) + 1 := by omega
  have hinf : (Try.prog.info? 30).map (·.size) = some 3 := by kernel_rfl
  obtain ⟨ht, i0, zv, hi0, hzv, hzc, hzs, _, hzb, _⟩ := appT_some (P := Try.prog) (t := 22) (e := 30) (z := 3) (by kernel_rfl)
  have htl : (us.take (k * 3)).length = k * 3 := by rw [List.length_take, hus]; omega
  have hdl : (us.drop (k * 3)).length = (n - k) * 3 := by rw [List.length_drop, hus, Nat.sub_mul]
  have hgs : g < w.heap.size := (Array.getElem?_eq_some_iff.1 hg).1
  have hvw : vb < w.heap.size := by
    cases hvs0 : vs with
    | nil => rw [hvs0] at hvl; simp at hvl
    | cons u r => exact block_lt_of_cell (hvs 0 u (by rw [hvs0]; rfl))
  have hold : (Builtin.firstCells i0.size k (.slice (some ⟨g, 0, none⟩) k c)).run Try.prog w.drew = .ok (us.take (k * 3)).toArray w.drew := by
    rw [hzs]
    exact run_firstCells_some w.drew 3 k ⟨g, 0, none⟩ k c (us.take (k * 3)) htl (fun j v hj => by
      rw [add_plain, Nat.zero_add]
      rw [List.getElem?_take] at hj
      split at hj
      · exact cell_row (w := w.drew) hg htk hj
      · cases hj)
  have hkk : (n : Int) + 1 - (k : Int) = ((n + 1 - k : Nat) : Int) := by omega
  have hik : k + (n + 1 - k) = n + 1 := by omega
  obtain ⟨G, hG⟩ : ∃ G, G = grownCap w (n + 1) c 30 := ⟨_, rfl⟩
  obtain ⟨ROW, hROW⟩ : ∃ ROW : Array Value, ROW = (us.take (k * 3)).toArray ++ Builtin.zeroCells zv.cells (n + 1 - k) ++ Builtin.zeroCells zv.cells (G - (n + 1)) := ⟨_, rfl⟩
  have hGn : n + 1 ≤ G := by rw [hG]; exact grownCap_ge w _ _ _
  have hGm : G ≤ maxLen := by rw [hG]; exact grownCap_le_maxLen w (n + 1) c 30 (by unfold maxLen; omega)
  have hrz : ∀ ty, (Builtin.append_ #[22, 3] ty #[.slice (some ⟨g, 0, none⟩) k c, .int .i64 ((n : Int) + 1 - (k : Int))]).run Try.prog w =
      .ok (.slice (some ⟨w.heap.size, 0, none⟩) (n + 1) G) (w.drew.alloc (.cells ROW 30)) := fun ty => by
    have h := Lib.run_append_grow_zeros (P := Try.prog) w 22 3 ty 30 i0 zv .i64 .i64 ht Try.underlying3 hi0 hzv (some ⟨g, 0, none⟩) k c (us.take (k * 3)) hold (n + 1 - k) (by omega) (by omega) (by omega) (by omega) (by have := Nat.mul_le_mul (show n + 1 - k ≤ 34359738368 by omega) hzb; omega)
      (growslice_fits (by omega) (by rw [hik]; have := Nat.mul_le_mul (show n + 1 ≤ 34359738368 from hn) hzb; omega))
    rw [hik] at h
    rw [hkk, hROW, hG]
    exact h
  have hRl : ROW.size = G * 3 := by
    rw [hROW, Array.size_append, Array.size_append, size_zeroCells, size_zeroCells, hzc, hzs]
    simp only [List.size_toArray, htl]
    omega
  have hR0 : (w.drew.alloc (.cells ROW 30)).heap[w.heap.size]? = some (.cells ROW 30 (0, 0)) := heap_alloc_new w.drew _
  obtain ⟨L1, hL1⟩ : ∃ L1, L1 = ROW.toList.take (k * 3) ++ vs ++ ROW.toList.drop (k * 3 + vs.length) := ⟨_, rfl⟩
  have hRll : ROW.toList.length = G * 3 := by rw [Array.length_toList]; exact hRl
  have hRt : ROW.toList.take (k * 3) = us.take (k * 3) := by
    rw [hROW]
    simp only [Array.toList_append, List.append_assoc]
    rw [List.take_append_of_le_length (by rw [htl]; omega), List.take_of_length_le (by rw [htl]; omega)]
  have hL1l : L1.length = G * 3 := by
    rw [hL1, List.length_append, List.length_append, List.length_take, List.length_drop, hRll, hvl]; omega
  have hcpA : ∀ ty dc, (Builtin.copy_ #[22, 22] ty #[.slice (some ⟨w.heap.size, k * 3, none⟩) (n + 1 - k) dc, .slice (some ⟨vb, vo, none⟩) 1 vc]).run Try.prog (w.drew.alloc (.cells ROW 30)) = .ok (goInt (1 : Nat)) ((w.drew.alloc (.cells ROW 30)).setRow w.heap.size L1.toArray) := fun ty dc => by
    rw [hL1]
    exact run_copy_rowz (P := Try.prog) _ 22 22 ty 30 3 w.heap.size (k * 3) (n + 1 - k) dc ⟨vb, vo, none⟩ 1 vc ROW 30 vs ht hinf hR0 1 (by simp only [Nat.min_def]; split <;> omega) hvl
      (fun j v hj => by rw [add_plain, World.cell?_of_block (heap_alloc_old w.drew _ hvw)]; exact hvs j v hj) (by rw [hvl]; omega) h1v
  obtain ⟨C2, hC2⟩ : ∃ C2 : Array Value, C2 = (L1.take (k * 3 + 3) ++ us.drop (k * 3) ++ L1.drop (k * 3 + 3 + (us.drop (k * 3)).length)).toArray := ⟨_, rfl⟩
  have hcpB : ∀ ty dc sc, (Builtin.copy_ #[22, 22] ty #[.slice (some ⟨w.heap.size, (k + 1) * 3, none⟩) (n - k) dc, .slice (some ⟨g, k * 3, none⟩) (n - k) sc]).run Try.prog ((w.drew.alloc (.cells ROW 30)).setRow w.heap.size L1.toArray).drew = .ok (goInt (n - k : Nat)) (((w.drew.alloc (.cells ROW 30)).setRow w.heap.size L1.toArray).drew.setRow w.heap.size C2) := fun ty dc sc => by
    have := run_copy_rowz (P := Try.prog) ((w.drew.alloc (.cells ROW 30)).setRow w.heap.size L1.toArray).drew 22 22 ty 30 3 w.heap.size ((k + 1) * 3) (n - k) dc ⟨g, k * 3, none⟩ (n - k) sc L1.toArray 30 (us.drop (k * 3)) ht hinf (setRow_heap _ w.heap.size ROW _ _ _ hR0) (n - k) (by simp only [Nat.min_def]; split <;> omega) hdl
      (fun j v hj => by
        rw [add_plain]
        have e : ((w.drew.alloc (.cells ROW 30)).setRow w.heap.size L1.toArray).drew.heap[g]? = some (.cells cur 30 (0, 0)) := by
          show ((w.drew.alloc (.cells ROW 30)).setRow w.heap.size L1.toArray).heap[g]? = _
          rw [setRow_other _ _ _ _ (by omega), heap_alloc_old w.drew _ hgs]; exact hg
        exact cell_row e htk (by rwa [List.getElem?_drop] at hj)) (by rw [hdl]; simp only [List.size_toArray, hL1l]; omega) (fun v hv => h1 v (List.mem_of_mem_drop hv))
    rw [show (k + 1) * 3 = k * 3 + 3 by omega] at this ⊢
    rw [hC2]
    exact this
  have hCs : C2.size = G * 3 := by
    rw [hC2]
    simp only [List.size_toArray]
    rw [List.length_append, List.length_append, hdl, List.length_take, List.length_drop, hL1l]; omega
  have hCt : C2.toList.take ((n + 1) * 3) = us.take (k * 3) ++ vs ++ us.drop (k * 3) := by
    have e1 : L1.take (k * 3 + 3) = us.take (k * 3) ++ vs := by
      rw [hL1, hRt]
      have : (us.take (k * 3) ++ vs).length = k * 3 + 3 := by rw [List.length_append, htl, hvl]
      rw [← this]
      exact List.take_left
    rw [hC2, e1]
    show List.take ((n + 1) * 3) (us.take (k * 3) ++ vs ++ us.drop (k * 3) ++ _) = _
    have hlen : (us.take (k * 3) ++ vs ++ us.drop (k * 3)).length = (n + 1) * 3 := by
      simp only [List.length_append, htl, hdl, hvl]; omega
    rw [← hlen]
    exact List.take_left
  have hfin : ∀ b, b < w.heap.size → (((w.drew.alloc (.cells ROW 30)).setRow w.heap.size L1.toArray).drew.setRow w.heap.size C2).heap[b]? = w.heap[b]? := fun b hb => by
    rw [setRow_other _ _ _ _ (by omega)]
    show ((w.drew.alloc (.cells ROW 30)).setRow w.heap.size L1.toArray).heap[b]? = _
    rw [setRow_other _ _ _ _ (by omega), heap_alloc_old w.drew _ hb]; rfl
  have hnew : (((w.drew.alloc (.cells ROW 30)).setRow w.heap.size L1.toArray).drew.setRow w.heap.size C2).heap[w.heap.size]? = some (.cells C2 30 (0, 0)) := setRow_heap _ _ L1.toArray _ _ _ (setRow_heap _ _ ROW _ _ _ hR0)
  have hsize : w.heap.size ≤ (((w.drew.alloc (.cells ROW 30)).setRow w.heap.size L1.toArray).drew.setRow w.heap.size C2).heap.size := Nat.le_of_lt (Array.getElem?_eq_some_iff.1 hnew).1
  have hw1 : IntKind.i64.wrap ((k : Int) + 1) = (k : Int) + 1 := by rw [IntKind.wrap_i64]; omega
  have hb1 : (0 : Int) ≤ (k : Int) + 1 := by omega
  have hin : k ≤ n := by omega
  have htn : ((k : Int) + 1).toNat = k + 1 := by omega
  have hG63 : G ≤ 9223372036854775807 := by unfold maxLen at hGm; omega
  have hGi : ¬ (G = k) := by omega
  have hGim : ¬ (G = k + 1) := by omega
  have hci : ¬ (c = k) := by omega
  have hb3 : (k : Int) ≤ (n : Int) := by omega
  have mixed : Try.prog.follows .mixedOrders = true := by kernel_rfl
  have hcpA : ∀ ty dc, (Builtin.copy_ #[22, 22] ty #[.slice (some ⟨w.heap.size, k * 3, none⟩) (n + 1 - k) dc, .slice (some ⟨vb, vo, none⟩) 1 vc]).run Try.prog (w.alloc (.cells ROW 30)).drew = .ok (goInt (1 : Nat)) ((w.alloc (.cells ROW 30)).drew.setRow w.heap.size L1.toArray) := hcpA
  have hcpB : ∀ ty dc sc, (Builtin.copy_ #[22, 22] ty #[.slice (some ⟨w.heap.size, (k + 1) * 3, none⟩) (n - k) dc, .slice (some ⟨g, k * 3, none⟩) (n - k) sc]).run Try.prog ((w.alloc (.cells ROW 30)).drew.setRow w.heap.size L1.toArray).drew = .ok (goInt (n - k : Nat)) (((w.alloc (.cells ROW 30)).drew.setRow w.heap.size L1.toArray).drew.setRow w.heap.size C2) := hcpB
  generalize L1.toArray = C1 at hcpA hcpB hfin hnew hsize
  have hfin := hide hfin; have hnew := hide hnew; have hCs := hide hCs; have hCt := hide hCt; have hGm := hide hGm; have hsize := hide hsize
  clear hC2 hL1l hRt hRll hL1 hR0 hRl hROW hG hkk hik hold hvw hgs hdl htl hzb hzs hzc hzv hi0 ht hinf h1v hvs hvl h1 htk hus hg
  go_enter Try.func25, Try.ntmps25
  go_wp2_with (first
    | (at_builtin; refine Lib.wpList_append_run _ rfl _ _ _ _ rfl _ _ rfl rfl _ _ (hrz _) ?_)
    | (at_builtin; refine wpList_copy_runI _ rfl _ _ 22 22 rfl _ _ rfl rfl (hcpA _ _) ?_))
  go_region_law_o (refine step_copy_runI rfl _ _ 22 22 rfl _ _ (by simp [Act.eval, Act.put]) (by simp [Act.eval, Act.put]) (hcpB _ _ _) ?_)
  go_wp2
  go_ret
  exact ⟨G, C2, rfl, hGn, hGm.out, hnew.out, hCs.out, hCt.out, hfin.out, rfl, rfl, rfl, hsize.out⟩
end Go.Proofs.Ytbobfgbjliolmaa

namespace Go.Proofs.Ytbobfgbjliolmaa
open Go.RowKit
set_option linter.unusedVariables false
set_option linter.unusedSimpArgs false
theorem reps.takeC {S : SS} {μ : List Value} {cs : List AV} {us : List Value} (h : reps S μ cs us) (n : Nat) : reps S μ (cs.take n) (us.take n) := by
  refine ⟨by rw [List.length_take, List.length_take, h.1], fun j d u hd hu => ?_⟩
  rw [List.getElem?_take] at hd hu
  split at hd
  · rename_i hj
    rw [if_pos hj] at hu
    exact h.2 j d u hd hu
  · cases hd
theorem reps.dropC {S : SS} {μ : List Value} {cs : List AV} {us : List Value} (h : reps S μ cs us) (n : Nat) : reps S μ (cs.drop n) (us.drop n) := by
  refine ⟨by rw [List.length_drop, List.length_drop, h.1], fun j d u hd hu => ?_⟩
  rw [List.getElem?_drop] at hd hu
  exact h.2 _ d u hd hu
theorem reps.appC {S : SS} {μ : List Value} {cs cs' : List AV} {us us' : List Value} (h : reps S μ cs us) (k : reps S μ cs' us') : reps S μ (cs ++ cs') (us ++ us') := by
  refine ⟨by rw [List.length_append, List.length_append, h.1, k.1], fun j d u hd hu => ?_⟩
  rcases Nat.lt_or_ge j cs.length with hj | hj
  · rw [List.getElem?_append_left hj] at hd
    rw [List.getElem?_append_left (by rw [h.1]; exact hj)] at hu
    exact h.2 j d u hd hu
  · rw [List.getElem?_append_right hj] at hd
    rw [List.getElem?_append_right (by rw [h.1]; exact hj), h.1] at hu
    exact k.2 _ d u hd hu
section
variable {w : World} {S : SS} {μ : List Value} {H : List AObj}
def RowOut (w w' : World) (g : Option Nat) (e : TypeId) (z n : Nat) (cs : List Value) (r : Value) : Prop :=
  ∃ g' c' cur', r = .slice (some ⟨g', 0, none⟩) n c' ∧ n ≤ c' ∧ c' ≤ maxLen ∧ w'.heap[g']? = some (.cells cur' e (0, 0)) ∧ cur'.size = c' * z ∧ cur'.toList.take (n * z) = cs ∧ (g = some g' ∨ w.heap.size ≤ g') ∧
    (∀ b, b < w.heap.size → g ≠ some b → w'.heap[b]? = w.heap[b]?) ∧ w'.os = w.os ∧ w'.tape = w.tape ∧ w'.output = w.output ∧ w.heap.size ≤ w'.heap.size
theorem row_post0 (hr : Rel w S μ H) {i : Nat} {x : Value} {o : AObj} (hx : μ[i]? = some x) (ho : H[i]? = some o) (hk : o.k = 4) {w' : World} {e : TypeId} {z : Nat} {es : List AV} (hz : 0 < z) (hall : allC z es) {cs : List Value} (hcs : reps S [] (flat es) cs) {r : Value}
    (h : RowOut w w' (blkOf x) e z es.length cs r) : CPost w S μ H (Is (SL es) (H.set i ⟨0, o.e, o.z, []⟩)) (.returned r) w' := by
  obtain ⟨g', c', cur', rfl, h1, h2, h3, h4, h5, h6, h7, h8, h9, h10, h11⟩ := h
  have hiH : i < H.length := (List.getElem?_eq_some_iff.1 ho).1
  have hg : ∀ (k : Nat) (o' : AObj), (H.set i ⟨0, o.e, o.z, []⟩)[k]? = some o' → o'.k ≠ 0 → k ≠ i ∧ H[k]? = some o' := by
    intro k o' h hk0
    rcases set_cases h with ⟨rfl, rfl⟩ | ⟨q, h⟩
    · exact absurd rfl hk0
    · exact ⟨q, h⟩
  have hgS : ∀ b j d, blkOf x = some b → ¬ S b j d := fun b j d hb hs => by
    have := (hr.apart i x o b hx ho (by omega) hb j d hs).1
    omega
  let S' : SS := fun b j d => S b j d ∨ (b = g' ∧ (flat es)[j]? = some d)
  have hext : Ext S μ S' μ := ⟨fun _ _ _ q => .inl q, fun k y hy => ⟨y, hy, .inl rfl⟩⟩
  have hext0 : Ext S [] S' [] := ⟨fun _ _ _ q => .inl q, fun k y hy => by simp at hy⟩
  have hfl := flatE_length hall
  have hcl : cs.length = es.length * z := by rw [hcs.1, hfl]
  refine ⟨_, _, _, S', μ, rfl, ⟨rfl, rfl⟩, ⟨by simp [hr.len], fun b j d hs => ?_, fun k y o' hy ho' => ?_, fun k y o' hy ho' => ?_, fun k k' y y' o1 o2 b hy ho1 hk1 hb1 hy' ho2 hk2 hb2 => ?_, fun k y o' b hy ho' hk' hb' j d hs => ?_⟩, ?_, ⟨h8, h9, h10, h11, fun b hb hn => ?_, fun _ _ _ q => .inl q, fun k y _ hy => ⟨y, hy, .inl rfl⟩, fun b j d hs hb => ?_, fun b hb _ => ?_⟩⟩
  · rcases hs with hs | ⟨rfl, hd⟩
    · obtain ⟨u, q1, q2, q3⟩ := hr.still b j d hs
      exact ⟨u, by rw [World.cell?_of_block (h7 b (hr.still_lt hs) fun q => hgS b j d q hs)]; exact q1, q2, q3.ext hext0⟩
    · have hj := (List.getElem?_eq_some_iff.1 hd).1
      have hjc : j < cs.length := by rw [hcs.1]; exact hj
      obtain ⟨q1, q2⟩ := hcs.2 j d _ hd (List.getElem?_eq_getElem hjc)
      exact ⟨_, cell_row h3 h5 (List.getElem?_eq_getElem hjc), q1, q2.ext hext0⟩
  · by_cases hk0 : o'.k = 0
    · exact .inl hk0
    · exact hr.kinds k y o' hy (hg k o' ho' hk0).2
  · by_cases hk0 : o'.k = 0
    · exact objRep.zero hk0
    · obtain ⟨q1, q2⟩ := hg k o' ho' hk0
      refine (hr.objs k y o' hy q2).move hext fun b hb => h7 b (hr.own_lt hy q2 hk0 hb) fun q => ?_
      exact q1 (hr.sep k i y x o' o b hy q2 hk0 hb hx ho (by omega) q)
  · exact hr.sep k k' y y' o1 o2 b hy (hg k o1 ho1 hk1).2 hk1 hb1 hy' (hg k' o2 ho2 hk2).2 hk2 hb2
  · obtain ⟨q1, q2⟩ := hg k o' ho' hk'
    rcases hs with hs | ⟨rfl, hd⟩
    · exact hr.apart k y o' b hy q2 hk' hb' j d hs
    · exfalso
      rcases h6 with h6 | h6
      · exact q1 (hr.sep k i y x o' o b hy q2 hk' hb' hx ho (by omega) h6)
      · have := hr.own_lt hy q2 hk' hb'; omega
  · exact ⟨some ⟨g', 0, none⟩, c', rfl, h1, h2, fun _ => ⟨g', 0, z, rfl, inS_flat hall fun j y hy => .inr ⟨rfl, by simpa using hy⟩⟩⟩
  · refine h7 b hb fun q => hn ⟨i, x, o, hx, ho, by omega, q⟩
  · rcases hs with hs | ⟨rfl, hd⟩
    · exact .inl hs
    · rcases h6 with h6 | h6
      · exact .inr ⟨i, x, o, hx, ho, by omega, h6⟩
      · omega
  · obtain ⟨k, y, o', hy, ho', hk', hb'⟩ := hb
    exact ⟨k, y, o', hy, (hg k o' ho' hk').2, hk', hb'⟩
theorem row_post (hr : Rel w S μ H) {i : Nat} {x : Value} {o : AObj} (hx : μ[i]? = some x) (ho : H[i]? = some o) (hk : o.k = 4) {w' : World} {e : TypeId} {z : Nat} {es : List AV} (hz : 0 < z) (hes : es ≠ []) (hall : allC z es) {cs : List Value} (hcs : reps S [] (flat es) cs) {r : Value}
    (h : RowOut w w' (blkOf x) e z es.length cs r) : CPost w S μ H (Is (SL es) (H.set i ⟨0, o.e, o.z, []⟩)) (.returned r) w' := row_post0 hr hx ho hk hz hall hcs h
theorem row_new (hr : Rel w S μ H) {w' : World} {e : TypeId} {z : Nat} {es : List AV} (hall : allC z es) {cs : List Value} (hcs : reps S [] (flat es) cs) {g c : Nat} {cur : Array Value} (hb : Below w.heap.size w w') (hg : w.heap.size ≤ g) (h1 : es.length ≤ c) (h2 : c ≤ maxLen)
    (h3 : w'.heap[g]? = some (.cells cur e (0, 0))) (h4 : cur.size = c * z) (h5 : cur.toList.take (es.length * z) = cs) : CPost w S μ H (Is (PR H.length es.length) (H ++ [⟨4, e, z, es⟩])) (.returned (.slice (some ⟨g, 0, none⟩) es.length c)) w' := by
  obtain ⟨q1, q2⟩ := hr.grow (S' := S) hb (fun _ _ _ q => q) (fun _ _ _ q => .inl q) (fun b j d q hb' => absurd (hr.still_lt q) (by omega))
  have hbl : ∀ b, blkOf (MR (some ⟨g, 0, none⟩) es.length c) = some b → b = g := by
    intro b hb
    simp only [blkOf] at hb
    split at hb
    · cases hb
    · injection hb with hb; exact hb.symm
  have q3 : Rel w' S (μ ++ [MR (some ⟨g, 0, none⟩) es.length c]) (H ++ [⟨4, e, z, es⟩]) := by
    refine q1.add (.inr (.inr (.inr rfl))) ⟨fun h => by simp at h, fun h => by simp at h, fun _ => ⟨some ⟨g, 0, none⟩, c, rfl, h1, h2, hall, fun _ => ⟨g, cur, rfl, h3, h4, ?_⟩⟩⟩ fun b hb => ?_
    · rw [h5]; exact hcs.free
    · have := hbl b hb
      subst this
      refine ⟨?_, fun j d hs => by have := hr.still_lt hs; omega⟩
      rintro ⟨k, y, o, hy, ho, hk, hb'⟩
      have := hr.own_lt hy ho hk hb'; omega
  refine ⟨_, _, _, S, _, rfl, ⟨rfl, rfl⟩, q3, ⟨some ⟨g, 0, none⟩, c, by rw [← hr.len]; simp, rfl, h1, h2⟩, q2.add hr.len fun b hb => ?_⟩
  have := hbl b hb; omega
end
end Go.Proofs.Ytbobfgbjliolmaa

namespace Go.Proofs.Ytbobfgbjliolmaa
open Go.RowKit
set_option linter.unusedVariables false
set_option linter.unusedSimpArgs false
set_option maxRecDepth 100000
theorem ins_any (A : Option Addr) (n c k vb vo vc : Nat) (us vs : List Value) (w : World) (hk : k ≤ n) (hnc : n ≤ c) (hcm : c ≤ maxLen) (hn : n + 1 ≤ 34359738368)
    (hrow : c ≠ 0 → ∃ g cur, A = some ⟨g, 0, none⟩ ∧ w.heap[g]? = some (.cells cur 30 (0, 0)) ∧ cur.size = c * 3 ∧ cur.toList.take (n * 3) = us ∧ vb ≠ g)
    (hus : us.length = n * 3) (h1 : ∀ u ∈ us, u.oneCell' = true) (hvl : vs.length = 3) (hvs : ∀ j u, vs[j]? = some u → w.cell? ⟨vb, vo + j, none⟩ = some u) (h1v : ∀ u ∈ vs, u.oneCell' = true) :
    Calls Try.prog 25 #[.slice A n c, .int .i64 k, .slice (some ⟨vb, vo, none⟩) 1 vc] w fun e w' => ∃ v, e = .returned v ∧ RowOut w w' (blkOf (MR A n c)) 30 3 (n + 1) (us.take (k * 3) ++ vs ++ us.drop (k * 3)) v := by
  obtain ⟨ht, i0, zv, hi0, hzv, hzc, hzs, _, hzb, _⟩ := appT_some (P := Try.prog) (t := 22) (e := 30) (z := 3) (by kernel_rfl)
  have hmx : (maxLen : Nat) ≤ 9223372036854775807 := by unfold maxLen; omega
  have hvl' : vs.length = 1 * i0.size := by rw [hvl, hzs]
  have hva : ∀ j u, vs[j]? = some u → w.cell? ((⟨vb, vo, none⟩ : Addr).add j) = some u := fun j u hj => by rw [add_plain]; exact hvs j u hj
  have hby : (n + 1) * i0.bytes ≤ 140737488355328 := by have := Nat.mul_le_mul hn hzb; omega
  by_cases hkn : k < n
  · have hc0 : c ≠ 0 := by omega
    obtain ⟨g, cur, rfl, hg, hsz, htk, hne⟩ := hrow hc0
    have hb : blkOf (MR (some ⟨g, 0, none⟩) n c) = some g := by simp only [blkOf]; rw [if_neg hc0]
    rw [hb]
    by_cases hroom : n + 1 ≤ c
    · refine (ins_shift g n c k vb vo vc us vs cur w hkn hroom (Nat.le_trans hcm hmx) hg hsz hus htk h1 hne hvl hvs h1v).mono ?_
      rintro e w' ⟨rfl, cur', rfl, h2, h3⟩
      exact ⟨_, rfl, g, c, cur', rfl, hroom, hcm, setRow_heap w.drew g cur _ _ _ hg, h2, h3, .inl rfl, fun b hb hne => setRow_other w.drew g b _ fun q => hne (by rw [q]), rfl, rfl, rfl, by simp⟩
    · refine (ins_grow g n c k vb vo vc us vs cur w hkn (by omega) hnc hn hg hus htk h1 hvl hvs h1v).mono ?_
      rintro e w' ⟨G, cur', rfl, h2, h3, h4, h5, h6, h7, h8, h9, h10, h11⟩
      exact ⟨_, rfl, w.heap.size, G, cur', rfl, h2, h3, h4, h5, h6, .inr (Nat.le_refl _), fun b hb _ => h7 b hb, h8, h9, h10, h11⟩
  · obtain rfl : k = n := by omega
    have hcells : us.take (k * 3) ++ vs ++ us.drop (k * 3) = us ++ vs := by rw [← hus, List.take_length, List.drop_length, List.append_nil]
    rw [hcells]
    have hnew : ∀ (cs : List Value) (cp : Nat), cs = us → k + 1 ≤ cp → cp ≤ maxLen → (∀ ty, (Builtin.append_ #[22, 22] ty #[.slice A k c, .slice (some ⟨vb, vo, none⟩) 1 vc]).run Try.prog w = .ok (.slice (some ⟨w.heap.size, 0, none⟩) (k + 1) cp) (w.drew.alloc (.cells (cs.toArray ++ vs.toArray ++ Builtin.zeroCells zv.cells (cp - (k + 1))) 30))) →
        (A = none → k = 0 ∧ c = 0) → Calls Try.prog 25 #[.slice A k c, .int .i64 k, .slice (some ⟨vb, vo, none⟩) 1 vc] w fun e w' => ∃ v, e = .returned v ∧ RowOut w w' (blkOf (MR A k c)) 30 3 (k + 1) (us ++ vs) v := by
      rintro cs cp rfl h2 h3 hrun hnil
      refine (ins_end A k c vb vo vc w _ _ hnil hnc hn hrun).mono ?_
      rintro e w' ⟨rfl, rfl⟩
      refine ⟨_, rfl, w.heap.size, cp, _, rfl, h2, h3, heap_alloc_new w.drew _, ?_, ?_, .inr (Nat.le_refl _), fun b hb _ => heap_alloc_old w.drew _ hb, rfl, rfl, rfl, by simp⟩
      · rw [Array.size_append, Array.size_append, size_zeroCells, hzc, hzs]
        simp only [List.size_toArray, hus, hvl]
        omega
      · simp only [Array.toList_append]
        have : (cs ++ vs).length = (k + 1) * 3 := by rw [List.length_append, hus, hvl]; omega
        rw [← this]
        exact List.take_left
    by_cases hc0 : c = 0
    · have hk0 : k = 0 := by omega
      subst hk0 hc0
      have hu0 : us = [] := List.eq_nil_of_length_eq_zero (by omega)
      cases A with
      | none =>
        refine hnew [] (grownCap w 1 0 30) hu0.symm (grownCap_ge w 1 0 _) (grownCap_le_maxLen w 1 0 _ (by unfold maxLen; omega)) (fun ty => ?_) fun _ => ⟨rfl, rfl⟩
        have := run_append_nil (P := Try.prog) w 22 ty 30 i0 zv ht hi0 hzv ⟨vb, vo, none⟩ 1 vc vs hvl' hva (by omega) (by omega) (by omega)
        simpa using this
      | some ad =>
        refine hnew [] (grownCap w 1 0 30) hu0.symm (grownCap_ge w 1 0 _) (grownCap_le_maxLen w 1 0 _ (by unfold maxLen; omega)) (fun ty => ?_) fun q => by cases q
        have := run_append_grow (P := Try.prog) w 22 ty 30 i0 zv ht hi0 hzv ad 0 0 [] (by simp) (fun j u hj => by simp at hj) ⟨vb, vo, none⟩ 1 vc vs hvl' hva (by omega) (by omega) (growslice_fits (by omega) (by omega))
        simpa using this
    · obtain ⟨g, cur, rfl, hg, hsz, htk, hne⟩ := hrow hc0
      have hb : blkOf (MR (some ⟨g, 0, none⟩) k c) = some g := by simp only [blkOf]; rw [if_neg hc0]
      have hrd : ∀ j u, us[j]? = some u → w.cell? ((⟨g, 0, none⟩ : Addr).add j) = some u := fun j u hj => by rw [add_plain, Nat.zero_add]; exact cell_row hg htk hj
      by_cases hroom : k + 1 ≤ c
      · have hrun : ∀ ty, (Builtin.append_ #[22, 22] ty #[.slice (some ⟨g, 0, none⟩) k c, .slice (some ⟨vb, vo, none⟩) 1 vc]).run Try.prog w = .ok (.slice (some ⟨g, 0, none⟩) (k + 1) c) (w.setRow g (cur.toList.take (k * 3) ++ vs ++ cur.toList.drop (k * 3 + vs.length)).toArray) := fun ty => by
          have := run_append_room (P := Try.prog) w 22 ty 30 i0 ht hi0 g k c cur hg ⟨vb, vo, none⟩ 1 vc vs hvl' hva h1v hroom (by rw [hvl, hzs]; omega)
          rw [hzs] at this
          exact this
        refine (ins_end _ k c vb vo vc w _ _ (fun q => by cases q) hnc hn hrun).mono ?_
        rintro e w' ⟨rfl, rfl⟩
        rw [hb]
        have hll : cur.toList.length = c * 3 := by rw [Array.length_toList]; exact hsz
        refine ⟨_, rfl, g, c, _, rfl, hroom, hcm, setRow_heap w g cur _ _ _ hg, ?_, ?_, .inl rfl, fun b hb hne => setRow_other w g b _ fun q => hne (by rw [q]), rfl, rfl, rfl, by simp⟩
        · simp only [List.size_toArray, List.length_append, List.length_take, List.length_drop, hll, hvl]
          omega
        · rw [htk]
          show List.take _ (us ++ vs ++ _) = _
          have : (us ++ vs).length = (k + 1) * 3 := by rw [List.length_append, hus, hvl]; omega
          rw [← this]
          exact List.take_left
      · refine hnew us (grownCap w (k + 1) c 30) rfl (grownCap_ge w (k + 1) c _) (grownCap_le_maxLen w (k + 1) c _ (by unfold maxLen; omega)) (fun ty => ?_) fun q => by cases q
        exact run_append_grow (P := Try.prog) w 22 ty 30 i0 zv ht hi0 hzv ⟨g, 0, none⟩ k c us (by rw [hus, hzs]) hrd ⟨vb, vo, none⟩ 1 vc vs hvl' hva (by omega) (by omega) (growslice_fits (by omega) hby)
theorem ins_ac {i : Nat} {H : List AObj} {es : List AV} {x : AV} {k : Nat} (ho : H[i]? = some ⟨4, 30, 3, es⟩) (hk : k ≤ es.length) (hn : es.length + 1 ≤ 34359738368) (hlt : es.all (ltA 0) = true) (hx : (cellsOf x).length = 3) :
    AC Try.prog GG 25 [PR i es.length, nA (k : Int), SL [x]] H (Is (SL (es.take k ++ x :: es.drop k)) (H.set i ⟨0, 30, 3, []⟩)) := by
  refine ⟨by kernel_rfl, fun w S μ vs hr hg hl hv => ?_⟩
  obtain ⟨v0, v1, v2, rfl⟩ : ∃ v0 v1 v2, vs = [v0, v1, v2] := by
    match vs, hl with
    | [a, b, c], _ => exact ⟨a, b, c, rfl⟩
  obtain ⟨A, c, hμ, rfl, hnc, hcm⟩ := hv 0 _ _ rfl rfl
  obtain ⟨rfl, _⟩ := hv 1 _ _ rfl rfl
  obtain ⟨A2, c2, rfl, hc2, hcm2, hS⟩ := hv 2 _ _ rfl rfl
  obtain ⟨vb, vo, z, rfl, hin⟩ := hS (by simp)
  have hz : z = 3 := by rw [← hx]; exact (hin 0 x rfl).1.symm
  subst hz
  obtain ⟨A3, c3, e3, _, _, hall, hc⟩ := (hr.objs i _ _ hμ ho).2.2 rfl
  have e4 : A = A3 ∧ c = c3 := by
    simp only [Value.tuple.injEq, Array.mk.injEq, List.cons.injEq, Value.slice.injEq, and_true] at e3
    exact ⟨e3.1, e3.2.2⟩
  obtain ⟨rfl, rfl⟩ := e4
  obtain ⟨vs, hvr, hvc⟩ := still_cells hr (cs := cellsOf x) fun j y hy => by
    have := flat_S hin j y (by simpa [flat] using hy)
    exact this
  have hvl : vs.length = 3 := by rw [hvr.1, hx]
  have h1v : ∀ u ∈ vs, u.oneCell' = true := by
    intro u hu
    obtain ⟨j, hj⟩ := List.getElem?_of_mem hu
    have hlt : j < (cellsOf x).length := by rw [← hvr.1]; exact (List.getElem?_eq_some_iff.1 hj).1
    exact (hvr.2 j _ u (List.getElem?_eq_getElem hlt) hj).1
  have hfl := flatE_length hall
  obtain ⟨us, hur, hrow⟩ : ∃ us, reps S [] (flat es) us ∧ (c ≠ 0 → ∃ g cur, A = some ⟨g, 0, none⟩ ∧ w.heap[g]? = some (.cells cur 30 (0, 0)) ∧ cur.size = c * 3 ∧ cur.toList.take (es.length * 3) = us ∧ vb ≠ g) := by
    by_cases hc0 : c = 0
    · have : es = [] := List.eq_nil_of_length_eq_zero (by omega)
      subst this
      exact ⟨[], ⟨rfl, fun j d u hd => by simp [flat] at hd⟩, fun q => absurd hc0 q⟩
    · obtain ⟨b, cs, rfl, h5, h6, h7⟩ := hc hc0
      refine ⟨cs.toList.take (es.length * 3), ⟨h7.1, fun j d u hd hu => ⟨(h7.2 j d u hd hu).1, ?_⟩⟩, fun _ => ⟨b, cs, rfl, h5, h6, rfl, fun q => ?_⟩⟩
      · have hm : lt1 0 d = true := by
          obtain ⟨e, he, hy⟩ := List.mem_flatMap.1 (List.mem_of_getElem? hd)
          exact cells_lt (List.all_eq_true.1 hlt e he) hy
        have := (h7.2 j d u hd hu).2.take hm
        rwa [List.take_zero] at this
      · subst q
        have h0 : 0 < (cellsOf x).length := by omega
        have hs := (hin 0 x rfl).2 0 _ (List.getElem?_eq_getElem h0)
        have hbk : blkOf (MR (some ⟨vb, 0, none⟩) es.length c) = some vb := by simp only [blkOf]; rw [if_neg hc0]
        have := (hr.apart i _ _ vb hμ ho (by simp) hbk _ _ hs).1
        simp at this
  have hul : us.length = es.length * 3 := by rw [hur.1, hfl]
  have h1 : ∀ u ∈ us, u.oneCell' = true := by
    intro u hu
    obtain ⟨j, hj⟩ := List.getElem?_of_mem hu
    have hlt : j < (flat es).length := by rw [← hur.1]; exact (List.getElem?_eq_some_iff.1 hj).1
    exact (hur.2 j _ u (List.getElem?_eq_getElem hlt) hj).1
  refine (ins_any A es.length c k vb vo c2 us vs w hk hnc hcm hn hrow hul h1 hvl (fun j u hj => by have := hvc j u hj; rwa [add_plain] at this) h1v).mono ?_
  rintro e w' ⟨v, rfl, hout⟩
  have hall' : allC 3 (es.take k ++ x :: es.drop k) := by
    intro d hd
    rcases List.mem_append.1 hd with h | h
    · exact hall d (List.mem_of_mem_take h)
    · rcases List.mem_cons.1 h with rfl | h
      · exact hx
      · exact hall d (List.mem_of_mem_drop h)
  have hf1 : flat (es.take k) = (flat es).take (k * 3) := by
    have h2 : flat es = flat (es.take k) ++ flat (es.drop k) := by rw [← flat_append, List.take_append_drop]
    have h3 : (flat (es.take k)).length = k * 3 := by rw [flatE_length (fun d hd => hall d (List.mem_of_mem_take hd)), List.length_take, Nat.min_eq_left hk]
    rw [h2, ← h3]
    exact List.take_left.symm
  have hf2 : flat (es.drop k) = (flat es).drop (k * 3) := by
    have h2 : flat es = flat (es.take k) ++ flat (es.drop k) := by rw [← flat_append, List.take_append_drop]
    have h3 : (flat (es.take k)).length = k * 3 := by rw [flatE_length (fun d hd => hall d (List.mem_of_mem_take hd)), List.length_take, Nat.min_eq_left hk]
    rw [h2, ← h3]
    exact List.drop_left.symm
  have hcells : reps S [] (flat (es.take k ++ x :: es.drop k)) (us.take (k * 3) ++ vs ++ us.drop (k * 3)) := by
    have e : flat (es.take k ++ x :: es.drop k) = (flat es).take (k * 3) ++ cellsOf x ++ (flat es).drop (k * 3) := by
      rw [flat_append, hf1, ← hf2]
      simp [flat, List.append_assoc]
    rw [e]
    exact (hur.takeC (k * 3)).appC hvr |>.appC (hur.dropC (k * 3))
  have hlen : (es.take k ++ x :: es.drop k).length = es.length + 1 := by
    rw [List.length_append, List.length_cons, List.length_take, List.length_drop]; omega
  rw [← hlen] at hout
  exact row_post hr hμ ho rfl (by omega) (by simp) hall' hcells hout
noncomputable def slices_Insert_Mark_t (m : Nat) : List AV → List AObj → RO
  | [.slice [] [.held (.inr (.inl (i, n)))], .held (.inl (.int .i64 k)), .slice [x] []], H => (match H[i]? with
    | some o => whenE (decide (o.k = 4) && decide (o.e = 30) && decide (o.z = 3) && decide (n = o.c.length) && decide (0 ≤ k) && decide (k ≤ n) && decide (n + 1 ≤ 34359738368) && o.c.all (ltA 0) && decide ((cellsOf x).length = 3)) (some (SL (o.c.take k.toNat ++ x :: o.c.drop k.toNat), H.set i ⟨0, 30, 3, []⟩))
    | none => none)
  | _, _ => none
theorem slices_Insert_Mark_ok (m : Nat) : ∀ args H X H', slices_Insert_Mark_t m args H = some (X, H') → AC Try.prog GG 25 args H (Is X H') := by
  intro args H X H' h
  unfold slices_Insert_Mark_t at h
  split at h
  · rename_i i n k x
    split at h
    · rename_i o ho
      obtain ⟨h1, h2⟩ := whenE_some h
      simp only [Bool.and_eq_true, decide_eq_true_eq] at h1
      obtain ⟨⟨⟨⟨⟨⟨⟨⟨q1, q2⟩, q3⟩, q4⟩, q5⟩, q6⟩, q7⟩, q8⟩, q9⟩ := h1
      obtain ⟨ok, oe, oz, oc⟩ := o
      dsimp only at q1 q2 q3 q4 q8 h2
      subst q1 q2 q3 q4
      obtain ⟨kn, rfl⟩ : ∃ kn : Nat, k = kn := ⟨k.toNat, by omega⟩
      cases h2
      exact ins_ac ho (by omega) q7 q8 q9
    · cases h
  · cases h
theorem slices_Insert_Mark_e (m : Nat) {i : Nat} {H : List AObj} {es : List AV} {x : AV} {k : Nat} (ho : H[i]? = some ⟨4, 30, 3, es⟩) (hk : k ≤ es.length) (hn : es.length + 1 ≤ 34359738368) (hlt : es.all (ltA 0) = true) (hx : (cellsOf x).length = 3) :
    slices_Insert_Mark_t m [PR i es.length, nA (k : Int), SL [x]] H = some (SL (es.take k ++ x :: es.drop k), H.set i ⟨0, 30, 3, []⟩) := by
  show (match H[i]? with | some o => _ | none => none) = _
  rw [ho]
  dsimp only
  have hk' : (k : Int) ≤ (es.length : Int) := by omega
  have h0 : (0 : Int) ≤ (k : Int) := by omega
  simp [whenE, hk', hn, hlt, hx]
theorem clone4_cons (x : AV) (es : List AV) (H : List AObj) (hz : allCE 3 (x :: es) = true) (hl : (x :: es).length ≤ 34359738368) :
    AC Try.prog GG 26 [SL (x :: es)] H (Is (PR H.length (x :: es).length) (H ++ [⟨4, 30, 3, x :: es⟩])) := by
  refine ⟨by kernel_rfl, fun w S μ vs hr hg hl' hv => ?_⟩
  obtain ⟨v, rfl⟩ : ∃ v, vs = [v] := by
    match vs, hl' with
    | [v], _ => exact ⟨v, rfl⟩
  have hall : allC 3 (x :: es) := fun d hd => by
    have := List.all_eq_true.1 hz d hd
    simpa using this
  generalize hE : x :: es = l at *
  have hne : l ≠ [] := by rw [← hE]; simp
  have hpos : 0 < l.length := List.length_pos_iff.2 hne
  obtain ⟨A, c, rfl, hc1, hc2, hS⟩ := hv 0 _ _ rfl rfl
  obtain ⟨b, o, z, rfl, hin⟩ := hS hne
  have hz7 : z = 3 := by
    obtain ⟨d, hd⟩ := List.exists_mem_of_length_pos (List.length_pos_iff.2 hne)
    rw [← hin.allC d hd, hall d hd]
  subst hz7
  obtain ⟨news, hnr, hnc⟩ := still_cells hr (cs := flat l) fun j y hy => flat_S hin j y hy
  have hnl : news.length = l.length * 3 := by rw [hnr.1, flatE_length hall]
  have hbw : b < w.heap.size := by
    have h0 : 0 < (flat l).length := by rw [flatE_length hall]; omega
    exact hr.still_lt (flat_S hin 0 _ (List.getElem?_eq_getElem h0))
  obtain ⟨ht, i0, zv, hi0, hzv, hzc, hzs, _, hzb, _⟩ := appT_some (P := Try.prog) (t := 22) (e := 30) (z := 3) (by kernel_rfl)
  have hrun : ∀ (o0 : Obj) ty, (Builtin.append_ #[22, 22] ty #[.slice (some ⟨w.heap.size, 0, none⟩) 0 0, .slice (some ⟨b, o, none⟩) l.length c]).run Try.prog (w.alloc o0) = .ok (.slice (some ⟨w.heap.size + 1, 0, none⟩) l.length (grownCap (w.alloc o0) l.length 0 30)) ((w.alloc o0).drew.alloc (.cells (news.toArray ++ Builtin.zeroCells zv.cells (grownCap (w.alloc o0) l.length 0 30 - l.length)) 30)) := fun o0 ty => by
    have := run_append_grow (P := Try.prog) (w.alloc o0) 22 ty 30 i0 zv ht hi0 hzv ⟨w.heap.size, 0, none⟩ 0 0 [] (by simp) (fun j u hj => by simp at hj) ⟨b, o, none⟩ l.length c news (by rw [hnl, hzs]) (fun j u hj => by
      rw [add_plain, World.cell?_of_block (heap_alloc_old w _ hbw)]
      have := hnc j u hj
      rwa [add_plain] at this) (by omega) (by omega) (growslice_fits (by omega) (by rw [Nat.zero_add]; have := Nat.mul_le_mul hl hzb; omega))
    simpa using this
  have hq : ∀ w, (binOp .eql 22 (.slice (some ⟨b, o, none⟩) l.length c) (.slice none 0 0)).run Try.prog w = .ok (.bool false) w := fun w => by
    simp only [binOp]
    rw [Sem.run_bind, run_equal_slice_nil (P := Try.prog) w _ _ (some ⟨b, o, none⟩) l.length c Try.underlying22]
    rfl
  have hfin : ∀ o0, CPost w S μ H (Is (PR H.length l.length) (H ++ [⟨4, 30, 3, l⟩])) (.returned (.slice (some ⟨w.heap.size + 1, 0, none⟩) l.length (grownCap (w.alloc o0) l.length 0 30))) ((w.alloc o0).drew.alloc (.cells (news.toArray ++ Builtin.zeroCells zv.cells (grownCap (w.alloc o0) l.length 0 30 - l.length)) 30)) := fun o0 => by
    refine row_new hr hall hnr ((((Below.refl _ w).alloc (Nat.le_refl _) o0).drew).alloc (by simp) _) (by omega) (grownCap_ge _ l.length 0 _) (grownCap_le_maxLen _ l.length 0 _ (by unfold maxLen; omega)) (cur := (news.toArray ++ Builtin.zeroCells zv.cells (grownCap (w.alloc o0) l.length 0 30 - l.length))) ?_ ?_ ?_
    · have := heap_alloc_new (w.alloc o0).drew (.cells (news.toArray ++ Builtin.zeroCells zv.cells (grownCap (w.alloc o0) l.length 0 30 - l.length)) 30)
      simpa using this
    · have := grownCap_ge (w.alloc o0) l.length 0 30
      rw [Array.size_append, size_zeroCells, hzc, hzs]
      simp only [List.size_toArray, hnl]
      omega
    · simp only [Array.toList_append]
      rw [← hnl]
      exact List.take_left
  have hrun := hrun (.cells #[] 30)
  have hfin := hfin (.cells #[] 30)
  generalize (news.toArray ++ Builtin.zeroCells zv.cells (grownCap (w.alloc (.cells #[] 30)) l.length 0 30 - l.length)) = ROW at hrun hfin
  clear hnr hnc hnl hzv hzc hzs hzb hi0 ht hin hS hE hall hz hv hr hg
  go_enter Try.func26, Try.ntmps26
  go_wp2_with (at_builtin; refine Lib.wpList_append_run _ rfl _ _ _ _ rfl _ _ rfl rfl _ _ (hrun _) ?_)
  go_ret
  exact hfin
theorem clone4_nil (H : List AObj) : AC Try.prog GG 26 [SL []] H (Is (PR H.length 0) (H ++ [⟨4, 30, 3, []⟩])) := by
  refine ⟨by kernel_rfl, fun w S μ vs hr hg hl hv => ?_⟩
  obtain ⟨v, rfl⟩ : ∃ v, vs = [v] := by
    match vs, hl with
    | [v], _ => exact ⟨v, rfl⟩
  obtain ⟨A, c, rfl, _, _, _⟩ := hv 0 _ _ rfl rfl
  have fin : ∀ A' w', Below w.heap.size w w' → CPost w S μ H (Is (PR H.length 0) (H ++ [⟨4, 30, 3, []⟩])) (.returned (.slice A' 0 0)) w' := by
    intro A' w' hb
    have hbl : blkOf (MR A' 0 0) = none := by cases A' <;> simp [blkOf]
    obtain ⟨h1, h2⟩ := hr.grow (S' := S) hb (fun _ _ _ q => q) (fun _ _ _ q => .inl q) (fun b j d q hb' => absurd (hr.still_lt q) (by omega))
    have h3 : Rel w' S (μ ++ [MR A' 0 0]) (H ++ [⟨4, 30, 3, []⟩]) := by
      refine h1.add (.inr (.inr (.inr rfl))) ⟨fun h => by simp at h, fun h => by simp at h, fun _ => ⟨A', 0, rfl, Nat.le_refl _, Nat.zero_le _, fun d hd => by simp at hd, fun q => absurd rfl q⟩⟩ fun b hb => ?_
      rw [hbl] at hb; cases hb
    refine ⟨_, _, _, S, _, rfl, ⟨rfl, rfl⟩, h3, ⟨A', 0, by rw [← hr.len]; simp, rfl, Nat.le_refl _, Nat.zero_le _⟩, h2.add hr.len fun b hb => ?_⟩
    rw [hbl] at hb; cases hb
  cases A with
  | none =>
    have hq : ∀ w, (binOp .eql 22 (.slice none 0 c) (.slice none 0 0)).run Try.prog w = .ok (.bool true) w := fun w => by
      simp only [binOp]
      rw [Sem.run_bind, run_equal_slice_nil (P := Try.prog) w _ _ none 0 c Try.underlying22]
      rfl
    go_enter Try.func26, Try.ntmps26
    go_wp2
    go_ret
    exact fin none _ (Below.refl _ _)
  | some a =>
    have hq : ∀ w, (binOp .eql 22 (.slice (some a) 0 c) (.slice none 0 0)).run Try.prog w = .ok (.bool false) w := fun w => by
      simp only [binOp]
      rw [Sem.run_bind, run_equal_slice_nil (P := Try.prog) w _ _ (some a) 0 c Try.underlying22]
      rfl
    go_enter Try.func26, Try.ntmps26
    go_wp2
    go_ret
    exact fin _ _ ((Below.refl _ w).alloc (Nat.le_refl _) _)
noncomputable def slices_Clone_Mark_t (m : Nat) : List AV → Nat → RO
  | [.slice es []], n => whenE (allCE 3 es && decide (es.length ≤ 34359738368)) (some (PR n es.length, [⟨4, 30, 3, es⟩]))
  | _, _ => none
theorem slices_Clone_Mark_ok (m : Nat) : ∀ args H X Y, slices_Clone_Mark_t m args H.length = some (X, Y) → AC Try.prog GG 26 args H (Is X (H ++ Y)) := by
  intro args H X Y h
  unfold slices_Clone_Mark_t at h
  split at h
  · rename_i es
    obtain ⟨h1, h2⟩ := whenE_some h
    rw [Bool.and_eq_true, decide_eq_true_eq] at h1
    cases h2
    cases es with
    | nil => exact clone4_nil H
    | cons x es => exact clone4_cons x es H h1.1 h1.2
  · cases h
theorem slices_Clone_Mark_e (m n : Nat) (es : List AV) (hz : allCE 3 es = true) (hl : es.length ≤ 34359738368) : slices_Clone_Mark_t m [SL es] n = some (PR n es.length, [⟨4, 30, 3, es⟩]) := by
  show whenE (allCE 3 es && decide (es.length ≤ 34359738368)) _ = _
  rw [hz, show decide (es.length ≤ 34359738368) = true by simpa using hl]
  rfl
end Go.Proofs.Ytbobfgbjliolmaa

namespace Go.Proofs.Ytbobfgbjliolmaa
open Go.RowKit
set_option linter.unusedVariables false
set_option linter.unusedSimpArgs false
set_option maxRecDepth 100000
theorem run_clear_z {P : Program} (w : World) (t e ty : TypeId) (z : Nat) (ht : appT P t = some (e, z)) (b o n c : Nat) (cur : Array Value) (t' : TypeId) (hn : 0 < n) (hg : w.heap[b]? = some (.cells cur t' (0, 0))) (hfit : o + n * z ≤ cur.size) :
    ∃ cs : List Value, cs.length = n * z ∧ (Builtin.clear_ #[t] ty #[.slice (some ⟨b, o, none⟩) n c]).run P w = .ok (.tuple #[]) (w.setRow b (cur.toList.take o ++ cs ++ cur.toList.drop (o + cs.length)).toArray) := by
  obtain ⟨hu, i0, zv, hi0, hzv, hzc, hzs, _, _, hall⟩ := appT_some ht
  have hl : (Builtin.zeroCells zv.cells n).toList.length = n * z := by rw [Array.length_toList, size_zeroCells, hzc, hzs]
  have h1 : ∀ v ∈ (Builtin.zeroCells zv.cells n).toList, v.oneCell' = true := by
    intro v hv
    simp only [Builtin.zeroCells, Array.toList_map, List.mem_map, Array.toList_range, List.mem_range] at hv
    obtain ⟨i, hi, rfl⟩ := hv
    have hpos : 0 < zv.cells.size := by
      rcases Nat.eq_zero_or_pos zv.cells.size with q | q
      · rw [q, Nat.mul_zero] at hi; omega
      · exact q
    have hm : i % zv.cells.size < zv.cells.size := Nat.mod_lt _ hpos
    rw [getElem!_pos zv.cells (i % zv.cells.size) hm]
    exact Array.all_eq_true.1 hall _ hm
  have hst := run_storeCells_at P b o t' (Builtin.zeroCells zv.cells n).toList 0 cur w hg (by rw [hl]; simpa using hfit) h1
  refine ⟨_, hl, ?_⟩
  obtain ⟨m, rfl⟩ : ∃ m, n = m + 1 := ⟨n - 1, by omega⟩
  simp only [Nat.add_zero] at hst
  simp [Builtin.clear_, run_underlying hu, zeroValue, typeInfo, hi0, hzv, hst]
theorem wpList_val {P : Program} {ops : Array Oper} {Q : Exit → Act → World → Prop} {o : Oper} {rest : List Oper} {a : Act} {w w' : World} {u : Value} (hg : o.guard = none) (hrun : (execOp a.eval o).run P w = .ok (.value u) w') (h : wpList P ops Q rest (a.put o.dst u) w') : wpList P ops Q (o :: rest) a w := by
  unfold wpList
  rw [if_pos (by simp [Region.wanted, hg])]
  refine .inl ?_
  unfold Oper.wp
  rw [hrun]
  exact h
theorem put_get {a : Act} {i j : Nat} {u : Value} (hi : i < a.tmps.size) : (a.put (some i) u).tmps.getD j undef = if j = i then u else a.tmps.getD j undef := by
  by_cases e : j = i
  · rw [if_pos e, e]; exact getD_put_same a i u hi
  · rw [if_neg e]; exact getD_put_other a i j u e
theorem put_size {a : Act} {i : Option Tmp} {u : Value} : (a.put i u).tmps.size = a.tmps.size := by cases i <;> simp [Act.put]
theorem put_def {a : Act} {i : Option Tmp} {u : Value} : (a.put i u).defers = a.defers := by cases i <;> simp [Act.put]
theorem ev_put {a : Act} {i j : Nat} {u : Value} (hi : i < a.tmps.size) : (a.put (some i) u).eval (.tmp j) = if j = i then u else a.eval (.tmp j) := put_get hi
theorem run_mv {P : Program} {a : Act} {w : World} {d : Option Tmp} {x : Operand} {t : TypeId} {p : String} {es : Array Edge} {g : Option (Nat × Bool)} : (execOp a.eval ⟨d, .move x, t, p, es, g⟩).run P w = .ok (.value (a.eval x)) w := rfl
theorem run_as {P : Program} {a : Act} {w : World} {d : Option Tmp} {x : Operand} {t : TypeId} {p : String} {es : Array Edge} {g : Option (Nat × Bool)} : (execOp a.eval ⟨d, .assign x, t, p, es, g⟩).run P w = .ok (.value (a.eval x)) w := rfl
theorem run_sl {P : Program} {a : Act} {w : World} {d : Option Tmp} {x : Operand} {lo hi : Option Operand} {tt t : TypeId} {p : String} {es : Array Edge} {g : Option (Nat × Bool)} {v : Value} (h : (Instr.sliceAt tt (a.eval x) (lo.map a.eval) (hi.map a.eval) none).run P w = .ok v w) :
    (execOp a.eval ⟨d, .slice tt x lo hi none, t, p, es, g⟩).run P w = .ok (.value v) w := by
  unfold execOp
  simp only [Option.map_none, Sem.run_bind, h, Result.andThen_ok, Sem.run_pure]
theorem run_cl {P : Program} {a : Act} {w w' : World} {d : Option Tmp} {x : Operand} {tt t : TypeId} {p : String} {es : Array Edge} {g : Option (Nat × Bool)} {v : Value} (h : (Builtin.clear_ #[tt] t #[a.eval x]).run P w = .ok v w') :
    (execOp a.eval ⟨d, .call ⟨.builtin .clear, #[x], #[tt]⟩, t, p, es, g⟩).run P w = .ok (.value v) w' := by
  unfold execOp
  simp only [resolve, invoke, builtin, Sem.run_bind, Sem.run_pure, Result.andThen_ok, List.map_toArray, List.map_cons, List.map_nil, h]
theorem awp_tail {n : Nat} {i k : Nat} {H : List AObj} {T : Tm} {es : List AV} {Q : Exit → ASt → Prop} (ho : H[i]? = some ⟨4, 30, 3, es⟩) (hlt : es.all (ltA 0) = true) (h0 : get T 0 = PR i es.length) (h5 : get T 5 = nA (k : Int)) (hk : k < es.length) (hn : n ≤ H.length)
    (hQ : Q .ret ⟨H.set i ⟨0, 30, 3, []⟩, [(4, SL (es.take k))]⟩) : AWp Try.prog GG 42 n (endC 4 ((Try.f37.body).getD .skip)) Q ⟨H, T⟩ := by
  have e : endC 4 ((Try.f37.body).getD .skip) = .seq (.region 11 ([(Go.Oper.mk (Option.some 36) (Go.Op.move (Go.Operand.tmp 0)) 22 "slices.go:253" #[] Option.none), (Go.Oper.mk (Option.some 37) (Go.Op.move (Go.Operand.tmp 5)) 3 "slices.go:253" #[] Option.none), (Go.Oper.mk (Option.some 38) (Go.Op.slice 22 (Go.Operand.tmp 36) (Option.some (Go.Operand.tmp 37)) Option.none Option.none) 22 "slices.go:253" #[(Go.Edge.mk 0 Go.Ground.data), (Go.Edge.mk 1 Go.Ground.data)] Option.none), (Go.Oper.mk Option.none (Go.Op.call (Go.Call.mk (Go.Callee.builtin Go.Builtin.clear) #[(Go.Operand.tmp 38)] #[22])) 0 "slices.go:253" #[(Go.Edge.mk 2 Go.Ground.data)] Option.none)] : List Oper).toArray false) (.seq (.region 12 ([(Go.Oper.mk (Option.some 39) (Go.Op.move (Go.Operand.tmp 0)) 22 "slices.go:254" #[] Option.none), (Go.Oper.mk (Option.some 40) (Go.Op.move (Go.Operand.tmp 5)) 3 "slices.go:254" #[] Option.none), (Go.Oper.mk (Option.some 41) (Go.Op.slice 22 (Go.Operand.tmp 39) Option.none (Option.some (Go.Operand.tmp 40)) Option.none) 22 "slices.go:254" #[(Go.Edge.mk 0 Go.Ground.data), (Go.Edge.mk 1 Go.Ground.data)] Option.none), (Go.Oper.mk (Option.some 4) (Go.Op.assign (Go.Operand.tmp 41)) 22 "slices.go:254" #[(Go.Edge.mk 2 Go.Ground.data), (Go.Edge.mk 0 Go.Ground.phase), (Go.Edge.mk 1 Go.Ground.phase), (Go.Edge.mk 2 Go.Ground.phase)] Option.none)] : List Oper).toArray false) .ret) := by kernel_rfl
  rw [e]
  clear e
  intro w S μ a hr hf hg
  obtain ⟨A, c, hμ, hv0, hnc, hcm⟩ := (by have := hf.slot 0; rw [h0] at this; exact this : rep S μ (PR i es.length) (a.tmps.getD 0 undef))
  have hv5 : a.tmps.getD 5 undef = .int .i64 (k : Int) := by have := hf.slot 5; rw [h5] at this; exact this.1
  obtain ⟨A3, c3, e3, _, _, hall, hc⟩ := (hr.objs i _ _ hμ ho).2.2 rfl
  have e4 : A = A3 ∧ c = c3 := by
    simp only [Value.tuple.injEq, Array.mk.injEq, List.cons.injEq, Value.slice.injEq, and_true] at e3
    exact ⟨e3.1, e3.2.2⟩
  obtain ⟨rfl, rfl⟩ := e4
  have hc0 : c ≠ 0 := by omega
  obtain ⟨b, cur, rfl, hgb, hcs, hcr⟩ := hc hc0
  have hsz : a.tmps.size = 42 := hf.size
  have hdf : a.defers = [] := hf.nodef
  have hfl := flatE_length hall
  dsimp only at hgb hcs hcr hall hfl
  obtain ⟨cs, hcl, hrun⟩ := run_clear_z (P := Try.prog) w 22 30 0 3 (by kernel_rfl) b (k * 3) (es.length - k) (c - k) cur _ (by omega) hgb (by rw [hcs, Nat.sub_mul]; have := Nat.mul_le_mul_right 3 hnc; omega)
  obtain ⟨v0, hv⟩ : ∃ v0, v0 = Value.slice (some ⟨b, 0, none⟩) es.length c := ⟨_, rfl⟩
  rw [← hv] at hv0
  have e0 : a.eval (.tmp 0) = v0 := hv0
  have e5 : a.eval (.tmp 5) = .int .i64 (k : Int) := hv5
  obtain ⟨W1, hW1⟩ : ∃ W1, W1 = w.setRow b (cur.toList.take (k * 3) ++ cs ++ cur.toList.drop (k * 3 + cs.length)).toArray := ⟨_, rfl⟩
  rw [← hW1] at hrun
  have hbk : blkOf (MR (some ⟨b, 0, none⟩) es.length c) = some b := by simp only [blkOf]; rw [if_neg hc0]
  have hll : cur.toList.length = c * 3 := by rw [Array.length_toList]; exact hcs
  have hkc : k * 3 ≤ c * 3 := Nat.mul_le_mul_right 3 (by omega)
  have hke : k * 3 ≤ es.length * 3 := Nat.mul_le_mul_right 3 (by omega)
  have hec : es.length * 3 ≤ c * 3 := Nat.mul_le_mul_right 3 hnc
  have hsub : (es.length - k) * 3 = es.length * 3 - k * 3 := Nat.sub_mul _ _ _
  have hur : reps S [] (flat es) (cur.toList.take (es.length * 3)) := ⟨hcr.1, fun j d u hd hu => ⟨(hcr.2 j d u hd hu).1, by
    have hm : lt1 0 d = true := by
      obtain ⟨e, he, hy⟩ := List.mem_flatMap.1 (List.mem_of_getElem? hd)
      exact cells_lt (List.all_eq_true.1 hlt e he) hy
    have := (hcr.2 j d u hd hu).2.take hm
    rwa [List.take_zero] at this⟩⟩
  have hf1 : flat (es.take k) = (flat es).take (k * 3) := by
    have h2 : flat es = flat (es.take k) ++ flat (es.drop k) := by rw [← flat_append, List.take_append_drop]
    have h3 : (flat (es.take k)).length = k * 3 := by rw [flatE_length (fun d hd => hall d (List.mem_of_mem_take hd)), List.length_take, Nat.min_eq_left (Nat.le_of_lt hk)]
    rw [h2, ← h3]
    exact List.take_left.symm
  have hur2 : reps S [] (flat (es.take k)) (cur.toList.take (k * 3)) := by
    have := hur.takeC (k * 3)
    rw [List.take_take, Nat.min_eq_left hke, ← hf1] at this
    exact this
  have hlen : (es.take k).length = k := by rw [List.length_take]; omega
  have hout : RowOut w W1 (blkOf (MR (some ⟨b, 0, none⟩) es.length c)) 30 3 (es.take k).length (cur.toList.take (k * 3)) (.slice (some ⟨b, 0, none⟩) k c) := by
    rw [hbk, hlen, hW1]
    refine ⟨b, c, _, rfl, by omega, hcm, setRow_heap w b cur _ _ _ hgb, ?_, ?_, .inl rfl, fun b' hb hne => setRow_other w b b' _ fun q => hne (by rw [q]), rfl, rfl, rfl, by simp⟩
    · simp only [List.size_toArray, List.length_append, List.length_take, List.length_drop, hll, hcl]
      omega
    · have : (cur.toList.take (k * 3)).length = k * 3 := by rw [List.length_take]; omega
      show List.take (k * 3) (cur.toList.take (k * 3) ++ cs ++ cur.toList.drop (k * 3 + cs.length)) = _
      rw [List.append_assoc, List.take_append_of_le_length (by omega), List.take_take, Nat.min_self]
  obtain ⟨_, _, H', S', μ', rv, ⟨rfl, rfl⟩, hr', hrep, hst⟩ := row_post0 hr hμ ho rfl (by omega) (fun d hd => hall d (List.mem_of_mem_take hd)) hur2 hout
  cases rv
  have hu : Try.prog.underlying 22 = some (.slice 30) := Try.underlying22
  refine wp_seq (wp_region_lit ?_)
  refine wpList_val rfl run_mv ?_
  obtain ⟨a1, h1⟩ : ∃ a1, a1 = a.put (some 36) (a.eval (.tmp 0)) := ⟨_, rfl⟩
  rw [← h1]
  have s1 : a1.tmps.size = 42 := by rw [h1, put_size]; exact hsz
  have d1 : a1.defers = [] := by rw [h1, put_def]; exact hdf
  have q1_0 : a1.eval (.tmp 0) = v0 := by rw [h1, ev_put (by rw [hsz]; decide), if_neg (by decide)]; exact e0
  have q1_5 : a1.eval (.tmp 5) = .int .i64 (k : Int) := by rw [h1, ev_put (by rw [hsz]; decide), if_neg (by decide)]; exact e5
  have q1_36 : a1.eval (.tmp 36) = v0 := by rw [h1, ev_put (by rw [hsz]; decide), if_pos rfl]; exact e0
  clear h1
  refine wpList_val rfl run_mv ?_
  obtain ⟨a2, h2⟩ : ∃ a2, a2 = a1.put (some 37) (a1.eval (.tmp 5)) := ⟨_, rfl⟩
  rw [← h2]
  have s2 : a2.tmps.size = 42 := by rw [h2, put_size]; exact s1
  have d2 : a2.defers = [] := by rw [h2, put_def]; exact d1
  have q2_0 : a2.eval (.tmp 0) = v0 := by rw [h2, ev_put (by rw [s1]; decide), if_neg (by decide)]; exact q1_0
  have q2_5 : a2.eval (.tmp 5) = .int .i64 (k : Int) := by rw [h2, ev_put (by rw [s1]; decide), if_neg (by decide)]; exact q1_5
  have q2_36 : a2.eval (.tmp 36) = v0 := by rw [h2, ev_put (by rw [s1]; decide), if_neg (by decide)]; exact q1_36
  have q2_37 : a2.eval (.tmp 37) = .int .i64 (k : Int) := by rw [h2, ev_put (by rw [s1]; decide), if_pos rfl]; exact q1_5
  clear h2
  have hz3 : ∀ w, (sizeOf 30).run Try.prog w = .ok 3 w := fun w => by kernel_rfl
  have hkc' : c ≠ k := by omega
  refine wpList_val rfl (run_sl (v := (.slice (some ⟨b, k * 3, none⟩) (es.length - k) (c - k))) ?_) ?_
  · rw [q2_36, hv]
    show (Instr.sliceAt _ _ (some (a2.eval (.tmp 37))) none none).run _ _ = _
    rw [q2_37, run_sliceAt_slice (h := hu), run_slice_l (ht := hu) (h0 := by omega) (h1 := by omega)]
    have hel : Try.prog.elem 22 = 30 := by kernel_rfl
    rw [hel, hz3, Result.andThen_ok, Int.toNat_natCast]
    unfold sliced
    rw [if_neg hkc']
    simp only [Option.map_some, add_plain, Nat.zero_add]
  obtain ⟨a3, h3⟩ : ∃ a3, a3 = a2.put (some 38) (.slice (some ⟨b, k * 3, none⟩) (es.length - k) (c - k)) := ⟨_, rfl⟩
  rw [← h3]
  have s3 : a3.tmps.size = 42 := by rw [h3, put_size]; exact s2
  have d3 : a3.defers = [] := by rw [h3, put_def]; exact d2
  have q3_0 : a3.eval (.tmp 0) = v0 := by rw [h3, ev_put (by rw [s2]; decide), if_neg (by decide)]; exact q2_0
  have q3_5 : a3.eval (.tmp 5) = .int .i64 (k : Int) := by rw [h3, ev_put (by rw [s2]; decide), if_neg (by decide)]; exact q2_5
  have q3_38 : a3.eval (.tmp 38) = (.slice (some ⟨b, k * 3, none⟩) (es.length - k) (c - k)) := by rw [h3, ev_put (by rw [s2]; decide), if_pos rfl]
  clear h3
  refine wpList_val rfl (run_cl (v := .tuple #[]) (w' := W1) ?_) ?_
  · rw [q3_38]
    exact hrun
  refine wpList_nil ?_
  show Code.wp _ _ _ a3 W1
  refine wp_seq (wp_region_lit ?_)
  refine wpList_val rfl run_mv ?_
  obtain ⟨a4, h4⟩ : ∃ a4, a4 = a3.put (some 39) (a3.eval (.tmp 0)) := ⟨_, rfl⟩
  rw [← h4]
  have s4 : a4.tmps.size = 42 := by rw [h4, put_size]; exact s3
  have d4 : a4.defers = [] := by rw [h4, put_def]; exact d3
  have q4_5 : a4.eval (.tmp 5) = .int .i64 (k : Int) := by rw [h4, ev_put (by rw [s3]; decide), if_neg (by decide)]; exact q3_5
  have q4_39 : a4.eval (.tmp 39) = v0 := by rw [h4, ev_put (by rw [s3]; decide), if_pos rfl]; exact q3_0
  clear h4
  refine wpList_val rfl run_mv ?_
  obtain ⟨a5, h5⟩ : ∃ a5, a5 = a4.put (some 40) (a4.eval (.tmp 5)) := ⟨_, rfl⟩
  rw [← h5]
  have s5 : a5.tmps.size = 42 := by rw [h5, put_size]; exact s4
  have d5 : a5.defers = [] := by rw [h5, put_def]; exact d4
  have q5_39 : a5.eval (.tmp 39) = v0 := by rw [h5, ev_put (by rw [s4]; decide), if_neg (by decide)]; exact q4_39
  have q5_40 : a5.eval (.tmp 40) = .int .i64 (k : Int) := by rw [h5, ev_put (by rw [s4]; decide), if_pos rfl]; exact q4_5
  clear h5
  refine wpList_val rfl (run_sl (v := (.slice (some ⟨b, 0, none⟩) k c)) ?_) ?_
  · rw [q5_39, hv]
    show (Instr.sliceAt _ _ none (some (a5.eval (.tmp 40))) none).run _ _ = _
    rw [q5_40, run_sliceAt_slice (h := hu), run_slice_h (ht := hu) (h0 := by omega) (h2 := by omega)]
    have hel : Try.prog.elem 22 = 30 := by kernel_rfl
    rw [hel, hz3, Result.andThen_ok, Int.toNat_natCast]
    unfold sliced
    rw [if_neg hc0]
    simp only [Option.map_some, add_plain, Nat.zero_mul, Nat.zero_add, Nat.sub_zero]
  obtain ⟨a6, h6⟩ : ∃ a6, a6 = a5.put (some 41) (.slice (some ⟨b, 0, none⟩) k c) := ⟨_, rfl⟩
  rw [← h6]
  have s6 : a6.tmps.size = 42 := by rw [h6, put_size]; exact s5
  have d6 : a6.defers = [] := by rw [h6, put_def]; exact d5
  have q6_41 : a6.eval (.tmp 41) = (.slice (some ⟨b, 0, none⟩) k c) := by rw [h6, ev_put (by rw [s5]; decide), if_pos rfl]
  clear h6
  refine wpList_val rfl run_as ?_
  obtain ⟨a7, h7⟩ : ∃ a7, a7 = a6.put (some 4) (a6.eval (.tmp 41)) := ⟨_, rfl⟩
  rw [← h7]
  have s7 : a7.tmps.size = 42 := by rw [h7, put_size]; exact s6
  have d7 : a7.defers = [] := by rw [h7, put_def]; exact d6
  have q7_4 : a7.eval (.tmp 4) = (.slice (some ⟨b, 0, none⟩) k c) := by rw [h7, ev_put (by rw [s6]; decide), if_pos rfl]; exact q6_41
  clear h7
  refine wpList_nil ?_
  show Code.wp _ _ _ a7 W1
  refine wp_ret ⟨_, S', μ', hQ, hr', ⟨s7, d7, fun j => ?_⟩, hst.less hn⟩
  by_cases hj : j = 4
  · subst hj
    show rep S' μ' (SL (es.take k)) (a7.eval (.tmp 4))
    rw [q7_4]
    exact hrep
  · have : get [(4, SL (es.take k))] j = .nil := by simp [get, Ne.symm hj]
    rw [this]
    trivial
noncomputable def slices_DeleteFuncD_Mark_t (m : Nat) : List AV → List AObj → RO := fun args H => match slices_DeleteFunc_Mark_t m args H with
  | some (.iface "" (.agg [_, .slice [] [.held (.inr (.inl (i, n)))], .held (.inl (.int .i64 k))]), H') => (match H'[i]? with
    | some o => whenE (decide (o.k = 4) && decide (o.e = 30) && decide (o.z = 3) && decide (n = o.c.length) && decide (0 ≤ k) && decide (k < n) && o.c.all (ltA 0)) (some (SL (o.c.take k.toNat), H'.set i ⟨0, 30, 3, []⟩))
    | none => none)
  | some (.iface "" (.agg [_, .slice [] [.held (.inr (.inl (i, n)))]]), H') => some (PR i n, H')
  | _ => none
theorem far_n {P : Program} {n : Nat} {rr : List ResultVar} {s : ASt} {x y z : AV} {H1 : List AObj} (h : farFK P n [.tmp 4, .tmp 0, .tmp 5] rr .normal s = some (TU [x, y, z], H1)) : x = roA s.H (noT (get s.T 4)) ∧ y = roA s.H (noT (get s.T 0)) ∧ z = roA s.H (noT (get s.T 5)) ∧ n ≤ s.H.length ∧ (s.H.take n).all (ltO n) = true ∧ H1 = s.H.take n := by
  have h : resEK P s.H s.T [.tmp 4, .tmp 0, .tmp 5] (fun ds => keepK n s.H (ro s.H (oneOf ds))) = some (TU [x, y, z], H1) := h
  rw [resEK_eq] at h
  obtain ⟨h1, h2⟩ := whenE_some h
  simp only [Bool.and_eq_true, decide_eq_true_eq] at h1
  injection h2 with h2
  injection h2 with h2 h3
  simp only [oneOf, ro, List.map_cons, List.map_nil] at h2
  injection h2 with _ h2
  injection h2 with h2
  injection h2 with q1 h2
  injection h2 with q2 h2
  injection h2 with q3 h2
  exact ⟨q1.symm, q2.symm, q3.symm, h1.1.1, h1.1.2, h3.symm⟩
theorem far_r {P : Program} {n : Nat} {rn : List ResultVar} {s : ASt} {x y : AV} {H1 : List AObj} (h : farFK P n rn [.tmp 4, .tmp 4] .ret s = some (TU [x, y], H1)) : y = roA s.H (noT (get s.T 4)) ∧ n ≤ s.H.length ∧ (s.H.take n).all (ltO n) = true ∧ ltT n (TU [x, y]) = true ∧ H1 = s.H.take n := by
  have h : resEK P s.H s.T [.tmp 4, .tmp 4] (fun ds => keepK n s.H (ro s.H (oneOf ds))) = some (TU [x, y], H1) := h
  rw [resEK_eq] at h
  obtain ⟨h1, h2⟩ := whenE_some h
  simp only [Bool.and_eq_true, decide_eq_true_eq] at h1
  injection h2 with h2
  injection h2 with h2 h3
  have h4 := h1.2
  rw [h2] at h4
  simp only [oneOf, ro, List.map_cons, List.map_nil] at h2
  injection h2 with _ h2
  injection h2 with h2
  injection h2 with q1 h2
  injection h2 with q2 h2
  exact ⟨q2.symm, h1.1.1, h1.1.2, h4, h3.symm⟩
theorem far_n2 {P : Program} {n : Nat} {rr : List ResultVar} {s : ASt} {x y : AV} {H1 : List AObj} (h : farFK P n [.tmp 4, .tmp 0, .tmp 5] rr .normal s = some (TU [x, y], H1)) : False := by
  have h : resEK P s.H s.T [.tmp 4, .tmp 0, .tmp 5] (fun ds => keepK n s.H (ro s.H (oneOf ds))) = some (TU [x, y], H1) := h
  rw [resEK_eq] at h
  obtain ⟨h1, h2⟩ := whenE_some h
  injection h2 with h2
  injection h2 with h2 h3
  simp only [oneOf, ro, List.map_cons, List.map_nil] at h2
  injection h2 with _ h2
  injection h2 with h2
  injection h2 with q1 h2
  injection h2 with q2 h2
  cases h2
theorem far_r3 {P : Program} {n : Nat} {rn : List ResultVar} {s : ASt} {x y z : AV} {H1 : List AObj} (h : farFK P n rn [.tmp 4, .tmp 4] .ret s = some (TU [x, y, z], H1)) : False := by
  have h : resEK P s.H s.T [.tmp 4, .tmp 4] (fun ds => keepK n s.H (ro s.H (oneOf ds))) = some (TU [x, y, z], H1) := h
  rw [resEK_eq] at h
  obtain ⟨h1, h2⟩ := whenE_some h
  injection h2 with h2
  injection h2 with h2 h3
  simp only [oneOf, ro, List.map_cons, List.map_nil] at h2
  injection h2 with _ h2
  injection h2 with h2
  injection h2 with q1 h2
  injection h2 with q2 h2
  cases h2
theorem all_set {l : List AObj} {i : Nat} {o : AObj} {p : AObj → Bool} (h : l.all p = true) (ho : p o = true) : (l.set i o).all p = true := by
  refine List.all_eq_true.2 fun x hx => ?_
  rcases List.mem_or_eq_of_mem_set hx with q | q
  · exact List.all_eq_true.1 h x q
  · rw [q]; exact ho
theorem slices_DeleteFuncD_Mark_ok (m : Nat) : ∀ args H X H', slices_DeleteFuncD_Mark_t m args H = some (X, H') → AC Try.prog GG 37 args H (Is X H') := by
  intro args H X H' h
  have hE : EnvOk Try.prog GG (slices_DeleteFunc_Mark_env m) := by
    intro f e h
    simp only [slices_DeleteFunc_Mark_env, Prod.mk.injEq, List.mem_cons, List.not_mem_nil, or_false] at h
    rcases h with ⟨rfl, rfl⟩ | ⟨rfl, rfl⟩
    · exact slices_IndexFunc_Mark_ok m
    · exact marks_moved_1_ok m
  obtain ⟨t0, t1, rfl⟩ : ∃ t0 t1, args = [t0, t1] := by
    unfold slices_DeleteFuncD_Mark_t slices_DeleteFunc_Mark_t at h
    match args, h with
    | [], h => cases h
    | [_], h => cases h
    | [a, b], _ => exact ⟨a, b, rfl⟩
    | _ :: _ :: _ :: _, h => cases h
  have hX : ∀ x, slices_DeleteFunc_Mark_t m [t0, t1] H = some x → exec Try.prog GG (slices_DeleteFunc_Mark_env m) m 42 slices_DeleteFunc_Mark_c slices_DeleteFunc_Mark_h ⟨H, argsT 0 [t0, t1]⟩ (slices_DeleteFunc_Mark_fin H.length) = some x := fun x q => q
  have hf : Try.prog.funcs[37]? = some Try.f37 := Try.func37
  unfold slices_DeleteFuncD_Mark_t at h
  split at h
  · rename_i x0 i n k H1 heq
    have heq := hX _ heq
    split at h
    case h_2 => cases h
    rename_i o hoi
    obtain ⟨h1, h2⟩ := whenE_some h
    simp only [Bool.and_eq_true, decide_eq_true_eq] at h1
    obtain ⟨⟨⟨⟨⟨⟨p1, p2⟩, p3⟩, p4⟩, p5⟩, p6⟩, p7⟩ := h1
    obtain ⟨ok, oe, oz, oc⟩ := o
    dsimp only at p1 p2 p3 p4 p7 h2
    subst p1 p2 p3 p4
    obtain ⟨kn, rfl⟩ : ∃ kn : Nat, k = kn := ⟨k.toNat, by omega⟩
    cases h2
    refine ac_of_wpC hf rfl (by kernel_rfl) [.tmp 4] rfl 42 Try.ntmps37 (Nat.le_of_ble_eq_true rfl) (exec_far (n := H.length) MIX hE 4 _ slices_DeleteFunc_Mark_h ⟨H, argsT 0 [t0, t1]⟩ (by kernel_rfl) (Nat.le_refl _) heq (fun s hn hs => ?_) fun e s he hs => ?_)
    · obtain ⟨q1, q2, q3, q4, q5, rfl⟩ := far_n hs
      have g0 := noT_PR q2.symm
      have g5 := noT_int q3.symm
      have hio : s.H[i]? = some ⟨4, 30, 3, oc⟩ := by
        rw [List.getElem?_take] at hoi
        split at hoi
        · exact hoi
        · cases hoi
      refine awp_tail hio p7 g0 g5 (by omega) hn ?_
      refine ⟨SL (oc.take kn), (s.H.set i ⟨0, 30, 3, []⟩).take H.length, .inl rfl, HLe.take _ _, ?_, ?_, ?_, ?_⟩
      · rw [List.take_set, List.length_set, List.length_take, Nat.min_eq_left q4]
        exact all_set q5 rfl
      · rw [List.length_take, List.length_set]; omega
      · rfl
      · exact ⟨rfl, by rw [List.take_set]⟩
    · exfalso
      cases e with
      | ret => exact far_r3 hs
      | normal => exact he rfl
      | exit id => cases hs
      | goto l => cases hs
      | panic ch => cases hs
      | outgrown => cases hs
  · rename_i x0 i n H1 heq
    have heq := hX _ heq
    cases h
    refine ac_of_wpC hf rfl (by kernel_rfl) [.tmp 4] rfl 42 Try.ntmps37 (Nat.le_of_ble_eq_true rfl) (exec_far (n := H.length) MIX hE 4 _ slices_DeleteFunc_Mark_h ⟨H, argsT 0 [t0, t1]⟩ (by kernel_rfl) (Nat.le_refl _) heq (fun s hn hs => (far_n2 hs).elim) fun e s he hs => ?_)
    cases e with
    | ret =>
      obtain ⟨q1, q2, q3, q4, rfl⟩ := far_r hs
      have g4 := noT_PR q1.symm
      have hl : (s.H.take H.length).length = H.length := by rw [List.length_take]; omega
      have h5 : ltA H.length (PR i n) = true := by
        have : ltT H.length (TU [x0, PR i n]) = true := q4
        simp only [ltT, List.all_cons, List.all_nil, Bool.and_true, Bool.and_eq_true] at this
        exact this.2
      exact ⟨PR i n, _, .inl g4.symm, HLe.take _ _, by rw [hl]; exact q3, by rw [hl]; exact Nat.le_refl _, by rw [hl]; exact h5, rfl, rfl⟩
    | normal => exact absurd rfl he
    | exit id => cases hs
    | goto l => cases hs
    | panic ch => cases hs
    | outgrown => cases hs
  · cases h
end Go.Proofs.Ytbobfgbjliolmaa

namespace Go.Proofs.Ytbobfgbjliolmaa
open Go.RowKit
set_option linter.unusedVariables false
theorem ac_args {P : Program} {G : Gl} {f : FuncId} {args args' : List AV} {H : List AObj} {R : AV → List AObj → Prop} (h : AC P G f args H R) (hl : args'.length = args.length)
    (k : ∀ (S : SS) (μ : List Value) (j : Nat) (d d' : AV) (v : Value), args[j]? = some d → args'[j]? = some d' → rep S μ d' v → rep S μ d v) : AC P G f args' H R := by
  refine ⟨h.1, fun w S μ vs hr hg hv hs => h.2 w S μ vs hr hg (by omega) fun j d v hd hj => ?_⟩
  have hlt : j < args'.length := by rw [hl]; exact (List.getElem?_eq_some_iff.1 hd).1
  exact k S μ j d _ v hd (List.getElem?_eq_getElem hlt) (hs j _ v (List.getElem?_eq_getElem hlt) hj)
noncomputable def slices_BinarySearchFuncV_Mark_t (m : Nat) : List AV → List AObj → RO
  | [a, b, .held (.inl (.func (.func 24) ⟨[]⟩ ⟨[]⟩))], H => slices_BinarySearchFunc_Mark m a b (CL (.func 24) 0 []) H
  | _, _ => none
theorem slices_BinarySearchFuncV_Mark_ok (m : Nat) : ∀ args H X H', slices_BinarySearchFuncV_Mark_t m args H = some (X, H') → AC Try.prog GG 23 args H (Is X H') := by
  intro args H X H' h
  unfold slices_BinarySearchFuncV_Mark_t at h
  split at h
  · rename_i H a b
    refine ac_args (args := [a, b, CL (.func 24) 0 []]) (slices_BinarySearchFunc_Mark_ok m _ _ _ _ h) rfl fun S μ j d d' v hd hd' hr => ?_
    match j, hd, hd' with
    | 0, hd, hd' => simp at hd hd'; subst hd hd'; exact hr
    | 1, hd, hd' => simp at hd hd'; subst hd hd'; exact hr
    | 2, hd, hd' =>
      simp at hd hd'
      subst hd hd'
      obtain ⟨rfl, _⟩ := hr
      exact ⟨[], rfl, rfl, fun j d u hd => by simp at hd⟩
    | j + 3, hd, _ => simp at hd
  · cases h
end Go.Proofs.Ytbobfgbjliolmaa

namespace Go.Proofs.Ytbobfgbjliolmaa
open Go.RowKit
set_option linter.unusedVariables false
set_option maxRecDepth 100000
def ty_api_Marks : TypeId := 24
def ty_api_Stmt : TypeId := 38
def zc_api_Marks : List AV := [(V (.int .i64 0)), (V (.int .i64 0)), (V (.slice none 0 0))]
def zc_api_Stmt : List AV := [(V (.int .i64 0)), (V (.int .i64 0)), (V (.int .i64 0)), (V (.int .i64 0)), (V (.int .i64 0))]
def pl_api_Mark : List (Nat × Nat) := [(0, 1), (1, 1), (2, 1)]
def pl_api_Marks : List (Nat × Nat) := [(0, 1), (1, 1), (2, 1)]
def pl_api_Stmt : List (Nat × Nat) := [(0, 1), (1, 1), (2, 1), (3, 1), (4, 1)]
noncomputable def marks_number_c : Code := (Try.f21.body).getD .skip
def marks_number_h : Hint := (.two .n (.two .n .n))
noncomputable def marks_number_env (m : Nat) : Env := []
noncomputable abbrev marks_number_fin : KO (AV × List AObj) := tellFK Try.prog [.tmp 2]
noncomputable def marks_number (m : Nat) (t0 : AV) : RO := exec Try.prog GG (marks_number_env m) m 9 marks_number_c marks_number_h ⟨[], argsT 0 [t0]⟩ (marks_number_fin)
theorem marks_number_eq (m : Nat) (t0 : AV) : marks_number m t0 =
  binE none false false .geq t0 (V (.int .i64 0)) fun t4 =>
  condE t4 (
   binE none false false .leq t0 (V (.int .i64 2147483647)) fun t7 =>
   tellK [] (ro [] t7)) (
   tellK [] (ro [] (V (.bool false)))) := by
  refine (tellX Try.prog GG (marks_number_env m) m 9 marks_number_c marks_number_h ⟨[], argsT 0 [t0]⟩ [.tmp 2]).trans ?_
  kernel_rfl
noncomputable def marks_number_t (m : Nat) : List AV → RO | [t0] => marks_number m t0 | _ => none
theorem marks_number_ok (m : Nat) : ∀ args X H', marks_number_t m args = some (X, H') → ACp Try.prog GG 21 args X := by
  intro args X H' h
  unfold marks_number_t at h
  split at h
  · exact tell_okK MIX (by intro f e h; cases h) (f := 21) (c := marks_number_c) Try.func21 rfl (by kernel_rfl) _ rfl Try.ntmps21 (Nat.le_of_ble_eq_true rfl) marks_number_h h
  · cases h
noncomputable def marks_Due_c : Code := (Try.f15.body).getD .skip
def marks_Due_h : Hint := (.two .n (.two .n .n))
noncomputable def marks_Due_env (m : Nat) : Env := []
noncomputable abbrev marks_Due_fin : KO (AV × List AObj) := tellFK Try.prog [.tmp 2]
noncomputable def marks_Due (m : Nat) (t0 : AV) : RO := exec Try.prog GG (marks_Due_env m) m 10 marks_Due_c marks_Due_h ⟨[], argsT 0 [t0]⟩ (marks_Due_fin)
theorem marks_Due_eq (m : Nat) (t0 : AV) : marks_Due m t0 =
  binE none false false .gtr t0 (V (.int .i64 0)) fun t4 =>
  condE t4 (
   binE none false false .rem t0 (V (.int .i64 4)) fun t7 =>
   binE none false false .eql t7 (V (.int .i64 0)) fun t8 =>
   tellK [] (ro [] t8)) (
   tellK [] (ro [] (V (.bool false)))) := by
  refine (tellX Try.prog GG (marks_Due_env m) m 10 marks_Due_c marks_Due_h ⟨[], argsT 0 [t0]⟩ [.tmp 2]).trans ?_
  kernel_rfl
noncomputable def marks_Due_t (m : Nat) : List AV → RO | [t0] => marks_Due m t0 | _ => none
theorem marks_Due_ok (m : Nat) : ∀ args X H', marks_Due_t m args = some (X, H') → ACp Try.prog GG 15 args X := by
  intro args X H' h
  unfold marks_Due_t at h
  split at h
  · exact tell_okK MIX (by intro f e h; cases h) (f := 15) (c := marks_Due_c) Try.func15 rfl (by kernel_rfl) _ rfl Try.ntmps15 (Nat.le_of_ble_eq_true rfl) marks_Due_h h
  · cases h
noncomputable def marks_in_c : Code := (Try.f22.body).getD .skip
def marks_in_h : Hint := (.two .n (.two .n .n))
noncomputable def marks_in_env (m : Nat) : Env := []
noncomputable abbrev marks_in_fin : KO (AV × List AObj) := tellFK Try.prog [.tmp 4]
noncomputable def marks_in (m : Nat) (t0 t1 : AV) : RO := exec Try.prog GG (marks_in_env m) m 18 marks_in_c marks_in_h ⟨[], argsT 0 [t0, t1]⟩ (marks_in_fin)
theorem marks_in_eq (m : Nat) (t0 t1 : AV) : marks_in m t0 t1 =
  binE none false false .gtr t1 t0 fun t7 =>
  condE t7 (
   binE none false false .sub t1 t0 fun t11 =>
   binE none false false .leq t11 (V (.int .i64 16)) fun t12 =>
   condE t12 (
   binE none false false .leq t1 (V (.int .i64 2147483647)) fun t16 =>
   tellK [] (ro [] t16)) (
   tellK [] (ro [] (V (.bool false))))) (
   tellK [] (ro [] (V (.bool false)))) := by
  refine (tellX Try.prog GG (marks_in_env m) m 18 marks_in_c marks_in_h ⟨[], argsT 0 [t0, t1]⟩ [.tmp 4]).trans ?_
  kernel_rfl
noncomputable def marks_in_t (m : Nat) : List AV → RO | [t0, t1] => marks_in m t0 t1 | _ => none
theorem marks_in_ok (m : Nat) : ∀ args X H', marks_in_t m args = some (X, H') → ACp Try.prog GG 22 args X := by
  intro args X H' h
  unfold marks_in_t at h
  split at h
  · exact tell_okK MIX (by intro f e h; cases h) (f := 22) (c := marks_in_c) Try.func22 rfl (by kernel_rfl) _ rfl Try.ntmps22 (Nat.le_of_ble_eq_true rfl) marks_in_h h
  · cases h
noncomputable def marks_May_c : Code := (Try.f8.body).getD .skip
def marks_May_h : Hint := (.two .n (.join [1] (.join [1, 20] .n (.two (.two .n .n) .n)) (.join [] (.two .n (.one (.lp [] [1, 22, 23, 24] [2] (.two .n (.two (.two .n .n) (.join [1, 22, 23, 24] (.one (.two .n (.join [1, 3, 4, 22, 23, 24] (.join [1, 3, 4, 22, 23, 24, 56] .n (.two (.two .n .n) .n)) (.join [1, 22, 23, 24, 69] .n (.two (.two .n .n) .n))))) .n)))))) (.two .n .n))))
noncomputable def marks_May_env (m : Nat) : Env := [(21, .tell (marks_number_t m)), (15, .tell (marks_Due_t m)), (22, .tell (marks_in_t m)), (24, .tell (marks_order_t m))]
noncomputable abbrev marks_May_fin : KO (AV × List AObj) := tellFK Try.prog [.tmp 2]
noncomputable def marks_May_r9 (m : Nat) (n0 : Nat) (kc : ASt → RO) (kx : KO (AV × List AObj)) (s : ASt) : RO := joinW Try.prog GG (marks_May_env m) m 71 (cdR (cdR (cdR (cdL (cdL (cdR (cdL (cdR (cdR marks_May_c))))))))) marks_May_h.r.r.l.r.c.c.r.r.r s (backW n0 [1, 22, 23, 24] [2] kc kx)
noncomputable def marks_May_r8 (m : Nat) (n0 : Nat) (kc : ASt → RO) (kx : KO (AV × List AObj)) (s : ASt) : RO := joinW Try.prog GG (marks_May_env m) m 71 (cdR (cdR (cdR (cdL (cdL (cdR (cdL (cdR (cdR marks_May_c))))))))) marks_May_h.r.r.l.r.c.c.r.r.r s (backW n0 [1, 22, 23, 24] [2] kc kx)
noncomputable def marks_May_r7 (m : Nat) (n0 : Nat) (kc : ASt → RO) (kx : KO (AV × List AObj)) (s : ASt) : RO := joinW Try.prog GG (marks_May_env m) m 71 (cdR (cdR (cdR (cdL (cdL (cdR (cdR (cdL (cdL (cdR (cdL (cdR (cdR marks_May_c))))))))))))) marks_May_h.r.r.l.r.c.c.r.r.l.c.r.r.r s (blockX 1 (seqX (fun s => marks_May_r9 m n0 kc kx ⟨s.H, [(1, gt s.T 1), (22, gt s.T 22), (23, gt s.T 23), (24, gt s.T 24)]⟩) (backW n0 [1, 22, 23, 24] [2] kc kx)))
noncomputable def marks_May_r6 (m : Nat) (n0 : Nat) (kc : ASt → RO) (kx : KO (AV × List AObj)) (s : ASt) : RO := joinW Try.prog GG (marks_May_env m) m 71 (cdR (cdR (cdR (cdL (cdL (cdR (cdL (cdR (cdR marks_May_c))))))))) marks_May_h.r.r.l.r.c.c.r.r.r s (backW n0 [1, 22, 23, 24] [2] kc kx)
noncomputable def marks_May_r5 (m : Nat) (n0 : Nat) (kc : ASt → RO) (kx : KO (AV × List AObj)) (s : ASt) : RO := joinW Try.prog GG (marks_May_env m) m 71 (cdR (cdR (cdL (cdL (cdR (cdR (cdL (cdL (cdR (cdL (cdR (cdR marks_May_c)))))))))))) marks_May_h.r.r.l.r.c.c.r.r.l.c.r.r s (blockX 1 (seqX (fun s => marks_May_r8 m n0 kc kx ⟨s.H, [(1, gt s.T 1), (22, gt s.T 22), (23, gt s.T 23), (24, gt s.T 24)]⟩) (backW n0 [1, 22, 23, 24] [2] kc kx)))
noncomputable def marks_May_r4 (m : Nat) (n0 : Nat) (kc : ASt → RO) (kx : KO (AV × List AObj)) (s : ASt) : RO := joinW Try.prog GG (marks_May_env m) m 71 (cdR (cdL (cdR (cdL (cdL (cdR (cdR (cdL (cdL (cdR (cdL (cdR (cdR marks_May_c))))))))))))) marks_May_h.r.r.l.r.c.c.r.r.l.c.r.l.r s (seqX (fun s => marks_May_r5 m n0 kc kx ⟨s.H, [(1, gt s.T 1), (3, gt s.T 3), (4, gt s.T 4), (22, gt s.T 22), (23, gt s.T 23), (24, gt s.T 24)]⟩) (blockX 1 (seqX (fun s => marks_May_r6 m n0 kc kx ⟨s.H, [(1, gt s.T 1), (22, gt s.T 22), (23, gt s.T 23), (24, gt s.T 24)]⟩) (backW n0 [1, 22, 23, 24] [2] kc kx))))
noncomputable def marks_May_r3 (m : Nat) (s : ASt) : RO := joinW Try.prog GG (marks_May_env m) m 71 (cdR (cdR (cdR marks_May_c))) marks_May_h.r.r.r s (marks_May_fin)
noncomputable def marks_May_b1 (m : Nat) (s : ASt) (kc : ASt → RO) (kx : KO (AV × List AObj)) : RO := bodyW Try.prog GG (marks_May_env m) m 71 (cdL (cdL (cdR (cdL (cdR (cdR marks_May_c)))))) marks_May_h.r.r.l.r.c.c [1, 22, 23, 24] [2] s kc kx
noncomputable def marks_May_r2 (m : Nat) (s : ASt) : RO := joinW Try.prog GG (marks_May_env m) m 71 (cdR (cdR marks_May_c)) marks_May_h.r.r s (marks_May_fin)
noncomputable def marks_May_r1 (m : Nat) (s : ASt) : RO := joinW Try.prog GG (marks_May_env m) m 71 (cdR (cdL (cdR marks_May_c))) marks_May_h.r.l.r s (seqX (fun s => marks_May_r2 m ⟨s.H, [(1, gt s.T 1)]⟩) (marks_May_fin))
noncomputable def marks_May (m : Nat) (t0 : AV) : RO := exec Try.prog GG (marks_May_env m) m 71 marks_May_c marks_May_h ⟨[], argsT 0 [t0]⟩ (marks_May_fin)
theorem marks_May_r9_eq (m : Nat) (n0 : Nat) (kc : ASt → RO) (kx : KO (AV × List AObj)) (H : List AObj) (t1 t22 t23 t24 : AV) : marks_May_r9 m n0 kc kx ⟨H, [(1, t1), (22, t22), (23, t23), (24, t24)]⟩ =
  binE none false false .add t24 (V (.int .i64 1)) fun t70 =>
  backE n0 H [(1, t1), (22, t22), (23, t23), (24, t70)] kc := by
  refine (joinW_eq Try.prog GG (marks_May_env m) m 71 (cdR (cdR (cdR (cdL (cdL (cdR (cdL (cdR (cdR marks_May_c))))))))) marks_May_h.r.r.l.r.c.c.r.r.r ⟨H, [(1, t1), (22, t22), (23, t23), (24, t24)]⟩ (backW n0 [1, 22, 23, 24] [2] kc kx)).trans ?_
  kernel_rfl
theorem marks_May_r8_eq (m : Nat) (n0 : Nat) (kc : ASt → RO) (kx : KO (AV × List AObj)) (H : List AObj) (t1 t22 t23 t24 : AV) : marks_May_r8 m n0 kc kx ⟨H, [(1, t1), (22, t22), (23, t23), (24, t24)]⟩ =
  binE none false false .add t24 (V (.int .i64 1)) fun t70 =>
  backE n0 H [(1, t1), (22, t22), (23, t23), (24, t70)] kc := by
  refine (joinW_eq Try.prog GG (marks_May_env m) m 71 (cdR (cdR (cdR (cdL (cdL (cdR (cdL (cdR (cdR marks_May_c))))))))) marks_May_h.r.r.l.r.c.c.r.r.r ⟨H, [(1, t1), (22, t22), (23, t23), (24, t24)]⟩ (backW n0 [1, 22, 23, 24] [2] kc kx)).trans ?_
  kernel_rfl
theorem marks_May_r7_eq (m : Nat) (n0 : Nat) (kc : ASt → RO) (kx : KO (AV × List AObj)) (H : List AObj) (t1 t22 t23 t24 t69 : AV) : marks_May_r7 m n0 kc kx ⟨H, [(1, t1), (22, t22), (23, t23), (24, t24), (69, t69)]⟩ =
  condE t69 (
   kx .ret ⟨H, [(2, (V (.bool false)))]⟩) (
   marks_May_r9 m n0 kc kx ⟨H, [(1, t1), (22, t22), (23, t23), (24, t24)]⟩) := by
  refine (joinW_eq Try.prog GG (marks_May_env m) m 71 (cdR (cdR (cdR (cdL (cdL (cdR (cdR (cdL (cdL (cdR (cdL (cdR (cdR marks_May_c))))))))))))) marks_May_h.r.r.l.r.c.c.r.r.l.c.r.r.r ⟨H, [(1, t1), (22, t22), (23, t23), (24, t24), (69, t69)]⟩ (blockX 1 (seqX (fun s => marks_May_r9 m n0 kc kx ⟨s.H, [(1, gt s.T 1), (22, gt s.T 22), (23, gt s.T 23), (24, gt s.T 24)]⟩) (backW n0 [1, 22, 23, 24] [2] kc kx)))).trans ?_
  kernel_rfl
theorem marks_May_r6_eq (m : Nat) (n0 : Nat) (kc : ASt → RO) (kx : KO (AV × List AObj)) (H : List AObj) (t1 t22 t23 t24 : AV) : marks_May_r6 m n0 kc kx ⟨H, [(1, t1), (22, t22), (23, t23), (24, t24)]⟩ =
  binE none false false .add t24 (V (.int .i64 1)) fun t70 =>
  backE n0 H [(1, t1), (22, t22), (23, t23), (24, t70)] kc := by
  refine (joinW_eq Try.prog GG (marks_May_env m) m 71 (cdR (cdR (cdR (cdL (cdL (cdR (cdL (cdR (cdR marks_May_c))))))))) marks_May_h.r.r.l.r.c.c.r.r.r ⟨H, [(1, t1), (22, t22), (23, t23), (24, t24)]⟩ (backW n0 [1, 22, 23, 24] [2] kc kx)).trans ?_
  kernel_rfl
theorem marks_May_r5_eq (m : Nat) (n0 : Nat) (kc : ASt → RO) (kx : KO (AV × List AObj)) (H : List AObj) (t1 t3 t4 t22 t23 t24 : AV) : marks_May_r5 m n0 kc kx ⟨H, [(1, t1), (3, t3), (4, t4), (22, t22), (23, t23), (24, t24)]⟩ =
  binE none false false .gtr t3 (V (.int .i64 0)) fun t58 =>
  condE t58 (
   fieldE (some (2, 1)) t1 fun t60 =>
   loadE 1 H t60 fun t61 =>
   binE none false false .sub t3 (V (.int .i64 1)) fun t63 =>
   idxSE 5 H t61 t63 fun t64 =>
   loadE 5 H t64 fun t65 =>
   loadE 5 H t4 fun t66 =>
   tellE (marks_order m (ro H t65) (ro H t66)) [(ro H t65), (ro H t66)] fun t67 =>
   binE none false false .geq t67 (V (.int .i64 0)) fun t68 =>
   marks_May_r7 m n0 kc kx ⟨H, [(1, t1), (22, t22), (23, t23), (24, t24), (69, t68)]⟩) (
   marks_May_r7 m n0 kc kx ⟨H, [(1, t1), (22, t22), (23, t23), (24, t24), (69, (V (.bool false)))]⟩) := by
  refine (joinW_eq Try.prog GG (marks_May_env m) m 71 (cdR (cdR (cdL (cdL (cdR (cdR (cdL (cdL (cdR (cdL (cdR (cdR marks_May_c)))))))))))) marks_May_h.r.r.l.r.c.c.r.r.l.c.r.r ⟨H, [(1, t1), (3, t3), (4, t4), (22, t22), (23, t23), (24, t24)]⟩ (blockX 1 (seqX (fun s => marks_May_r8 m n0 kc kx ⟨s.H, [(1, gt s.T 1), (22, gt s.T 22), (23, gt s.T 23), (24, gt s.T 24)]⟩) (backW n0 [1, 22, 23, 24] [2] kc kx)))).trans ?_
  kernel_rfl
theorem marks_May_r4_eq (m : Nat) (n0 : Nat) (kc : ASt → RO) (kx : KO (AV × List AObj)) (H : List AObj) (t1 t3 t4 t22 t23 t24 t56 : AV) : marks_May_r4 m n0 kc kx ⟨H, [(1, t1), (3, t3), (4, t4), (22, t22), (23, t23), (24, t24), (56, t56)]⟩ =
  condE t56 (
   kx .ret ⟨H, [(2, (V (.bool false)))]⟩) (
   marks_May_r5 m n0 kc kx ⟨H, [(1, t1), (3, t3), (4, t4), (22, t22), (23, t23), (24, t24)]⟩) := by
  refine (joinW_eq Try.prog GG (marks_May_env m) m 71 (cdR (cdL (cdR (cdL (cdL (cdR (cdR (cdL (cdL (cdR (cdL (cdR (cdR marks_May_c))))))))))))) marks_May_h.r.r.l.r.c.c.r.r.l.c.r.l.r ⟨H, [(1, t1), (3, t3), (4, t4), (22, t22), (23, t23), (24, t24), (56, t56)]⟩ (seqX (fun s => marks_May_r5 m n0 kc kx ⟨s.H, [(1, gt s.T 1), (3, gt s.T 3), (4, gt s.T 4), (22, gt s.T 22), (23, gt s.T 23), (24, gt s.T 24)]⟩) (blockX 1 (seqX (fun s => marks_May_r6 m n0 kc kx ⟨s.H, [(1, gt s.T 1), (22, gt s.T 22), (23, gt s.T 23), (24, gt s.T 24)]⟩) (backW n0 [1, 22, 23, 24] [2] kc kx))))).trans ?_
  kernel_rfl
theorem marks_May_r3_eq (m : Nat) (H : List AObj) : marks_May_r3 m ⟨H, []⟩ =
  tellK H (ro H (V (.bool true))) := by
  refine (joinW_eq Try.prog GG (marks_May_env m) m 71 (cdR (cdR (cdR marks_May_c))) marks_May_h.r.r.r ⟨H, []⟩ (marks_May_fin)).trans ?_
  kernel_rfl
theorem marks_May_b1_eq (m : Nat) (H : List AObj) (t1 t22 t23 t24 : AV) (kc : ASt → RO) (kx : KO (AV × List AObj)) : marks_May_b1 m ⟨H, [(1, t1), (22, t22), (23, t23), (24, t24)]⟩ kc kx =
  binE none false false .lss t24 t23 fun t25 =>
  condE t25 (
   idxSE 5 H t22 t24 fun t27 =>
   loadE 5 H t27 fun t28 =>
   allocE (some zc_api_Mark) ty_api_Mark H fun t4 H2 =>
   storeE 5 H2 t4 t28 fun H3 =>
   fieldE (some (0, 1)) t4 fun t29 =>
   loadE 1 H3 t29 fun t30 =>
   binE none false false .lss t30 (V (.int .i64 0)) fun t31 =>
   condE t31 (
    marks_May_r4 m H.length kc kx ⟨H3, [(1, t1), (3, t24), (4, t4), (22, t22), (23, t23), (24, t24), (56, (V (.bool true)))]⟩) (
    fieldE (some (0, 1)) t4 fun t33 =>
    loadE 1 H3 t33 fun t34 =>
    binE none false false .geq t34 (V (.int .i64 64)) fun t35 =>
    condE t35 (
    marks_May_r4 m H.length kc kx ⟨H3, [(1, t1), (3, t24), (4, t4), (22, t22), (23, t23), (24, t24), (56, (V (.bool true)))]⟩) (
    fieldE (some (1, 1)) t4 fun t38 =>
    loadE 1 H3 t38 fun t39 =>
    tellE (marks_Due m (ro H3 t39)) [(ro H3 t39)] fun t40 =>
    unE .not t40 fun t41 =>
    condE t41 (
    marks_May_r4 m H.length kc kx ⟨H3, [(1, t1), (3, t24), (4, t4), (22, t22), (23, t23), (24, t24), (56, (V (.bool true)))]⟩) (
    fieldE (some (0, 1)) t1 fun t44 =>
    loadE 1 H3 t44 fun t45 =>
    fieldE (some (1, 1)) t4 fun t46 =>
    loadE 1 H3 t46 fun t47 =>
    tellE (marks_in m (ro H3 t45) (ro H3 t47)) [(ro H3 t45), (ro H3 t47)] fun t48 =>
    unE .not t48 fun t49 =>
    condE t49 (
    marks_May_r4 m H.length kc kx ⟨H3, [(1, t1), (3, t24), (4, t4), (22, t22), (23, t23), (24, t24), (56, (V (.bool true)))]⟩) (
    fieldE (some (2, 1)) t4 fun t52 =>
    loadE 1 H3 t52 fun t53 =>
    tellE (marks_number m (ro H3 t53)) [(ro H3 t53)] fun t54 =>
    unE .not t54 fun t55 =>
    marks_May_r4 m H.length kc kx ⟨H3, [(1, t1), (3, t24), (4, t4), (22, t22), (23, t23), (24, t24), (56, t55)]⟩))))) (
   kx (.exit 0) ⟨H, [(2, .nil)]⟩) := by
  refine (bodyW_eq Try.prog GG (marks_May_env m) m 71 (cdL (cdL (cdR (cdL (cdR (cdR marks_May_c)))))) marks_May_h.r.r.l.r.c.c [1, 22, 23, 24] [2] ⟨H, [(1, t1), (22, t22), (23, t23), (24, t24)]⟩ kc kx).trans ?_
  kernel_rfl
theorem marks_May_r2_eq (m : Nat) (H : List AObj) (t1 : AV) : marks_May_r2 m ⟨H, [(1, t1)]⟩ =
  fieldE (some (2, 1)) t1 fun t21 =>
  loadE 1 H t21 fun t22 =>
  lenE false true H t22 fun t23 =>
  iterC m (marks_May_b1 m) ⟨H, [(1, t1), (22, t22), (23, t23), (24, (V (.int .i64 0)))]⟩ (blockX 0 (seqX (fun s => marks_May_r3 m ⟨s.H, []⟩) (marks_May_fin))) := by
  refine (joinW_eq Try.prog GG (marks_May_env m) m 71 (cdR (cdR marks_May_c)) marks_May_h.r.r ⟨H, [(1, t1)]⟩ (marks_May_fin)).trans ?_
  kernel_rfl
theorem marks_May_r1_eq (m : Nat) (H : List AObj) (t1 t20 : AV) : marks_May_r1 m ⟨H, [(1, t1), (20, t20)]⟩ =
  condE t20 (
   tellK H (ro H (V (.bool false)))) (
   marks_May_r2 m ⟨H, [(1, t1)]⟩) := by
  refine (joinW_eq Try.prog GG (marks_May_env m) m 71 (cdR (cdL (cdR marks_May_c))) marks_May_h.r.l.r ⟨H, [(1, t1), (20, t20)]⟩ (seqX (fun s => marks_May_r2 m ⟨s.H, [(1, gt s.T 1)]⟩) (marks_May_fin))).trans ?_
  kernel_rfl
theorem marks_May_eq (m : Nat) (t0 : AV) : marks_May m t0 =
  boxE ty_api_Marks [] t0 fun t1 H1 =>
  fieldE (some (0, 1)) t1 fun t5 =>
  loadE 1 H1 t5 fun t6 =>
  tellE (marks_number m (ro H1 t6)) [(ro H1 t6)] fun t7 =>
  unE .not t7 fun t8 =>
  condE t8 (
   marks_May_r1 m ⟨H1, [(1, t1), (20, (V (.bool true)))]⟩) (
   fieldE (some (0, 1)) t1 fun t10 =>
   loadE 1 H1 t10 fun t11 =>
   binE none false false .rem t11 (V (.int .i64 4)) fun t12 =>
   binE none false false .neq t12 (V (.int .i64 0)) fun t13 =>
   condE t13 (
   marks_May_r1 m ⟨H1, [(1, t1), (20, (V (.bool true)))]⟩) (
   fieldE (some (1, 1)) t1 fun t16 =>
   loadE 1 H1 t16 fun t17 =>
   tellE (marks_number m (ro H1 t17)) [(ro H1 t17)] fun t18 =>
   unE .not t18 fun t19 =>
   marks_May_r1 m ⟨H1, [(1, t1), (20, t19)]⟩)) := by
  refine (tellX Try.prog GG (marks_May_env m) m 71 marks_May_c marks_May_h ⟨[], argsT 0 [t0]⟩ [.tmp 2]).trans ?_
  kernel_rfl
noncomputable def marks_May_t (m : Nat) : List AV → RO | [t0] => marks_May m t0 | _ => none
theorem marks_May_ok (m : Nat) : ∀ args X H', marks_May_t m args = some (X, H') → ACp Try.prog GG 8 args X := by
  intro args X H' h
  unfold marks_May_t at h
  split at h
  · exact tell_okK MIX (by
    intro f e h
    simp only [marks_May_env, Prod.mk.injEq, List.mem_cons, List.not_mem_nil, or_false] at h
    rcases h with ⟨rfl, rfl⟩ | ⟨rfl, rfl⟩ | ⟨rfl, rfl⟩ | ⟨rfl, rfl⟩
    · exact marks_number_ok m
    · exact marks_Due_ok m
    · exact marks_in_ok m
    · exact marks_order_ok m) (f := 8) (c := marks_May_c) Try.func8 rfl (by kernel_rfl) _ rfl Try.ntmps8 (Nat.le_of_ble_eq_true rfl) marks_May_h h
  · cases h
noncomputable def marks_stable_c : Code := (Try.f27.body).getD .skip
def marks_stable_h : Hint := (.two .n (.two .n (.join [2, 7] (.two .n (.one (.lp [] [2, 4, 7, 10, 11, 12] [2, 7] (.two .n (.two (.two .n .n) (.join [2, 4, 7, 10, 11, 12] (.one (.two .n (.join [2, 4, 7, 9, 10, 11, 12, 27] .n (.two .n .n)))) .n)))))) (.two .n .n))))
noncomputable def marks_stable_env (m : Nat) : Env := [(36, .tell (quorum_IsStrong_t m)), (35, .tell (quorum_With_t m))]
noncomputable abbrev marks_stable_fin : KO (AV × List AObj) := tellFK Try.prog [.tmp 6]
noncomputable def marks_stable_r3 (m : Nat) (n0 : Nat) (kc : ASt → RO) (kx : KO (AV × List AObj)) (s : ASt) : RO := joinW Try.prog GG (marks_stable_env m) m 36 (cdR (cdR (cdR (cdL (cdL (cdR (cdL (cdR (cdR marks_stable_c))))))))) marks_stable_h.r.r.l.r.c.c.r.r.r s (backW n0 [2, 4, 7, 10, 11, 12] [2, 7] kc kx)
noncomputable def marks_stable_r2 (m : Nat) (n0 : Nat) (kc : ASt → RO) (kx : KO (AV × List AObj)) (s : ASt) : RO := joinW Try.prog GG (marks_stable_env m) m 36 (cdR (cdR (cdL (cdL (cdR (cdR (cdL (cdL (cdR (cdL (cdR (cdR marks_stable_c)))))))))))) marks_stable_h.r.r.l.r.c.c.r.r.l.c.r.r s (blockX 1 (seqX (fun s => marks_stable_r3 m n0 kc kx ⟨s.H, [(2, gt s.T 2), (4, gt s.T 4), (7, gt s.T 7), (10, gt s.T 10), (11, gt s.T 11), (12, gt s.T 12)]⟩) (backW n0 [2, 4, 7, 10, 11, 12] [2, 7] kc kx)))
noncomputable def marks_stable_r1 (m : Nat) (s : ASt) : RO := joinW Try.prog GG (marks_stable_env m) m 36 (cdR (cdR (cdR marks_stable_c))) marks_stable_h.r.r.r s (marks_stable_fin)
noncomputable def marks_stable_b1 (m : Nat) (s : ASt) (kc : ASt → RO) (kx : KO (AV × List AObj)) : RO := bodyW Try.prog GG (marks_stable_env m) m 36 (cdL (cdL (cdR (cdL (cdR (cdR marks_stable_c)))))) marks_stable_h.r.r.l.r.c.c [2, 4, 7, 10, 11, 12] [2, 7] s kc kx
noncomputable def marks_stable (m : Nat) (t0 t1 t2 : AV) : RO := exec Try.prog GG (marks_stable_env m) m 36 marks_stable_c marks_stable_h ⟨[], argsT 0 [t0, t1, t2]⟩ (marks_stable_fin)
theorem marks_stable_r3_eq (m : Nat) (n0 : Nat) (kc : ASt → RO) (kx : KO (AV × List AObj)) (H : List AObj) (t2 t4 t7 t10 t11 t12 : AV) : marks_stable_r3 m n0 kc kx ⟨H, [(2, t2), (4, t4), (7, t7), (10, t10), (11, t11), (12, t12)]⟩ =
  binE none false false .add t12 (V (.int .i64 1)) fun t32 =>
  backE n0 H [(2, t2), (4, t4), (7, t7), (10, t10), (11, t11), (12, t32)] kc := by
  refine (joinW_eq Try.prog GG (marks_stable_env m) m 36 (cdR (cdR (cdR (cdL (cdL (cdR (cdL (cdR (cdR marks_stable_c))))))))) marks_stable_h.r.r.l.r.c.c.r.r.r ⟨H, [(2, t2), (4, t4), (7, t7), (10, t10), (11, t11), (12, t12)]⟩ (backW n0 [2, 4, 7, 10, 11, 12] [2, 7] kc kx)).trans ?_
  kernel_rfl
theorem marks_stable_r2_eq (m : Nat) (n0 : Nat) (kc : ASt → RO) (kx : KO (AV × List AObj)) (H : List AObj) (t2 t4 t7 t9 t10 t11 t12 t27 : AV) : marks_stable_r2 m n0 kc kx ⟨H, [(2, t2), (4, t4), (7, t7), (9, t9), (10, t10), (11, t11), (12, t12), (27, t27)]⟩ =
  condE t27 (
   fieldE (some (0, 1)) t9 fun t29 =>
   loadE 1 H t29 fun t30 =>
   tellE (quorum_With m (ro H t7) (ro H t30)) [(ro H t7), (ro H t30)] fun t31 =>
   marks_stable_r3 m n0 kc kx ⟨H, [(2, t2), (4, t4), (7, t31), (10, t10), (11, t11), (12, t12)]⟩) (
   marks_stable_r3 m n0 kc kx ⟨H, [(2, t2), (4, t4), (7, t7), (10, t10), (11, t11), (12, t12)]⟩) := by
  refine (joinW_eq Try.prog GG (marks_stable_env m) m 36 (cdR (cdR (cdL (cdL (cdR (cdR (cdL (cdL (cdR (cdL (cdR (cdR marks_stable_c)))))))))))) marks_stable_h.r.r.l.r.c.c.r.r.l.c.r.r ⟨H, [(2, t2), (4, t4), (7, t7), (9, t9), (10, t10), (11, t11), (12, t12), (27, t27)]⟩ (blockX 1 (seqX (fun s => marks_stable_r3 m n0 kc kx ⟨s.H, [(2, gt s.T 2), (4, gt s.T 4), (7, gt s.T 7), (10, gt s.T 10), (11, gt s.T 11), (12, gt s.T 12)]⟩) (backW n0 [2, 4, 7, 10, 11, 12] [2, 7] kc kx)))).trans ?_
  kernel_rfl
theorem marks_stable_r1_eq (m : Nat) (H : List AObj) (t2 t7 : AV) : marks_stable_r1 m ⟨H, [(2, t2), (7, t7)]⟩ =
  tellE (quorum_IsStrong m (ro H t7) (ro H t2)) [(ro H t7), (ro H t2)] fun t35 =>
  tellK H (ro H t35) := by
  refine (joinW_eq Try.prog GG (marks_stable_env m) m 36 (cdR (cdR (cdR marks_stable_c))) marks_stable_h.r.r.r ⟨H, [(2, t2), (7, t7)]⟩ (marks_stable_fin)).trans ?_
  kernel_rfl
theorem marks_stable_b1_eq (m : Nat) (H : List AObj) (t2 t4 t7 t10 t11 t12 : AV) (kc : ASt → RO) (kx : KO (AV × List AObj)) : marks_stable_b1 m ⟨H, [(2, t2), (4, t4), (7, t7), (10, t10), (11, t11), (12, t12)]⟩ kc kx =
  binE none false false .lss t12 t11 fun t13 =>
  condE t13 (
   idxSE 5 H t10 t12 fun t14 =>
   loadE 5 H t14 fun t15 =>
   allocE (some zc_api_Mark) ty_api_Mark H fun t9 H2 =>
   storeE 5 H2 t9 t15 fun H3 =>
   fieldE (some (1, 1)) t9 fun t16 =>
   loadE 1 H3 t16 fun t17 =>
   fieldE (some (1, 1)) t4 fun t18 =>
   loadE 1 H3 t18 fun t19 =>
   binE none false false .eql t17 t19 fun t20 =>
   condE t20 (
    fieldE (some (2, 1)) t9 fun t22 =>
    loadE 1 H3 t22 fun t23 =>
    fieldE (some (2, 1)) t4 fun t24 =>
    loadE 1 H3 t24 fun t25 =>
    binE none false false .eql t23 t25 fun t26 =>
    marks_stable_r2 m H.length kc kx ⟨H3, [(2, t2), (4, t4), (7, t7), (9, t9), (10, t10), (11, t11), (12, t12), (27, t26)]⟩) (
    marks_stable_r2 m H.length kc kx ⟨H3, [(2, t2), (4, t4), (7, t7), (9, t9), (10, t10), (11, t11), (12, t12), (27, (V (.bool false)))]⟩)) (
   kx (.exit 0) ⟨H, [(2, t2), (7, t7)]⟩) := by
  refine (bodyW_eq Try.prog GG (marks_stable_env m) m 36 (cdL (cdL (cdR (cdL (cdR (cdR marks_stable_c)))))) marks_stable_h.r.r.l.r.c.c [2, 4, 7, 10, 11, 12] [2, 7] ⟨H, [(2, t2), (4, t4), (7, t7), (10, t10), (11, t11), (12, t12)]⟩ kc kx).trans ?_
  kernel_rfl
theorem marks_stable_eq (m : Nat) (t0 t1 t2 : AV) : marks_stable m t0 t1 t2 =
  boxE ty_api_Mark [] t1 fun t4 H1 =>
  lenE false true H1 t0 fun t11 =>
  iterC m (marks_stable_b1 m) ⟨H1, [(2, t2), (4, t4), (7, (V (.int .u64 0))), (10, t0), (11, t11), (12, (V (.int .i64 0)))]⟩ (blockX 0 (seqX (fun s => marks_stable_r1 m ⟨s.H, [(2, gt s.T 2), (7, gt s.T 7)]⟩) (marks_stable_fin))) := by
  refine (tellX Try.prog GG (marks_stable_env m) m 36 marks_stable_c marks_stable_h ⟨[], argsT 0 [t0, t1, t2]⟩ [.tmp 6]).trans ?_
  kernel_rfl
noncomputable def marks_stable_t (m : Nat) : List AV → RO | [t0, t1, t2] => marks_stable m t0 t1 t2 | _ => none
theorem marks_stable_ok (m : Nat) : ∀ args X H', marks_stable_t m args = some (X, H') → ACp Try.prog GG 27 args X := by
  intro args X H' h
  unfold marks_stable_t at h
  split at h
  · exact tell_okK MIX (by
    intro f e h
    simp only [marks_stable_env, Prod.mk.injEq, List.mem_cons, List.not_mem_nil, or_false] at h
    rcases h with ⟨rfl, rfl⟩ | ⟨rfl, rfl⟩
    · exact quorum_IsStrong_ok m
    · exact quorum_With_ok m) (f := 27) (c := marks_stable_c) Try.func27 rfl (by kernel_rfl) _ rfl Try.ntmps27 (Nat.le_of_ble_eq_true rfl) marks_stable_h h
  · cases h
noncomputable def marks_moved_c : Code := (Try.f28.body).getD .skip
def marks_moved_h : Hint := (.two .n (.two .n (.two .n .n)))
noncomputable def marks_moved_env (m : Nat) : Env := [(26, .add (slices_Clone_Mark_t m)), (37, .keep (slices_DeleteFuncD_Mark_t m))]
noncomputable abbrev marks_moved_fin : KO (AV × List AObj) := tellFK Try.prog [.cell 6 24]
noncomputable def marks_moved (m : Nat) (t0 t1 t2 : AV) : RO := exec Try.prog GG (marks_moved_env m) m 17 marks_moved_c marks_moved_h ⟨[], argsT 0 [t0, t1, t2]⟩ (marks_moved_fin)
theorem marks_moved_eq (m : Nat) (t0 t1 t2 : AV) : marks_moved m t0 t1 t2 =
  boxE ty_api_Marks [] t0 fun t3 H1 =>
  boxE ty_int H1 t1 fun t4 H2 =>
  allocE (some zc_api_Marks) ty_api_Marks H2 fun t6 H3 =>
  fieldE (some (2, 1)) t3 fun t8 =>
  loadE 1 H3 t8 fun t9 =>
  addE (slices_Clone_Mark_t m [(ro H3 t9)] H3.length) H3 fun t10 H4 =>
  whenE (([t4] : List AV).all cap0) (
  keepE (slices_DeleteFuncD_Mark_t m [(ro H4 t10), (ro H4 (CL (.func 38) 0 [t4]))] H4) fun t12 H5 =>
  loadE 1 H5 t4 fun t13 =>
  buildE (some pl_api_Marks) (some zc_api_Marks) [(0, t13), (1, t2), (2, t12)] fun t16 =>
  storeE 5 H5 t6 t16 fun H6 =>
  loadE 5 H6 t6 fun t9000 =>
  tellK H6 (ro H6 t9000)) := by
  refine (tellX Try.prog GG (marks_moved_env m) m 17 marks_moved_c marks_moved_h ⟨[], argsT 0 [t0, t1, t2]⟩ [.cell 6 24]).trans ?_
  kernel_rfl
noncomputable def marks_moved_t (m : Nat) : List AV → RO | [t0, t1, t2] => marks_moved m t0 t1 t2 | _ => none
theorem marks_moved_ok (m : Nat) : ∀ args X H', marks_moved_t m args = some (X, H') → ACp Try.prog GG 28 args X := by
  intro args X H' h
  unfold marks_moved_t at h
  split at h
  · exact tell_okK MIX (by
    intro f e h
    simp only [marks_moved_env, Prod.mk.injEq, List.mem_cons, List.not_mem_nil, or_false] at h
    rcases h with ⟨rfl, rfl⟩ | ⟨rfl, rfl⟩
    · exact slices_Clone_Mark_ok m
    · exact slices_DeleteFuncD_Mark_ok m) (f := 28) (c := marks_moved_c) Try.func28 rfl (by kernel_rfl) _ rfl Try.ntmps28 (Nat.le_of_ble_eq_true rfl) marks_moved_h h
  · cases h
noncomputable def marks_Say_c : Code := (Try.f7.body).getD .skip
def marks_Say_h : Hint := (.two .n (.two .n (.join [2, 3, 4, 6] (.one (.join [2, 3, 4, 6, 18] .n (.two (.two .n .n) (.two .n (.two (.two .n .n) .n))))) (.two .n (.two (.two .n (.two (.two (.two .n (.two (.two .n .n) .n)) (.two .n .n)) .n)) (.two .n (.two (.two .n (.two (.two .n .n) .n)) (.two .n .n))))))))
noncomputable def marks_Say_env (m : Nat) : Env := [(20, .tell (quorum_Faults_t m)), (8, .tell (marks_May_t m)), (21, .tell (marks_number_t m)), (15, .tell (marks_Due_t m)), (22, .tell (marks_in_t m)), (23, .keep (slices_BinarySearchFuncV_Mark_t m)), (26, .add (slices_Clone_Mark_t m)), (25, .keep (slices_Insert_Mark_t m)), (27, .tell (marks_stable_t m)), (28, .tell (marks_moved_t m))]
noncomputable abbrev marks_Say_fin : KO (AV × List AObj) := tellFK Try.prog [.cell 6 24, .tmp 7, .tmp 8]
noncomputable def marks_Say_r2 (m : Nat) (s : ASt) : RO := joinW Try.prog GG (marks_Say_env m) m 97 (cdR (cdR (cdR marks_Say_c))) marks_Say_h.r.r.r s (marks_Say_fin)
noncomputable def marks_Say_r1 (m : Nat) (s : ASt) : RO := joinW Try.prog GG (marks_Say_env m) m 97 (cdR (cdL (cdL (cdR (cdR marks_Say_c))))) marks_Say_h.r.r.l.c.r s (blockX 0 (seqX (fun s => marks_Say_r2 m ⟨s.H, [(2, gt s.T 2), (3, gt s.T 3), (4, gt s.T 4), (6, gt s.T 6)]⟩) (marks_Say_fin)))
noncomputable def marks_Say (m : Nat) (t0 t1 t2 : AV) : RO := exec Try.prog GG (marks_Say_env m) m 97 marks_Say_c marks_Say_h ⟨[], argsT 0 [t0, t1, t2]⟩ (marks_Say_fin)
theorem marks_Say_r2_eq (m : Nat) (H : List AObj) (t2 t3 t4 t6 : AV) : marks_Say_r2 m ⟨H, [(2, t2), (3, t3), (4, t4), (6, t6)]⟩ =
  fieldE (some (2, 1)) t3 fun t59 =>
  loadE 1 H t59 fun t60 =>
  loadE 5 H t4 fun t61 =>
  keepE (slices_BinarySearchFuncV_Mark_t m [(ro H t60), (ro H t61), (ro H (V (.func (.func 24) #[] #[])))] H) fun t62 H2 =>
  extE t62 0 fun t63 =>
  extE t62 1 fun t64 =>
  condE t64 (
   fieldE (some (2, 1)) t3 fun t66 =>
   loadE 1 H2 t66 fun t67 =>
   idxSE 5 H2 t67 t63 fun t69 =>
   fieldE (some (2, 1)) t69 fun t70 =>
   loadE 1 H2 t70 fun t71 =>
   fieldE (some (2, 1)) t4 fun t72 =>
   loadE 1 H2 t72 fun t73 =>
   binE none false false .eql t71 t73 fun t74 =>
   condE t74 (
    buildE (some pl_api_Marks) (some zc_api_Marks) [] fun t75 =>
    storeE 5 H2 t6 t75 fun H3 =>
    loadE 5 H3 t6 fun t9000 =>
    tellK H3 (ro H3 (TU [noT t9000, noT (V (.bool false)), noT (V (.int .i64 16))]))) (
    buildE (some pl_api_Marks) (some zc_api_Marks) [] fun t76 =>
    storeE 5 H2 t6 t76 fun H3 =>
    loadE 5 H3 t6 fun t9000 =>
    tellK H3 (ro H3 (TU [noT t9000, noT (V (.bool false)), noT (V (.int .i64 23))])))) (
   fieldE (some (2, 1)) t3 fun t77 =>
   loadE 1 H2 t77 fun t78 =>
   addE (slices_Clone_Mark_t m [(ro H2 t78)] H2.length) H2 fun t79 H3 =>
   loadE 5 H2 t4 fun t81 =>
   buildSE (some (ty_api_Mark, 3)) 1 [(0, t81)] fun t82 =>
   keepE (slices_Insert_Mark_t m [(ro H3 t79), (ro H3 t63), (ro H3 t82)] H3) fun t83 H4 =>
   fieldE (some (2, 1)) t3 fun t84 =>
   storeE 1 H4 t84 t83 fun H5 =>
   fieldE (some (2, 1)) t3 fun t85 =>
   loadE 1 H5 t85 fun t86 =>
   loadE 5 H5 t4 fun t87 =>
   tellE (marks_stable m (ro H5 t86) (ro H5 t87) (ro H5 t2)) [(ro H5 t86), (ro H5 t87), (ro H5 t2)] fun t89 =>
   condE t89 (
    loadE 5 H5 t3 fun t90 =>
    fieldE (some (1, 1)) t4 fun t91 =>
    loadE 1 H5 t91 fun t92 =>
    fieldE (some (2, 1)) t4 fun t93 =>
    loadE 1 H5 t93 fun t94 =>
    tellE (marks_moved m (ro H5 t90) (ro H5 t92) (ro H5 t94)) [(ro H5 t90), (ro H5 t92), (ro H5 t94)] fun t95 =>
    storeE 5 H5 t6 t95 fun H6 =>
    loadE 5 H6 t6 fun t9000 =>
    tellK H6 (ro H6 (TU [noT t9000, noT (V (.bool true)), noT (V (.int .i64 0))]))) (
    loadE 5 H5 t3 fun t96 =>
    storeE 5 H5 t6 t96 fun H6 =>
    loadE 5 H6 t6 fun t9000 =>
    tellK H6 (ro H6 (TU [noT t9000, noT (V (.bool false)), noT (V (.int .i64 0))])))) := by
  refine (joinW_eq Try.prog GG (marks_Say_env m) m 97 (cdR (cdR (cdR marks_Say_c))) marks_Say_h.r.r.r ⟨H, [(2, t2), (3, t3), (4, t4), (6, t6)]⟩ (marks_Say_fin)).trans ?_
  kernel_rfl
theorem marks_Say_r1_eq (m : Nat) (H : List AObj) (t2 t3 t4 t6 t18 : AV) : marks_Say_r1 m ⟨H, [(2, t2), (3, t3), (4, t4), (6, t6), (18, t18)]⟩ =
  condE t18 (
   buildE (some pl_api_Marks) (some zc_api_Marks) [] fun t49 =>
   storeE 5 H t6 t49 fun H2 =>
   loadE 5 H2 t6 fun t9000 =>
   tellK H2 (ro H2 (TU [noT t9000, noT (V (.bool false)), noT (V (.int .i64 1))]))) (
   fieldE (some (0, 1)) t3 fun t51 =>
   loadE 1 H t51 fun t52 =>
   fieldE (some (1, 1)) t4 fun t53 =>
   loadE 1 H t53 fun t54 =>
   tellE (marks_in m (ro H t52) (ro H t54)) [(ro H t52), (ro H t54)] fun t55 =>
   unE .not t55 fun t56 =>
   condE t56 (
    buildE (some pl_api_Marks) (some zc_api_Marks) [] fun t57 =>
    storeE 5 H t6 t57 fun H2 =>
    loadE 5 H2 t6 fun t9000 =>
    tellK H2 (ro H2 (TU [noT t9000, noT (V (.bool false)), noT (V (.int .i64 22))]))) (
    marks_Say_r2 m ⟨H, [(2, t2), (3, t3), (4, t4), (6, t6)]⟩)) := by
  refine (joinW_eq Try.prog GG (marks_Say_env m) m 97 (cdR (cdL (cdL (cdR (cdR marks_Say_c))))) marks_Say_h.r.r.l.c.r ⟨H, [(2, t2), (3, t3), (4, t4), (6, t6), (18, t18)]⟩ (blockX 0 (seqX (fun s => marks_Say_r2 m ⟨s.H, [(2, gt s.T 2), (3, gt s.T 3), (4, gt s.T 4), (6, gt s.T 6)]⟩) (marks_Say_fin)))).trans ?_
  kernel_rfl
theorem marks_Say_eq (m : Nat) (t0 t1 t2 : AV) : marks_Say m t0 t1 t2 =
  boxE ty_api_Marks [] t0 fun t3 H1 =>
  boxE ty_api_Mark H1 t1 fun t4 H2 =>
  allocE (some zc_api_Marks) ty_api_Marks H2 fun t6 H3 =>
  tellE (quorum_Faults m (ro H3 t2)) [(ro H3 t2)] fun t15 =>
  extE t15 0 fun t16 =>
  extE t15 1 fun t17 =>
  loadE 5 H3 t3 fun t19 =>
  tellE (marks_May m (ro H3 t19)) [(ro H3 t19)] fun t20 =>
  unE .not t20 fun t21 =>
  condE t21 (
   marks_Say_r1 m ⟨H3, [(2, t2), (3, t3), (4, t4), (6, t6), (18, (V (.bool true)))]⟩) (
   binE none false false .neq t17 (V (.int .i64 0)) fun t24 =>
   condE t24 (
   marks_Say_r1 m ⟨H3, [(2, t2), (3, t3), (4, t4), (6, t6), (18, (V (.bool true)))]⟩) (
   fieldE (some (0, 1)) t4 fun t27 =>
   loadE 1 H3 t27 fun t28 =>
   binE none false false .lss t28 (V (.int .i64 0)) fun t29 =>
   condE t29 (
   marks_Say_r1 m ⟨H3, [(2, t2), (3, t3), (4, t4), (6, t6), (18, (V (.bool true)))]⟩) (
   fieldE (some (0, 1)) t4 fun t32 =>
   loadE 1 H3 t32 fun t33 =>
   binE none false false .geq t33 t2 fun t35 =>
   condE t35 (
   marks_Say_r1 m ⟨H3, [(2, t2), (3, t3), (4, t4), (6, t6), (18, (V (.bool true)))]⟩) (
   fieldE (some (2, 1)) t4 fun t38 =>
   loadE 1 H3 t38 fun t39 =>
   tellE (marks_number m (ro H3 t39)) [(ro H3 t39)] fun t40 =>
   unE .not t40 fun t41 =>
   condE t41 (
   marks_Say_r1 m ⟨H3, [(2, t2), (3, t3), (4, t4), (6, t6), (18, (V (.bool true)))]⟩) (
   fieldE (some (1, 1)) t4 fun t44 =>
   loadE 1 H3 t44 fun t45 =>
   tellE (marks_Due m (ro H3 t45)) [(ro H3 t45)] fun t46 =>
   unE .not t46 fun t47 =>
   marks_Say_r1 m ⟨H3, [(2, t2), (3, t3), (4, t4), (6, t6), (18, t47)]⟩))))) := by
  refine (tellX Try.prog GG (marks_Say_env m) m 97 marks_Say_c marks_Say_h ⟨[], argsT 0 [t0, t1, t2]⟩ [.cell 6 24, .tmp 7, .tmp 8]).trans ?_
  kernel_rfl
noncomputable def marks_Say_t (m : Nat) : List AV → RO | [t0, t1, t2] => marks_Say m t0 t1 t2 | _ => none
theorem marks_Say_ok (m : Nat) : ∀ args X H', marks_Say_t m args = some (X, H') → ACp Try.prog GG 7 args X := by
  intro args X H' h
  unfold marks_Say_t at h
  split at h
  · exact tell_okK MIX (by
    intro f e h
    simp only [marks_Say_env, Prod.mk.injEq, List.mem_cons, List.not_mem_nil, or_false] at h
    rcases h with ⟨rfl, rfl⟩ | ⟨rfl, rfl⟩ | ⟨rfl, rfl⟩ | ⟨rfl, rfl⟩ | ⟨rfl, rfl⟩ | ⟨rfl, rfl⟩ | ⟨rfl, rfl⟩ | ⟨rfl, rfl⟩ | ⟨rfl, rfl⟩ | ⟨rfl, rfl⟩
    · exact quorum_Faults_ok m
    · exact marks_May_ok m
    · exact marks_number_ok m
    · exact marks_Due_ok m
    · exact marks_in_ok m
    · exact slices_BinarySearchFuncV_Mark_ok m
    · exact slices_Clone_Mark_ok m
    · exact slices_Insert_Mark_ok m
    · exact marks_stable_ok m
    · exact marks_moved_ok m) (f := 7) (c := marks_Say_c) Try.func7 rfl (by kernel_rfl) _ rfl Try.ntmps7 (Nat.le_of_ble_eq_true rfl) marks_Say_h h
  · cases h
noncomputable def marks_Voices_c : Code := (Try.f11.body).getD .skip
def marks_Voices_h : Hint := (.two .n (.two (.two .n (.two (.two .n .n) .n)) (.two .n (.join [7] (.two .n (.one (.lp [(7, ty_api_Stmt, 5)] [1, 2, 7, 14, 15, 16] [7] (.two .n (.two (.two .n .n) (.join [1, 2, 7, 14, 15, 16] (.one (.two .n (.join [1, 2, 7, 9, 14, 15, 16, 29] .n (.two .n .n)))) .n)))))) (.two .n .n)))))
noncomputable def marks_Voices_env (m : Nat) : Env := [(8, .tell (marks_May_t m))]
noncomputable abbrev marks_Voices_fin : KO (AV × List AObj) := tellFK Try.prog [.tmp 6]
noncomputable def marks_Voices_r3 (m : Nat) (n0 : Nat) (kc : ASt → RO) (kx : KO (AV × List AObj)) (s : ASt) : RO := joinW Try.prog GG (marks_Voices_env m) m 40 (cdR (cdR (cdR (cdL (cdL (cdR (cdL (cdR (cdR (cdR marks_Voices_c)))))))))) marks_Voices_h.r.r.r.l.r.c.c.r.r.r s (backW n0 [1, 2, 7, 14, 15, 16] [7] kc kx)
noncomputable def marks_Voices_r2 (m : Nat) (n0 : Nat) (kc : ASt → RO) (kx : KO (AV × List AObj)) (s : ASt) : RO := joinW Try.prog GG (marks_Voices_env m) m 40 (cdR (cdR (cdL (cdL (cdR (cdR (cdL (cdL (cdR (cdL (cdR (cdR (cdR marks_Voices_c))))))))))))) marks_Voices_h.r.r.r.l.r.c.c.r.r.l.c.r.r s (blockX 1 (seqX (fun s => marks_Voices_r3 m n0 kc kx ⟨s.H, [(1, gt s.T 1), (2, gt s.T 2), (7, gt s.T 7), (14, gt s.T 14), (15, gt s.T 15), (16, gt s.T 16)]⟩) (backW n0 [1, 2, 7, 14, 15, 16] [7] kc kx)))
noncomputable def marks_Voices_r1 (m : Nat) (s : ASt) : RO := joinW Try.prog GG (marks_Voices_env m) m 40 (cdR (cdR (cdR (cdR marks_Voices_c)))) marks_Voices_h.r.r.r.r s (marks_Voices_fin)
noncomputable def marks_Voices_b1 (m : Nat) (s : ASt) (kc : ASt → RO) (kx : KO (AV × List AObj)) : RO := bodyW Try.prog GG (marks_Voices_env m) m 40 (cdL (cdL (cdR (cdL (cdR (cdR (cdR marks_Voices_c))))))) marks_Voices_h.r.r.r.l.r.c.c [1, 2, 7, 14, 15, 16] [7] s kc kx
noncomputable def marks_Voices (m : Nat) (t0 t1 t2 : AV) : RO := exec Try.prog GG (marks_Voices_env m) m 40 marks_Voices_c marks_Voices_h ⟨[], argsT 0 [t0, t1, t2]⟩ (marks_Voices_fin)
theorem marks_Voices_r3_eq (m : Nat) (n0 : Nat) (kc : ASt → RO) (kx : KO (AV × List AObj)) (H : List AObj) (t1 t2 t7 t14 t15 t16 : AV) : marks_Voices_r3 m n0 kc kx ⟨H, [(1, t1), (2, t2), (7, t7), (14, t14), (15, t15), (16, t16)]⟩ =
  binE none false false .add t16 (V (.int .i64 1)) fun t38 =>
  backE n0 H [(1, t1), (2, t2), (7, t7), (14, t14), (15, t15), (16, t38)] kc := by
  refine (joinW_eq Try.prog GG (marks_Voices_env m) m 40 (cdR (cdR (cdR (cdL (cdL (cdR (cdL (cdR (cdR (cdR marks_Voices_c)))))))))) marks_Voices_h.r.r.r.l.r.c.c.r.r.r ⟨H, [(1, t1), (2, t2), (7, t7), (14, t14), (15, t15), (16, t16)]⟩ (backW n0 [1, 2, 7, 14, 15, 16] [7] kc kx)).trans ?_
  kernel_rfl
theorem marks_Voices_r2_eq (m : Nat) (n0 : Nat) (kc : ASt → RO) (kx : KO (AV × List AObj)) (H : List AObj) (t1 t2 t7 t9 t14 t15 t16 t29 : AV) : marks_Voices_r2 m n0 kc kx ⟨H, [(1, t1), (2, t2), (7, t7), (9, t9), (14, t14), (15, t15), (16, t16), (29, t29)]⟩ =
  condE t29 (
   fieldE (some (0, 1)) t9 fun t31 =>
   loadE 1 H t31 fun t32 =>
   buildE (some pl_api_Stmt) (some zc_api_Stmt) [(0, t32), (1, (V (.int .i64 5))), (3, t1), (4, t2)] fun t35 =>
   buildSE (some (ty_api_Stmt, 5)) 1 [(0, t35)] fun t36 =>
   appE (some (ty_api_Stmt, 5)) H t7 t36 fun t37 H2 =>
   marks_Voices_r3 m n0 kc kx ⟨H2, [(1, t1), (2, t2), (7, t37), (14, t14), (15, t15), (16, t16)]⟩) (
   marks_Voices_r3 m n0 kc kx ⟨H, [(1, t1), (2, t2), (7, t7), (14, t14), (15, t15), (16, t16)]⟩) := by
  refine (joinW_eq Try.prog GG (marks_Voices_env m) m 40 (cdR (cdR (cdL (cdL (cdR (cdR (cdL (cdL (cdR (cdL (cdR (cdR (cdR marks_Voices_c))))))))))))) marks_Voices_h.r.r.r.l.r.c.c.r.r.l.c.r.r ⟨H, [(1, t1), (2, t2), (7, t7), (9, t9), (14, t14), (15, t15), (16, t16), (29, t29)]⟩ (blockX 1 (seqX (fun s => marks_Voices_r3 m n0 kc kx ⟨s.H, [(1, gt s.T 1), (2, gt s.T 2), (7, gt s.T 7), (14, gt s.T 14), (15, gt s.T 15), (16, gt s.T 16)]⟩) (backW n0 [1, 2, 7, 14, 15, 16] [7] kc kx)))).trans ?_
  kernel_rfl
theorem marks_Voices_r1_eq (m : Nat) (H : List AObj) (t7 : AV) : marks_Voices_r1 m ⟨H, [(7, t7)]⟩ =
  tellK H (ro H t7) := by
  refine (joinW_eq Try.prog GG (marks_Voices_env m) m 40 (cdR (cdR (cdR (cdR marks_Voices_c)))) marks_Voices_h.r.r.r.r ⟨H, [(7, t7)]⟩ (marks_Voices_fin)).trans ?_
  kernel_rfl
theorem marks_Voices_b1_eq (m : Nat) (H : List AObj) (t1 t2 t7 t14 t15 t16 : AV) (kc : ASt → RO) (kx : KO (AV × List AObj)) : marks_Voices_b1 m ⟨H, [(1, t1), (2, t2), (7, t7), (14, t14), (15, t15), (16, t16)]⟩ kc kx =
  binE none false false .lss t16 t15 fun t17 =>
  condE t17 (
   idxSE 5 H t14 t16 fun t18 =>
   loadE 5 H t18 fun t19 =>
   allocE (some zc_api_Mark) ty_api_Mark H fun t9 H2 =>
   storeE 5 H2 t9 t19 fun H3 =>
   fieldE (some (1, 1)) t9 fun t20 =>
   loadE 1 H3 t20 fun t21 =>
   binE none false false .eql t21 t1 fun t23 =>
   condE t23 (
    fieldE (some (2, 1)) t9 fun t25 =>
    loadE 1 H3 t25 fun t26 =>
    binE none false false .eql t26 t2 fun t28 =>
    marks_Voices_r2 m H.length kc kx ⟨H3, [(1, t1), (2, t2), (7, t7), (9, t9), (14, t14), (15, t15), (16, t16), (29, t28)]⟩) (
    marks_Voices_r2 m H.length kc kx ⟨H3, [(1, t1), (2, t2), (7, t7), (9, t9), (14, t14), (15, t15), (16, t16), (29, (V (.bool false)))]⟩)) (
   kx (.exit 0) ⟨H, [(7, t7)]⟩) := by
  refine (bodyW_eq Try.prog GG (marks_Voices_env m) m 40 (cdL (cdL (cdR (cdL (cdR (cdR (cdR marks_Voices_c))))))) marks_Voices_h.r.r.r.l.r.c.c [1, 2, 7, 14, 15, 16] [7] ⟨H, [(1, t1), (2, t2), (7, t7), (14, t14), (15, t15), (16, t16)]⟩ kc kx).trans ?_
  kernel_rfl
theorem marks_Voices_eq (m : Nat) (t0 t1 t2 : AV) : marks_Voices m t0 t1 t2 =
  boxE ty_api_Marks [] t0 fun t3 H1 =>
  loadE 5 H1 t3 fun t10 =>
  tellE (marks_May m (ro H1 t10)) [(ro H1 t10)] fun t11 =>
  unE .not t11 fun t12 =>
  condE t12 (
   tellK H1 (ro H1 (V (.slice none 0 0)))) (
   fieldE (some (2, 1)) t3 fun t13 =>
   loadE 1 H1 t13 fun t14 =>
   lenE false true H1 t14 fun t15 =>
   rowE (V (.slice none 0 0)) ty_api_Stmt 5 H1 fun t7 H2 =>
   iterC m (marks_Voices_b1 m) ⟨H2, [(1, t1), (2, t2), (7, t7), (14, t14), (15, t15), (16, (V (.int .i64 0)))]⟩ (blockX 0 (seqX (fun s => marks_Voices_r1 m ⟨s.H, [(7, gt s.T 7)]⟩) (marks_Voices_fin)))) := by
  refine (tellX Try.prog GG (marks_Voices_env m) m 40 marks_Voices_c marks_Voices_h ⟨[], argsT 0 [t0, t1, t2]⟩ [.tmp 6]).trans ?_
  kernel_rfl
noncomputable def marks_Voices_t (m : Nat) : List AV → RO | [t0, t1, t2] => marks_Voices m t0 t1 t2 | _ => none
theorem marks_Voices_ok (m : Nat) : ∀ args X H', marks_Voices_t m args = some (X, H') → ACp Try.prog GG 11 args X := by
  intro args X H' h
  unfold marks_Voices_t at h
  split at h
  · exact tell_okK MIX (by
    intro f e h
    simp only [marks_Voices_env, Prod.mk.injEq, List.mem_cons, List.not_mem_nil, or_false] at h
    obtain ⟨rfl, rfl⟩ := h
    · exact marks_May_ok m) (f := 11) (c := marks_Voices_c) Try.func11 rfl (by kernel_rfl) _ rfl Try.ntmps11 (Nat.le_of_ble_eq_true rfl) marks_Voices_h h
  · cases h
noncomputable def plenumlaw30_awake_c : Code := (Try.f9.body).getD .skip
def plenumlaw30_awake_h : Hint := (.two .n (.two .n (.two .n (.two .n (.two .n (.two .n (.two .n (.two .n .n))))))))
noncomputable def plenumlaw30_awake_env (m : Nat) : Env := [(7, .tell (marks_Say_t m)), (11, .tell (marks_Voices_t m))]
noncomputable abbrev plenumlaw30_awake_fin : KO (AV × List AObj) := tellFK Try.prog [.tmp 0]
noncomputable def plenumlaw30_awake (m : Nat) : RO := exec Try.prog GG (plenumlaw30_awake_env m) m 111 plenumlaw30_awake_c plenumlaw30_awake_h ⟨[], argsT 0 []⟩ (plenumlaw30_awake_fin)
theorem plenumlaw30_awake_eq (m : Nat) : plenumlaw30_awake m =
  buildE (some pl_api_Marks) (some zc_api_Marks) [] fun t16 =>
  buildE (some pl_api_Mark) (some zc_api_Mark) [(1, (V (.int .i64 4))), (2, (V (.int .i64 7)))] fun t17 =>
  tellE (marks_Say m (ro [] t16) (ro [] t17) (V (.int .i64 4))) [(ro [] t16), (ro [] t17), (V (.int .i64 4))] fun t18 =>
  extE t18 0 fun t19 =>
  extE t18 1 fun t20 =>
  extE t18 2 fun t21 =>
  allocE (some zc_api_Marks) ty_api_Marks [] fun t1 H1 =>
  storeE 5 H1 t1 t19 fun H2 =>
  loadE 5 H2 t1 fun t23 =>
  buildE (some pl_api_Mark) (some zc_api_Mark) [(0, (V (.int .i64 1))), (1, (V (.int .i64 4))), (2, (V (.int .i64 7)))] fun t24 =>
  tellE (marks_Say m (ro H2 t23) (ro H2 t24) (V (.int .i64 4))) [(ro H2 t23), (ro H2 t24), (V (.int .i64 4))] fun t25 =>
  extE t25 0 fun t26 =>
  extE t25 1 fun t27 =>
  extE t25 2 fun t28 =>
  storeE 5 H2 t1 t26 fun H3 =>
  loadE 5 H3 t1 fun t29 =>
  tellE (marks_Voices m (ro H3 t29) (V (.int .i64 4)) (V (.int .i64 7))) [(ro H3 t29), (V (.int .i64 4)), (V (.int .i64 7))] fun t30 =>
  loadE 5 H3 t1 fun t32 =>
  buildE (some pl_api_Mark) (some zc_api_Mark) [(0, (V (.int .i64 2))), (1, (V (.int .i64 4))), (2, (V (.int .i64 7)))] fun t33 =>
  tellE (marks_Say m (ro H3 t32) (ro H3 t33) (V (.int .i64 4))) [(ro H3 t32), (ro H3 t33), (V (.int .i64 4))] fun t34 =>
  extE t34 0 fun t35 =>
  extE t34 1 fun t36 =>
  extE t34 2 fun t37 =>
  storeE 5 H3 t1 t35 fun H4 =>
  loadE 5 H4 t1 fun t39 =>
  buildE (some pl_api_Mark) (some zc_api_Mark) [(0, (V (.int .i64 3))), (1, (V (.int .i64 4))), (2, (V (.int .i64 7)))] fun t40 =>
  tellE (marks_Say m (ro H4 t39) (ro H4 t40) (V (.int .i64 4))) [(ro H4 t39), (ro H4 t40), (V (.int .i64 4))] fun t41 =>
  extE t41 0 fun t42 =>
  extE t41 1 fun t43 =>
  extE t41 2 fun t44 =>
  allocE (some zc_api_Marks) ty_api_Marks H4 fun t9 H5 =>
  storeE 5 H5 t9 t42 fun H6 =>
  loadE 5 H6 t1 fun t46 =>
  buildE (some pl_api_Mark) (some zc_api_Mark) [(0, (V (.int .i64 3))), (1, (V (.int .i64 24))), (2, (V (.int .i64 7)))] fun t47 =>
  tellE (marks_Say m (ro H6 t46) (ro H6 t47) (V (.int .i64 4))) [(ro H6 t46), (ro H6 t47), (V (.int .i64 4))] fun t48 =>
  extE t48 0 fun t49 =>
  extE t48 1 fun t50 =>
  extE t48 2 fun t51 =>
  allocE (some zc_api_Marks) ty_api_Marks H6 fun t12 H7 =>
  storeE 5 H7 t12 t49 fun H8 =>
  binE none false false .eql t21 (V (.int .i64 0)) fun t53 =>
  condE t53 (
   unE .not t27 fun t56 =>
   condE t56 (
   binE none false false .eql t28 (V (.int .i64 0)) fun t60 =>
   condE t60 (
   lenE false true H8 t30 fun t64 =>
   binE none false false .eql t64 (V (.int .i64 2)) fun t65 =>
   condE t65 (
   idxSE 7 H8 t30 (V (.int .i64 1)) fun t69 =>
   loadE 7 H8 t69 fun t70 =>
   buildE (some pl_api_Stmt) (some zc_api_Stmt) [(0, (V (.int .i64 1))), (1, (V (.int .i64 5))), (3, (V (.int .i64 4))), (4, (V (.int .i64 7)))] fun t71 =>
   binE (some [.i .i64, .i .i64, .i .i64, .i .i64, .i .i64]) false false .eql t70 t71 fun t72 =>
   condE t72 (
   condE t36 (
   binE none false false .eql t37 (V (.int .i64 0)) fun t79 =>
   condE t79 (
   fieldE (some (0, 1)) t1 fun t82 =>
   loadE 1 H8 t82 fun t83 =>
   binE none false false .eql t83 (V (.int .i64 4)) fun t84 =>
   condE t84 (
   fieldE (some (1, 1)) t1 fun t87 =>
   loadE 1 H8 t87 fun t88 =>
   binE none false false .eql t88 (V (.int .i64 7)) fun t89 =>
   condE t89 (
   fieldE (some (2, 1)) t1 fun t92 =>
   loadE 1 H8 t92 fun t93 =>
   lenE false true H8 t93 fun t94 =>
   binE none false false .eql t94 (V (.int .i64 0)) fun t95 =>
   condE t95 (
   binE none false false .eql t44 (V (.int .i64 22)) fun t99 =>
   condE t99 (
   binE none false false .eql t51 (V (.int .i64 22)) fun t103 =>
   pickE t103 (V (.bool true)) (V (.bool false)) fun t106 =>
  pickE t106 (V (.bool true)) (V (.bool false)) fun t108 =>
  pickE t108 (V (.bool true)) (V (.bool false)) fun t110 =>
  tellK H8 (ro H8 t110)) (
   tellK H8 (ro H8 (V (.bool false))))) (
   tellK H8 (ro H8 (V (.bool false))))) (
   tellK H8 (ro H8 (V (.bool false))))) (
   tellK H8 (ro H8 (V (.bool false))))) (
   tellK H8 (ro H8 (V (.bool false))))) (
   tellK H8 (ro H8 (V (.bool false))))) (
   tellK H8 (ro H8 (V (.bool false))))) (
   tellK H8 (ro H8 (V (.bool false))))) (
   tellK H8 (ro H8 (V (.bool false))))) (
   tellK H8 (ro H8 (V (.bool false))))) (
   tellK H8 (ro H8 (V (.bool false)))) := by
  refine (tellX Try.prog GG (plenumlaw30_awake_env m) m 111 plenumlaw30_awake_c plenumlaw30_awake_h ⟨[], argsT 0 []⟩ [.tmp 0]).trans ?_
  kernel_rfl
noncomputable def plenumlaw30_awake_t (m : Nat) : List AV → RO | [] => plenumlaw30_awake m | _ => none
theorem plenumlaw30_awake_ok (m : Nat) : ∀ args X H', plenumlaw30_awake_t m args = some (X, H') → ACp Try.prog GG 9 args X := by
  intro args X H' h
  unfold plenumlaw30_awake_t at h
  split at h
  · exact tell_okK MIX (by
    intro f e h
    simp only [plenumlaw30_awake_env, Prod.mk.injEq, List.mem_cons, List.not_mem_nil, or_false] at h
    rcases h with ⟨rfl, rfl⟩ | ⟨rfl, rfl⟩
    · exact marks_Say_ok m
    · exact marks_Voices_ok m) (f := 9) (c := plenumlaw30_awake_c) Try.func9 rfl (by kernel_rfl) _ rfl Try.ntmps9 (Nat.le_of_ble_eq_true rfl) plenumlaw30_awake_h h
  · cases h
end Go.Proofs.Ytbobfgbjliolmaa
