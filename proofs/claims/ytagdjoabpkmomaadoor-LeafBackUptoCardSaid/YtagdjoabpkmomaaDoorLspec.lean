/-
  Plain mathematics of the leaf layer: keys, values, items, lists of items in order. No program in sight.
-/
import Derived.Test.YtagdjoabpkmomaaDoorVlaws
import Derived.Sort.Walk0
namespace Go.Proofs.YtagdjoabpkmomaaDoor
open Go.RowKit

abbrev Bytes := List UInt8
def less (a b : Bytes) : Bool := Op.bytesLess a b
theorem less_nil (a : Bytes) : less a [] = false := by cases a <;> simp [less, Op.bytesLess]
theorem nil_less (a : Bytes) : less [] a = !a.isEmpty := by cases a <;> simp [less, Op.bytesLess]
theorem less_cons (x y : UInt8) (a b : Bytes) : less (x :: a) (y :: b) = (decide (x < y) || (x == y && less a b)) := by simp [less, Op.bytesLess]
theorem less_irrefl : ∀ a : Bytes, less a a = false
  | [] => less_nil []
  | x :: a => by rw [less_cons, less_irrefl a]; simp
theorem less_trans : ∀ a b c : Bytes, less a b = true → less b c = true → less a c = true
  | _, [], _, h, _ => by rw [less_nil] at h; cases h
  | _, _ :: _, [], _, h => by rw [less_nil] at h; cases h
  | [], _ :: _, _ :: _, _, _ => by simp [nil_less]
  | x :: a, y :: b, z :: c, h1, h2 => by
    rw [less_cons] at h1 h2 ⊢
    simp only [Bool.or_eq_true, Bool.and_eq_true, decide_eq_true_eq, beq_iff_eq] at h1 h2 ⊢
    rcases h1 with h1 | ⟨rfl, h1⟩
    · rcases h2 with h2 | ⟨rfl, h2⟩
      · left; exact UInt8.lt_trans h1 h2
      · left; exact h1
    · rcases h2 with h2 | ⟨rfl, h2⟩
      · left; exact h2
      · right; exact ⟨rfl, less_trans a b c h1 h2⟩
theorem less_asymm (a b : Bytes) (h : less a b = true) : less b a = false := by
  cases h2 : less b a with
  | false => rfl
  | true => have := less_trans a b a h h2; rw [less_irrefl] at this; cases this
theorem less_tri : ∀ a b : Bytes, less a b = false → less b a = false → a = b
  | [], [], _, _ => rfl
  | [], _ :: _, h, _ => by simp [nil_less] at h
  | _ :: _, [], _, h => by simp [nil_less] at h
  | x :: a, y :: b, h1, h2 => by
    rw [less_cons] at h1 h2
    simp only [Bool.or_eq_false_iff, decide_eq_false_iff_not, Bool.and_eq_false_iff, beq_eq_false_iff_ne] at h1 h2
    have hxy : x = y := UInt8.le_antisymm (UInt8.not_lt.1 h2.1) (UInt8.not_lt.1 h1.1)
    subst hxy
    rcases h1.2 with h | h
    · exact absurd rfl h
    rcases h2.2 with h' | h'
    · exact absurd rfl h'
    rw [less_tri a b h h']
/-- Go's 'a <= b' -/
theorem less_or_eq (a b : Bytes) : (less a b || a == b) = !less b a := by
  cases h : less a b with
  | true => rw [less_asymm a b h]; rfl
  | false =>
    cases h2 : less b a with
    | true =>
      have hne : a ≠ b := by rintro rfl; rw [less_irrefl] at h2; cases h2
      simpa using hne
    | false => simp [less_tri a b h h2]

def signB (c : UInt8) : Bool := (97 ≤ c.toNat && c.toNat ≤ 122) || (48 ≤ c.toNat && c.toNat ≤ 57) || c.toNat == 45 || c.toNat == 46 || c.toNat == 47 || c.toNat == 95
def patB (k : Bytes) : Bool := decide (k.length ≤ 24) && k.all signB
def keyB (k : Bytes) : Bool := !k.isEmpty && patB k
/-- a value: its kind, its number, its text -/
def valB (kind i : Int) (s : Bytes) : Bool :=
  (kind == 0 && i == 0 && s.isEmpty) || (kind == 1 && (i == 0 || i == 1) && s.isEmpty) || (kind == 2 && s.isEmpty) || (kind == 3 && i == 0 && decide (s.length ≤ 64))

structure Item where
  key : Bytes
  kind : Int
  i : Int
  s : Bytes
  ver : Int
  deriving DecidableEq
def Item.zero : Item := ⟨[], 0, 0, [], 0⟩
def cStr (s : Bytes) : Value := .string ⟨s.toArray⟩
def cI (n : Int) : Value := .int .i64 n
def Item.cells (x : Item) : List Value := [cStr x.key, cI x.kind, cI x.i, cStr x.s, cI x.ver]
/-- the numbers of an item are of 64 bits -/
def NumOk (x : Item) : Prop := -9223372036854775808 ≤ x.i ∧ x.i < 9223372036854775808
/-- what is known of an item that came in -/
def ItemIn (x : Item) : Prop := x.key.length ≤ maxLen ∧ x.s.length ≤ maxLen ∧ NumOk x
def itemB (x : Item) : Bool := keyB x.key && valB x.kind x.i x.s && x.kind != 0 && decide (0 ≤ x.ver) && decide (x.ver ≤ 2147483647)

/-- what is wrong with a list from place k on, the one ahead of it being 'prev' -/
def chkFrom : Option Bytes → Nat → List Item → Nat × Nat
  | _, _, [] => (0, 0)
  | p, k, x :: r => if !itemB x then (1, k) else if (p.map fun q => !less q x.key).getD false then (3, k) else chkFrom (some x.key) (k + 1) r
def chk (l : List Item) : Nat × Nat := if 64 < l.length then (5, 64) else chkFrom none 0 l
def leafB (l : List Item) : Bool := (chk l).1 == 0

def encV (kind i : Int) (s : Bytes) : Bytes :=
  if kind = 1 then [1, UInt8.ofNat i.toNat] else if kind = 2 then 2 :: put (zig i) else if kind = 3 then 3 :: (put s.length ++ s) else [0]
def encI (x : Item) : Bytes := (put x.key.length ++ x.key) ++ encV x.kind x.i x.s ++ put x.ver.toNat
def weight (l : List Item) : Nat := (l.map fun x => x.key.length + (encV x.kind x.i x.s).length).sum

/-- how many keys are ahead of k -/
def posK (l : List Item) (k : Bytes) : Nat := (l.filter fun x => less x.key k).length
def atK (l : List Item) (k : Bytes) : Option Nat := l.findIdx? fun x => x.key == k
def withoutK (l : List Item) (k : Bytes) : List Item := l.filter fun x => x.key != k
def withK (l : List Item) (x : Item) : List Item := (l.filter fun y => less y.key x.key) ++ [x] ++ l.filter fun y => less x.key y.key
def inK (k lo hi : Bytes) : Bool := keyB k && patB lo && patB hi && !less k lo && (hi.isEmpty || less k hi)
def scanK (l : List Item) (lo hi : Bytes) (most : Int) : List Item := (l.filter fun x => inK x.key lo hi).take most.toNat

def SortedK (l : List Item) : Prop := l.Pairwise fun a b => less a.key b.key = true

theorem chkFrom_ok : ∀ (l : List Item) (p : Option Bytes) (k : Nat), (chkFrom p k l).1 = 0 → (∀ x ∈ l, itemB x = true) ∧ SortedK l ∧ (∀ q x, p = some q → x ∈ l → less q x.key = true)
  | [], _, _, _ => ⟨by simp, .nil, by simp⟩
  | x :: r, p, k, h => by
    rw [chkFrom] at h
    split at h
    · cases h
    rename_i h1
    split at h
    · cases h
    rename_i h2
    obtain ⟨i1, i2, i3⟩ := chkFrom_ok r _ _ h
    have hx : itemB x = true := by simpa using h1
    refine ⟨fun y hy => ?_, .cons (fun y hy => i3 _ _ rfl hy) i2, fun q y hq hy => ?_⟩
    · rcases List.mem_cons.1 hy with rfl | hy
      · exact hx
      · exact i1 y hy
    · subst hq
      have hq : less q x.key = true := by simpa using h2
      rcases List.mem_cons.1 hy with rfl | hy
      · exact hq
      · exact less_trans _ _ _ hq (i3 _ _ rfl hy)
theorem chkFrom_mk : ∀ (l : List Item) (p : Option Bytes) (k : Nat), (∀ x ∈ l, itemB x = true) → SortedK l → (∀ q x, p = some q → x ∈ l → less q x.key = true) → chkFrom p k l = (0, 0)
  | [], _, _, _, _, _ => rfl
  | x :: r, p, k, h1, h2, h3 => by
    rw [chkFrom, if_neg (by simpa using h1 x (by simp))]
    rw [if_neg]
    · cases h2 with
      | cons a b => exact chkFrom_mk r _ _ (fun y hy => h1 y (List.mem_cons_of_mem _ hy)) b (fun q y hq hy => by injection hq with hq; subst hq; exact a y hy)
    · cases p with
      | none => simp
      | some q => simpa using h3 q x rfl (by simp)
theorem leafB_iff (l : List Item) : leafB l = true ↔ l.length ≤ 64 ∧ (∀ x ∈ l, itemB x = true) ∧ SortedK l := by
  unfold leafB chk
  constructor
  · intro h
    split at h
    · simp at h
    · rename_i h1
      obtain ⟨a, b, _⟩ := chkFrom_ok l none 0 (by simpa using h)
      exact ⟨by omega, a, b⟩
  · rintro ⟨h0, h1, h2⟩
    rw [if_neg (by omega), chkFrom_mk l none 0 h1 h2 (by simp)]
    rfl
theorem chk_of_leaf (l : List Item) (h : leafB l = true) : chk l = (0, 0) := by
  obtain ⟨h0, h1, h2⟩ := (leafB_iff l).1 h
  unfold chk
  rw [if_neg (by omega), chkFrom_mk l none 0 h1 h2 (by simp)]
theorem chkFrom_err : ∀ (l : List Item) (p : Option Bytes) (k : Nat), (chkFrom p k l).1 = 0 ∧ (chkFrom p k l).2 = 0 ∨ (chkFrom p k l).1 = 1 ∨ (chkFrom p k l).1 = 3
  | [], _, _ => by simp [chkFrom]
  | x :: r, p, k => by
    rw [chkFrom]
    split
    · simp
    · split
      · simp
      · exact chkFrom_err r _ _
/-- one step: place k of the list -/
theorem chkFrom_step (l : List Item) (k : Nat) (h : k < l.length) (p : Option Bytes) : chkFrom p k (l.drop k) = if !itemB l[k] then (1, k) else if (p.map fun q => !less q l[k].key).getD false then (3, k) else chkFrom (some l[k].key) (k + 1) (l.drop (k + 1)) := by
  rw [List.drop_eq_getElem_cons h, chkFrom]

theorem posK_le (l : List Item) (k : Bytes) : posK l k ≤ l.length := List.length_filter_le _ _
/-- a sorted list parts at posK -/
theorem sorted_split (k : Bytes) : ∀ (l : List Item), SortedK l → (∀ x ∈ l.take (posK l k), less x.key k = true) ∧ (∀ x ∈ l.drop (posK l k), less x.key k = false)
  | [], _ => by simp [posK]
  | x :: r, h => by
    cases h with
    | cons a b =>
      obtain ⟨i1, i2⟩ := sorted_split k r b
      cases hx : less x.key k with
      | true =>
        have hp : posK (x :: r) k = posK r k + 1 := by simp [posK, hx]
        rw [hp]
        refine ⟨fun y hy => ?_, fun y hy => i2 y (by simpa using hy)⟩
        simp only [List.take_succ_cons, List.mem_cons] at hy
        rcases hy with rfl | hy
        · exact hx
        · exact i1 y hy
      | false =>
        have hr : ∀ y ∈ r, less y.key k = false := by
          intro y hy
          cases hyk : less y.key k with
          | false => rfl
          | true => have := less_trans _ _ _ (a y hy) hyk; rw [hx] at this; cases this
        have hp : posK (x :: r) k = 0 := by
          simp only [posK, List.filter_cons, hx, Bool.false_eq_true, if_false, List.length_eq_zero_iff, List.filter_eq_nil_iff]
          intro y hy; rw [hr y hy]; simp
        rw [hp]
        refine ⟨by simp, fun y hy => ?_⟩
        simp only [List.drop_zero, List.mem_cons] at hy
        rcases hy with rfl | hy
        · exact hx
        · exact hr y hy
theorem sorted_lt {l : List Item} (h : SortedK l) {i j : Nat} (hij : i < j) (hj : j < l.length) : less l[i].key l[j].key = true := List.pairwise_iff_getElem.1 h i j (by omega) hj hij
theorem posK_lt {l : List Item} (h : SortedK l) (k : Bytes) {i : Nat} (hi : i < l.length) : less l[i].key k = decide (i < posK l k) := by
  obtain ⟨h1, h2⟩ := sorted_split k l h
  by_cases hp : i < posK l k
  · rw [decide_eq_true hp]
    exact h1 _ (List.mem_take_iff_getElem.2 ⟨i, by omega, rfl⟩)
  · rw [decide_eq_false hp]
    exact h2 _ (List.mem_drop_iff_getElem.2 ⟨i - posK l k, by omega, by congr 1; omega⟩)
/-- the position, by what it does -/
theorem posK_unique {l : List Item} (h : SortedK l) (k : Bytes) (p : Nat) (hp : p ≤ l.length) (h1 : ∀ i (hi : i < l.length), i < p → less l[i].key k = true) (h2 : ∀ i (hi : i < l.length), p ≤ i → less l[i].key k = false) : p = posK l k := by
  have hle := posK_le l k
  rcases Nat.lt_trichotomy p (posK l k) with hlt | rfl | hlt
  · have a := h2 p (by omega) (Nat.le_refl _)
    rw [posK_lt h k (by omega), decide_eq_true hlt] at a; cases a
  · rfl
  · have a := h1 (posK l k) (by omega) hlt
    rw [posK_lt h k (by omega)] at a; simp at a
/-- does a key stand there? -/
def thereK (l : List Item) (k : Bytes) : Bool := ((l[posK l k]?).map fun x => x.key == k).getD false
theorem atK_sorted {l : List Item} (h : SortedK l) (k : Bytes) : atK l k = if thereK l k then some (posK l k) else none := by
  unfold thereK
  by_cases hp : posK l k < l.length
  · rw [List.getElem?_eq_getElem hp]
    simp only [Option.map_some, Option.getD_some]
    by_cases hk : l[posK l k].key = k
    · rw [if_pos (by simpa using hk)]
      unfold atK
      rw [List.findIdx?_eq_some_iff_getElem]
      refine ⟨hp, by simpa using hk, fun j hj => ?_⟩
      have := posK_lt h k (i := j) (by omega)
      rw [decide_eq_true hj] at this
      intro e
      have e' : l[j].key = k := by simpa using e
      rw [e', less_irrefl] at this; cases this
    · rw [if_neg (by simpa using hk)]
      unfold atK
      rw [List.findIdx?_eq_none_iff]
      intro x hx
      obtain ⟨i, hi, rfl⟩ := List.getElem_of_mem hx
      by_cases e : l[i].key = k
      · exfalso
        have a := posK_lt h k hi
        rw [e, less_irrefl] at a
        have hge : posK l k ≤ i := by simpa using a.symm
        rcases Nat.lt_or_eq_of_le hge with hlt | heq
        · have b := sorted_lt h hlt hi
          have c := posK_lt h k hp
          simp only [Nat.lt_irrefl, decide_false] at c
          rw [e] at b
          rw [b] at c; cases c
        · subst heq; exact hk e
      · simpa using e
  · rw [List.getElem?_eq_none (by omega)]
    simp only [Option.map_none, Option.getD_none, Bool.false_eq_true, if_false]
    unfold atK
    rw [List.findIdx?_eq_none_iff]
    intro x hx
    obtain ⟨i, hi, rfl⟩ := List.getElem_of_mem hx
    have a := posK_lt h k hi
    rw [decide_eq_true (by omega)] at a
    by_cases e : l[i].key = k
    · rw [e, less_irrefl] at a; cases a
    · simpa using e
theorem filter_lt_take {l : List Item} (h : SortedK l) (k : Bytes) : (l.filter fun x => less x.key k) = l.take (posK l k) := by
  obtain ⟨h1, h2⟩ := sorted_split k l h
  conv => lhs; rw [← List.take_append_drop (posK l k) l]
  rw [List.filter_append, List.filter_eq_self.2 h1, List.filter_eq_nil_iff.2 (fun x hx => by rw [h2 x hx]; simp), List.append_nil]
theorem filter_gt_drop {l : List Item} (h : SortedK l) (k : Bytes) : (l.filter fun x => less k x.key) = l.drop (if thereK l k then posK l k + 1 else posK l k) := by
  have key : ∀ i (hi : i < l.length), less k l[i].key = decide ((if thereK l k then posK l k + 1 else posK l k) ≤ i) := by
    intro i hi
    have a := posK_lt h k hi
    by_cases hlt : i < posK l k
    · rw [decide_eq_true hlt] at a
      rw [less_asymm _ _ a, decide_eq_false (by split <;> omega)]
    · rw [decide_eq_false hlt] at a
      by_cases he : i = posK l k
      · subst he
        cases ht : thereK l k with
        | true =>
          have : l[posK l k].key = k := by unfold thereK at ht; rw [List.getElem?_eq_getElem hi] at ht; simpa using ht
          rw [this, less_irrefl]; simp
        | false =>
          have : l[posK l k].key ≠ k := by unfold thereK at ht; rw [List.getElem?_eq_getElem hi] at ht; simpa using ht
          cases hb : less k l[posK l k].key with
          | true => simp
          | false => exact absurd (less_tri _ _ a hb) this
      · have b := sorted_lt h (i := posK l k) (j := i) (by omega) hi
        have c := posK_lt h k (i := posK l k) (by omega)
        simp only [Nat.lt_irrefl, decide_false] at c
        rw [decide_eq_true (by split <;> omega)]
        cases hb : less k l[posK l k].key with
        | true => exact less_trans _ _ _ hb b
        | false => rw [← less_tri _ _ c hb]; exact b
  generalize (if thereK l k then posK l k + 1 else posK l k) = q at key
  conv => lhs; rw [← List.take_append_drop q l]
  rw [List.filter_append, List.filter_eq_nil_iff.2, List.filter_eq_self.2, List.nil_append]
  · intro x hx
    obtain ⟨j, hj, rfl⟩ := List.mem_drop_iff_getElem.1 hx
    rw [key (q + j) (by omega), decide_eq_true (by omega)]
  · intro x hx
    obtain ⟨j, hj, rfl⟩ := List.mem_take_iff_getElem.1 hx
    rw [key _ (by omega), decide_eq_false (by omega)]; simp
theorem withK_sorted {l : List Item} (h : SortedK l) (x : Item) : withK l x = l.take (posK l x.key) ++ [x] ++ l.drop (if thereK l x.key then posK l x.key + 1 else posK l x.key) := by
  unfold withK; rw [filter_lt_take h, filter_gt_drop h]
theorem withoutK_sorted {l : List Item} (h : SortedK l) (k : Bytes) (ht : thereK l k = true) : withoutK l k = l.take (posK l k) ++ l.drop (posK l k + 1) := by
  have e : withoutK l k = (l.filter fun x => less x.key k) ++ (l.filter fun x => less k x.key) := by
    have hsp := sorted_split k l h
    unfold withoutK
    conv => lhs; rw [← List.take_append_drop (posK l k) l]
    conv => rhs; rw [filter_lt_take h, filter_gt_drop h, if_pos ht]
    rw [List.filter_append, List.filter_eq_self.2]
    · congr 1
      have hp : posK l k < l.length := by
        unfold thereK at ht
        rcases Nat.lt_or_ge (posK l k) l.length with hlt | hge
        · exact hlt
        · rw [List.getElem?_eq_none hge] at ht; cases ht
      have hk : l[posK l k].key = k := by unfold thereK at ht; rw [List.getElem?_eq_getElem hp] at ht; simpa using ht
      rw [List.drop_eq_getElem_cons hp, List.filter_cons, if_neg (by simpa using hk)]
      rw [List.filter_eq_self]
      intro x hx
      obtain ⟨j, hj, rfl⟩ := List.mem_drop_iff_getElem.1 hx
      have := sorted_lt h (i := posK l k) (j := posK l k + 1 + j) (by omega) (by omega)
      rw [hk] at this
      have hne : ¬ l[posK l k + 1 + j].key = k := by intro e; rw [e, less_irrefl] at this; cases this
      simpa using hne
    · intro x hx
      have := hsp.1 x hx
      have hne : ¬ x.key = k := by intro e; rw [e, less_irrefl] at this; cases this
      simpa using hne
  rw [e, filter_lt_take h, filter_gt_drop h, if_pos ht]
end Go.Proofs.YtagdjoabpkmomaaDoor
