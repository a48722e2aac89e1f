/-
  Slices of flat structs: each element so many one-cell values. Over any program.
-/
import Derived.Test.YtllfdnfiicnmiaaBase
namespace Go.Proofs.Ytllfdnfiicnmiaa
open Go.RowKit

theorem flat_length {α : Type} {f : α → List Value} {s : Nat} (hf : ∀ x, (f x).length = s) : ∀ l : List α, (l.flatMap f).length = l.length * s
  | [] => by simp
  | x :: l => by rw [List.flatMap_cons, List.length_append, hf, flat_length hf l, List.length_cons, Nat.succ_mul]; omega
theorem flat_get {α : Type} {f : α → List Value} {s : Nat} (hf : ∀ x, (f x).length = s) : ∀ (l : List α) (i : Nat) (h : i < l.length) (j : Nat), j < s → (l.flatMap f)[i * s + j]? = (f l[i])[j]?
  | [], i, h, _, _ => by simp at h
  | x :: l, 0, _, j, hj => by rw [List.flatMap_cons, Nat.zero_mul, Nat.zero_add, List.getElem?_append_left (by rw [hf]; exact hj)]; rfl
  | x :: l, i + 1, h, j, hj => by
    have hx := hf x
    rw [List.flatMap_cons, List.getElem?_append_right (by rw [hx, Nat.succ_mul]; omega), hx]
    rw [show (i + 1) * s + j - s = i * s + j from by rw [Nat.succ_mul]; omega]
    rw [flat_get hf l i (by simpa using h) j hj]
    rfl
theorem flat_take {α : Type} {f : α → List Value} {s : Nat} (hf : ∀ x, (f x).length = s) (l : List α) (k : Nat) : (l.take k).flatMap f = (l.flatMap f).take (k * s) := by
  induction l generalizing k with
  | nil => simp
  | cons x l ih =>
    cases k with
    | zero => simp
    | succ k => rw [List.take_succ_cons, List.flatMap_cons, List.flatMap_cons, ih, List.take_append, hf, Nat.succ_mul, List.take_of_length_le (l := f x) (by rw [hf]; omega), Nat.add_sub_cancel]
theorem flat_drop {α : Type} {f : α → List Value} {s : Nat} (hf : ∀ x, (f x).length = s) (l : List α) (k : Nat) : (l.drop k).flatMap f = (l.flatMap f).drop (k * s) := by
  induction l generalizing k with
  | nil => simp
  | cons x l ih =>
    cases k with
    | zero => simp
    | succ k => rw [List.drop_succ_cons, List.flatMap_cons, ih, List.drop_append, hf, Nat.succ_mul, List.drop_of_length_le (l := f x) (by rw [hf]; omega), Nat.add_sub_cancel, List.nil_append]

/-- the address of an element -/
theorem run_elemAddr {P : Program} {t e : TypeId} {size : Nat} (ht : P.underlying t = some (.slice e)) (hs : (P.info? e).map (·.size) = some size) (b off n c k : Nat) (hk : k < n) (i : Int) (hi : i = k) (w : World) :
    (Instr.indexAt t (.slice (some ⟨b, off, none⟩) n c) (.int .i64 i)).run P w = .ok (.pointer (some ⟨b, off + k * size, none⟩)) w := by
  subst hi
  have he : P.elem t = e := by simp [Program.elem, ht]
  have hz : (sizeOf e).run P w = .ok size w := by
    cases hi : P.info? e with
    | none => rw [hi] at hs; cases hs
    | some i => rw [hi] at hs; injection hs with hs; subst hs; simp [sizeOf, typeInfo, hi]
  rw [run_indexAt_slice w t _ n c .i64 k (by rw [he]; exact ht), if_pos ⟨by omega, by omega⟩, he, hz]
  simp only [Result.andThen_ok, Int.toNat_natCast]
  unfold Addr.add
  split
  · rename_i h; rw [h]; rfl
  · rfl

theorem run_cutH {P : Program} {t e : TypeId} {size : Nat} (ht : P.underlying t = some (.slice e)) (hs : (P.info? e).map (·.size) = some size) (A : Option Addr) (n c hi : Nat) (h2 : hi ≤ c) (i : Int) (hi' : i = hi) (w : World) :
    (Instr.slice t (.slice A n c) none (some (.int .i64 i)) none).run P w = .ok (.slice A hi c) w := by
  subst hi'
  have he : P.elem t = e := by simp [Program.elem, ht]
  have hz : (sizeOf e).run P w = .ok size w := by
    cases hi : P.info? e with
    | none => rw [hi] at hs; cases hs
    | some i => rw [hi] at hs; injection hs with hs; subst hs; simp [sizeOf, typeInfo, hi]
  rw [run_slice_h w t A n c (by rw [he]; exact ht) .i64 hi (by omega) (by omega), he, hz]
  simp [sliced]
  cases A with
  | none => simp
  | some a => simp [Addr.add]

/-- A slice that reads as a list of flat structs. -/
def Fs {α : Type} (f : α → List Value) (s : Nat) (w : World) (A : Option Addr) (l : List α) : Prop := Rd w A s l.length (l.flatMap f)
section
variable {α : Type} {f : α → List Value} {s : Nat} {w w' : World} {A : Option Addr} {l : List α}
theorem Fs.below (h : Fs f s w A l) (hb : Below w.heap.size w w') : Fs f s w' A l := Rd.below h hb
theorem Fs.drewN (h : Fs f s w A l) (k : Nat) : Fs f s (w.drewN k) A l := h
theorem Fs.alloc (h : Fs f s w A l) (o : Obj) : Fs f s (w.alloc o) A l := Rd.alloc h o
theorem Fs.empty (w : World) (A : Option Addr) : Fs f s w A [] := Rd.empty _ _ _
/-- the cells -/
theorem Fs.cell (h : Fs f s w A l) (hf : ∀ x, (f x).length = s) (hn : 0 < l.length) : ∃ b off, A = some ⟨b, off, none⟩ ∧ b < w.heap.size ∧ ∀ i (hi : i < l.length) j u, j < s → (f l[i])[j]? = some u → w.cell? ⟨b, off + i * s + j, none⟩ = some u := by
  obtain ⟨b, off, e, hb, hc⟩ := h.2 hn
  refine ⟨b, off, e, hb, fun i hi j u hj hu => ?_⟩
  rw [Nat.add_assoc]
  exact hc (i * s + j) u (by rw [flat_get hf l i hi j hj]; exact hu)
theorem Fs.cutA (h : Fs f s w A l) (hf : ∀ x, (f x).length = s) {lo n c : Nat} (h2 : lo + n ≤ l.length) (hc : l.length ≤ c) : Fs f s w (cutA A c lo s) ((l.drop lo).take n) := by
  have := Rd.cutA h (lo := lo) (hi := lo + n) (by omega) h2 hc
  unfold Fs
  rw [show lo + n - lo = n from by omega] at this
  rw [flat_take hf, flat_drop hf, show ((l.drop lo).take n).length = n from by simp; omega]
  exact this
theorem Fs.cutL (h : Fs f s w A l) (hf : ∀ x, (f x).length = s) {lo c : Nat} (h2 : lo ≤ l.length) (hc : l.length ≤ c) : Fs f s w (_root_.Go.Proofs.Ytllfdnfiicnmiaa.cutA A c lo s) (l.drop lo) := by
  have := h.cutA hf (lo := lo) (n := l.length - lo) (c := c) (by omega) hc
  rwa [List.take_of_length_le (by simp)] at this
theorem Fs.take (h : Fs f s w A l) (hf : ∀ x, (f x).length = s) (k : Nat) : Fs f s w A (l.take k) := by
  unfold Fs
  rw [flat_take hf]
  by_cases hk : k ≤ l.length
  · rw [List.length_take, Nat.min_eq_left hk]; exact Rd.less h hk
  · rw [List.length_take, Nat.min_eq_right (by omega), List.take_of_length_le (by rw [flat_length hf]; exact Nat.mul_le_mul_right _ (by omega))]; exact h
theorem Fs.of_own {base : Nat} {e : TypeId} {n c : Nat} (hn : n = l.length) (h : w.ownsRow base e s (.slice A n c) n (l.flatMap f)) : Fs f s w A l := by subst hn; exact Rd.of_own h
end
/-- The slice that a call hands back is its own and reads as the list l; nothing that was there has turned. -/
def FsOut {α : Type} (f : α → List Value) (s : Nat) (t : TypeId) (w : World) (l : List α) (e : Ending) (w' : World) : Prop :=
  ∃ A cap, e = .returned (.slice A l.length cap) ∧ w'.ownsRow w.heap.size t s (.slice A l.length cap) l.length (l.flatMap f) ∧ Below w.heap.size w w'
end Go.Proofs.Ytllfdnfiicnmiaa
