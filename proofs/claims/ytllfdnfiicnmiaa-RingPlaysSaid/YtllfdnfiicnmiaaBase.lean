/-
  Plain words for the walks of this seat: a slice that reads as a list (Rd), bytes as cells (cB), an owned row turned into a reading, appends that end in Below. Over any program.
-/
import Derived.WalkKit
import Derived.Deep.AppendLies
import Derived.Deep.Draws
import Derived.Lib.AppendStr
namespace Go.Proofs.Ytllfdnfiicnmiaa
open Go.RowKit

theorem hide {p : Prop} (h : p) : Hid p := h
theorem unhide {p : Prop} (h : Hid p) : p := h

theorem below_drewN {B : Nat} {a w : World} (h : Below B a w) (n : Nat) : Below B a (w.drewN n) := ⟨h.os, h.tape, h.output, h.size, h.block⟩

/-- a slice's length: for a loop's measure -/
def lenOf : Value → Nat | .slice _ n _ => n | _ => 0
theorem ret1 {k : IntKind} {a b : Int} (h : a = b) : Ending.returned (.int k a) = .returned (.int k b) := by rw [h]
theorem ret2 {k1 k2 : IntKind} {a b a' b' : Int} (h1 : a = a') (h2 : b = b') : Ending.returned (.tuple #[.int k1 a, .int k2 b]) = .returned (.tuple #[.int k1 a', .int k2 b']) := by rw [h1, h2]
theorem ret3 {k1 k2 k3 : IntKind} {a b c a' b' c' : Int} (h1 : a = a') (h2 : b = b') (h3 : c = c') :
    Ending.returned (.tuple #[.int k1 a, .int k2 b, .int k3 c]) = .returned (.tuple #[.int k1 a', .int k2 b', .int k3 c']) := by rw [h1, h2, h3]
theorem retb {a b : Bool} (h : a = b) : Ending.returned (.bool a) = .returned (.bool b) := by rw [h]

/-- a byte as a cell -/
def cB (b : UInt8) : Value := .int .u8 (b.toNat : Int)
theorem cB_one (l : List UInt8) : ∀ u ∈ l.map cB, u.oneCell' = true := by
  intro u hu; simp only [List.mem_map] at hu; obtain ⟨b, _, rfl⟩ := hu; rfl

theorem cB_of (n : Nat) (h : n < 256) : cB (UInt8.ofNat n) = .int .u8 (n : Int) := by
  simp [cB]; omega

/-- The address A, with n elements of 'size' cells each, reads as the cells xs. -/
def Rd (w : World) (A : Option Addr) (size n : Nat) (xs : List Value) : Prop :=
  xs.length = n * size ∧ (0 < n → ∃ b off, A = some ⟨b, off, none⟩ ∧ b < w.heap.size ∧ ∀ j u, xs[j]? = some u → w.cell? ⟨b, off + j, none⟩ = some u)

section
variable {w w' : World} {A : Option Addr} {size n : Nat} {xs : List Value}
theorem Rd.empty (w : World) (A : Option Addr) (size : Nat) : Rd w A size 0 [] := ⟨by simp, fun h => by omega⟩
theorem Rd.keep (h : Rd w A size n xs) (hs : w.heap.size ≤ w'.heap.size) (hk : ∀ b o, b < w.heap.size → w'.cell? ⟨b, o, none⟩ = w.cell? ⟨b, o, none⟩) : Rd w' A size n xs :=
  ⟨h.1, fun hn => by
    obtain ⟨b, off, e, hb, hc⟩ := h.2 hn
    exact ⟨b, off, e, by omega, fun j u hu => (hk _ _ hb).trans (hc j u hu)⟩⟩
theorem Rd.below (h : Rd w A size n xs) (hb : Below w.heap.size w w') : Rd w' A size n xs := h.keep hb.size fun b o hlt => hb.cell (p := ⟨b, o, none⟩) hlt
theorem Rd.drew (h : Rd w A size n xs) : Rd w.drew A size n xs := h
theorem Rd.drewN (h : Rd w A size n xs) (k : Nat) : Rd (w.drewN k) A size n xs := h
theorem Rd.alloc (h : Rd w A size n xs) (o : Obj) : Rd (w.alloc o) A size n xs := h.below ((Below.refl _ _).alloc (Nat.le_refl _) o)
theorem Rd.at_ (h : Rd w A size n xs) (hn : 0 < n) : ∃ b off, A = some ⟨b, off, none⟩ ∧ b < w.heap.size ∧ ∀ j u, xs[j]? = some u → w.cell? ⟨b, off + j, none⟩ = some u := h.2 hn
/-- what the call owns, read -/
theorem Rd.of_own {base : Nat} {e : TypeId} {c : Nat} (h : w.ownsRow base e size (.slice A n c) n xs) : Rd w A size n xs := by
  refine ⟨h.1, fun hn => ?_⟩
  obtain ⟨g, cap, hv, _, hlt⟩ := h.form hn
  have hA : A = some ⟨g, 0, none⟩ := by injection hv
  subst hA
  exact ⟨g, 0, rfl, hlt, fun j u hu => by
    have := h.cells (g := g) rfl j u hu
    rw [show (⟨g, 0, none⟩ : Addr).add j = ⟨g, 0 + j, none⟩ from by unfold Addr.add; split <;> simp_all] at this
    exact this⟩
/-- a cut from the front -/
theorem Rd.cut (h : Rd w A size n xs) {k cap : Nat} (hk : k ≤ n) (hc : n ≤ cap) :
    Rd w (if cap = k then A else A.map (·.add (k * size))) size (n - k) (xs.drop (k * size)) := by
  refine ⟨by rw [List.length_drop, h.1, Nat.sub_mul], fun hn => ?_⟩
  obtain ⟨b, off, rfl, hb, hcell⟩ := h.2 (by omega)
  rw [if_neg (by omega)]
  refine ⟨b, off + k * size, ?_, hb, fun j u hu => ?_⟩
  · simp only [Option.map_some, Addr.add]; split <;> simp_all
  · rw [Nat.add_assoc]; exact hcell _ u (by rw [← hu, List.getElem?_drop])
/-- fewer of them -/
theorem Rd.less (h : Rd w A size n xs) {k : Nat} (hk : k ≤ n) : Rd w A size k (xs.take (k * size)) := by
  refine ⟨by rw [List.length_take, h.1]; exact Nat.min_eq_left (Nat.mul_le_mul_right _ hk), fun hn => ?_⟩
  obtain ⟨b, off, e, hb, hcell⟩ := h.2 (by omega)
  refine ⟨b, off, e, hb, fun j u hu => hcell j u ?_⟩
  rw [List.getElem?_take] at hu
  split at hu
  · exact hu
  · cases hu
end

/-- the address behind a cut from 'lo' on -/
def cutA (A : Option Addr) (c lo size : Nat) : Option Addr := if c = lo then A else A.map (·.add (lo * size))
theorem Rd.cutA {w : World} {A : Option Addr} {size n : Nat} {xs : List Value} (h : Rd w A size n xs) {lo hi c : Nat} (h1 : lo ≤ hi) (h2 : hi ≤ n) (hc : n ≤ c) :
    Rd w (cutA A c lo size) size (hi - lo) ((xs.drop (lo * size)).take ((hi - lo) * size)) := (h.cut (by omega) hc).less (by omega)
theorem run_cut {P : Program} {t e : TypeId} {size : Nat} (ht : P.underlying t = some (.slice e)) (hs : (P.info? e).map (·.size) = some size) (A : Option Addr) (n c lo hi : Nat) (h1 : lo ≤ hi) (h2 : hi ≤ c) (a b : Int) (ha : a = lo) (hb : b = hi) (w : World) :
    (Instr.slice t (.slice A n c) (some (.int .i64 a)) (some (.int .i64 b)) none).run P w = .ok (.slice (cutA A c lo size) (hi - lo) (c - lo)) w := by
  subst ha hb
  have he : P.elem t = e := by simp [Program.elem, ht]
  have hz : (sizeOf e).run P w = .ok size w := by
    cases hi : P.info? e with
    | none => rw [hi] at hs; cases hs
    | some i => rw [hi] at hs; injection hs with hs; subst hs; simp [sizeOf, typeInfo, hi]
  rw [run_slice_lh w t A n c (by rw [he]; exact ht) .i64 .i64 lo hi (by omega) (by omega) (by omega), he, hz]
  simp [sliced, _root_.Go.Proofs.Ytllfdnfiicnmiaa.cutA]
theorem run_cut_from {P : Program} {t e : TypeId} {size : Nat} (ht : P.underlying t = some (.slice e)) (hs : (P.info? e).map (·.size) = some size) (A : Option Addr) (n c lo : Nat) (h1 : lo ≤ n) (a : Int) (ha : a = lo) (w : World) :
    (Instr.slice t (.slice A n c) (some (.int .i64 a)) none none).run P w = .ok (.slice (cutA A c lo size) (n - lo) (c - lo)) w := by
  subst ha
  have he : P.elem t = e := by simp [Program.elem, ht]
  have hz : (sizeOf e).run P w = .ok size w := by
    cases hi : P.info? e with
    | none => rw [hi] at hs; cases hs
    | some i => rw [hi] at hs; injection hs with hs; subst hs; simp [sizeOf, typeInfo, hi]
  rw [run_slice_l w t A n c (by rw [he]; exact ht) .i64 lo (by omega) (by omega), he, hz]
  simp [sliced, _root_.Go.Proofs.Ytllfdnfiicnmiaa.cutA]

/-- a byte of a string, as a number with a name of its own -/
theorem run_strIdx {P : Program} {t : TypeId} (ht : P.underlying t = some .string) (l : List UInt8) (k : Nat) (hk : k < l.length) (d : Nat) (hd : d = l[k].toNat) (i : Int) (hi : i = k) (w : World) :
    (Instr.index t (.string ⟨l.toArray⟩) (.int .i64 i)).run P w = .ok (.int .u8 (d : Int)) w := by
  subst hi hd
  rw [run_index_string w t _ .i64 k ht, dif_pos (by simp [ByteArray.size]; omega)]
  simp; rfl

/-- a string cut -/
theorem extract_list (l : List UInt8) (a b : Nat) : (ByteArray.mk l.toArray).extract a b = ⟨((l.drop a).take (b - a)).toArray⟩ := ByteArray.extract_mk l a b
theorem run_strCut {P : Program} {t : TypeId} (ht : P.underlying t = some .string) (l : List UInt8) (lo hi : Nat) (h1 : lo ≤ hi) (h2 : hi ≤ l.length) (i j : Int) (hi' : i = lo) (hj : j = hi) (w : World) :
    (Instr.slice t (.string ⟨l.toArray⟩) (some (.int .i64 i)) (some (.int .i64 j)) none).run P w = .ok (.string ⟨((l.drop lo).take (hi - lo)).toArray⟩) w := by
  subst hi' hj
  rw [run_slice_string w t _ .i64 .i64 lo hi ht (by omega) (by omega) (by simp [ByteArray.size]; omega), Int.toNat_natCast, Int.toNat_natCast, extract_list]
theorem run_strCutH {P : Program} {t : TypeId} (ht : P.underlying t = some .string) (l : List UInt8) (hi : Nat) (h2 : hi ≤ l.length) (j : Int) (hj : j = hi) (w : World) :
    (Instr.slice t (.string ⟨l.toArray⟩) none (some (.int .i64 j)) none).run P w = .ok (.string ⟨(l.take hi).toArray⟩) w := by
  subst hj
  rw [run_slice_string_h w t _ ht .i64 hi (by omega) (by simp [ByteArray.size]; omega), Int.toNat_natCast, extract_list]; simp
theorem run_strCutL {P : Program} {t : TypeId} (ht : P.underlying t = some .string) (l : List UInt8) (lo : Nat) (h2 : lo ≤ l.length) (j : Int) (hj : j = lo) (w : World) :
    (Instr.slice t (.string ⟨l.toArray⟩) (some (.int .i64 j)) none none).run P w = .ok (.string ⟨(l.drop lo).toArray⟩) w := by
  subst hj
  rw [run_slice_string_l w t _ ht .i64 lo (by omega) (by simp [ByteArray.size]; omega), Int.toNat_natCast, extract_list]
  congr 3
  rw [List.take_of_length_le]
  simp [ByteArray.size]

theorem elem_self {P : Program} {t e : TypeId} (ht : P.underlying t = some (.slice e)) : P.underlying t = some (.slice (P.elem t)) := by
  have he : P.elem t = e := by simp [Program.elem, ht]
  rw [he]; exact ht
theorem run_strAtH {P : Program} {t : TypeId} (ht : P.underlying t = some .string) (l : List UInt8) (hi : Nat) (h2 : hi ≤ l.length) (w : World) :
    (Instr.sliceAt t (.string ⟨l.toArray⟩) none (some (.int .i64 (hi : Int))) none).run P w = .ok (.string ⟨(l.take hi).toArray⟩) w := by
  rw [run_sliceAt_string w t _ _ _ _ ht]; exact run_strCutH ht l hi h2 _ rfl w
theorem run_cutAt {P : Program} {t e : TypeId} {size : Nat} (ht : P.underlying t = some (.slice e)) (hs : (P.info? e).map (·.size) = some size) (A : Option Addr) (n c lo hi : Nat) (h1 : lo ≤ hi) (h2 : hi ≤ c) (w : World) :
    (Instr.sliceAt t (.slice A n c) (some (.int .i64 (lo : Int))) (some (.int .i64 (hi : Int))) none).run P w = .ok (.slice (cutA A c lo size) (hi - lo) (c - lo)) w := by
  rw [run_sliceAt_slice w t _ _ _ _ (elem_self ht)]; exact run_cut ht hs A n c lo hi h1 h2 _ _ rfl rfl w
theorem run_cutAtL {P : Program} {t e : TypeId} {size : Nat} (ht : P.underlying t = some (.slice e)) (hs : (P.info? e).map (·.size) = some size) (A : Option Addr) (n c lo : Nat) (h1 : lo ≤ n) (w : World) :
    (Instr.sliceAt t (.slice A n c) (some (.int .i64 (lo : Int))) none none).run P w = .ok (.slice (cutA A c lo size) (n - lo) (c - lo)) w := by
  rw [run_sliceAt_slice w t _ _ _ _ (elem_self ht)]; exact run_cut_from ht hs A n c lo h1 _ rfl w
theorem run_cutAtH {P : Program} {t e : TypeId} {size : Nat} (ht : P.underlying t = some (.slice e)) (hs : (P.info? e).map (·.size) = some size) (A : Option Addr) (n c hi : Nat) (h2 : hi ≤ c) (w : World) :
    (Instr.sliceAt t (.slice A n c) none (some (.int .i64 (hi : Int))) none).run P w = .ok (.slice (cutA A c 0 size) hi c) w := by
  have he : P.elem t = e := by simp [Program.elem, ht]
  have hz : (sizeOf e).run P w = .ok size w := by
    cases hi : P.info? e with
    | none => rw [hi] at hs; cases hs
    | some i => rw [hi] at hs; injection hs with hs; subst hs; simp [sizeOf, typeInfo, hi]
  rw [run_sliceAt_slice w t _ _ _ _ (elem_self ht), run_slice_h w t A n c (by rw [he]; exact ht) .i64 hi (by omega) (by omega), he, hz]
  simp [sliced, _root_.Go.Proofs.Ytllfdnfiicnmiaa.cutA]

/-- A slice that reads as bytes. -/
def Bs (w : World) (A : Option Addr) (l : List UInt8) : Prop := Rd w A 1 l.length (l.map cB)
theorem Bs.below {w w' : World} {A : Option Addr} {l : List UInt8} (h : Bs w A l) (hb : Below w.heap.size w w') : Bs w' A l := Rd.below h hb
theorem Bs.cutA {w : World} {A : Option Addr} {l : List UInt8} (h : Bs w A l) {lo n c : Nat} (h2 : lo + n ≤ l.length) (hc : l.length ≤ c) : Bs w (cutA A c lo 1) ((l.drop lo).take n) := by
  have := Rd.cutA h (lo := lo) (hi := lo + n) (by omega) h2 hc
  unfold Bs
  rw [show lo + n - lo = n from by omega] at this
  simp only [Nat.mul_one] at this
  rw [List.map_take, List.map_drop, show ((l.drop lo).take n).length = n from by simp; omega]
  exact this
theorem bs_cutL {w : World} {A : Option Addr} {l : List UInt8} (h : Bs w A l) {lo c : Nat} (h2 : lo ≤ l.length) (hc : l.length ≤ c) : Bs w (cutA A c lo 1) (l.drop lo) := by
  have := h.cutA (lo := lo) (n := l.length - lo) (c := c) (by omega) hc
  rwa [List.take_of_length_le (by simp)] at this
theorem Bs.cell {w : World} {A : Option Addr} {l : List UInt8} (h : Bs w A l) (hn : 0 < l.length) : ∃ b off, A = some ⟨b, off, none⟩ ∧ b < w.heap.size ∧ ∀ j (hj : j < l.length), w.cell? ⟨b, off + j, none⟩ = some (.int .u8 (l[j].toNat : Int)) := by
  obtain ⟨b, off, e, hb, hc⟩ := h.2 hn
  exact ⟨b, off, e, hb, fun j hj => hc j _ (by simp [hj, cB])⟩

/-- The slice that a call hands back is its own and reads as the bytes l; nothing that was there has turned. 't': the byte's type number. -/
def BytesOut (t : TypeId) (w : World) (l : List UInt8) (e : Ending) (w' : World) : Prop :=
  ∃ A cap, e = .returned (.slice A l.length cap) ∧ w'.ownsRow w.heap.size t 1 (.slice A l.length cap) l.length (l.map cB) ∧ Below w.heap.size w w'

theorem bytesOut_of {t : TypeId} {w w' : World} {l : List UInt8} {A : Option Addr} {n cap : Nat} (hn : n = l.length)
    (hown : w'.ownsRow w.heap.size t 1 (.slice A l.length cap) l.length (l.map cB)) (hb : Below w.heap.size w w') : BytesOut t w l (.returned (.slice A n cap)) w' := by
  subst hn; exact ⟨A, cap, rfl, hown, hb⟩

theorem Bs.of_own {w : World} {base : Nat} {t : TypeId} {A : Option Addr} {c : Nat} {l : List UInt8} (h : w.ownsRow base t 1 (.slice A l.length c) l.length (l.map cB)) : Bs w A l := Rd.of_own h

theorem run_string_of {P : Program} (src dst e : TypeId) (hs : P.underlying src = some (.slice e)) (he : P.underlying e = some (.int .u8)) (hd : P.underlying dst = some .string)
    (w : World) (A : Option Addr) (c : Nat) (l : List UInt8) (hb : Bs w A l) : (_root_.Go.convert src dst (.slice A l.length c)).run P w = .ok (.string ⟨l.toArray⟩) w := by
  cases A with
  | none =>
    have h0 : l.length = 0 := by
      rcases Nat.eq_zero_or_pos l.length with h | h
      · exact h
      · obtain ⟨b, off, e, _⟩ := hb.cell h; cases e
    have hl : l = [] := List.eq_nil_of_length_eq_zero h0
    subst hl
    exact run_convert_bytes_nil w src e hs he _ c dst hd
  | some a =>
    refine run_convert_bytes_back w src dst e a c l hs he hd fun j hj => ?_
    obtain ⟨b, off, e, _, hc⟩ := hb.cell (by omega)
    injection e with e
    subst e
    rw [show (⟨b, off, none⟩ : Addr).add j = ⟨b, off + j, none⟩ from by unfold Addr.add; split <;> simp_all]
    exact hc j hj

/-- a block that is known whole, read from its head -/
theorem Rd.of_block {w : World} {b : Nat} {cs : Array Value} {t : TypeId} {fr : Nat × Nat} {size n : Nat} {xs : List Value} (hb : w.heap[b]? = some (.cells cs t fr)) (hx : cs.toList.take (n * size) = xs) (hl : xs.length = n * size) : Rd w (some ⟨b, 0, none⟩) size n xs := by
  subst hx
  refine ⟨hl, fun _ => ⟨b, 0, rfl, (Array.getElem?_eq_some_iff.1 hb).1, fun j u hu => ?_⟩⟩
  rw [Nat.zero_add, cell_of_row w b j cs t fr hb]
  rw [List.getElem?_take] at hu
  split at hu
  · simpa using hu
  · cases hu
theorem Bs.of_block {w : World} {b : Nat} {cs : Array Value} {t : TypeId} {fr : Nat × Nat} {l : List UInt8} (hb : w.heap[b]? = some (.cells cs t fr)) (hx : cs.toList = l.map cB) : Bs w (some ⟨b, 0, none⟩) l :=
  Rd.of_block hb (by rw [hx, List.take_of_length_le (by simp)]) (by simp)

/-- a text as a cell; a slice that reads as texts -/
def cS (s : List UInt8) : Value := .string ⟨s.toArray⟩
def Ss (w : World) (A : Option Addr) (L : List (List UInt8)) : Prop := Rd w A 1 L.length (L.map cS)
theorem cS_one (l : List (List UInt8)) : ∀ u ∈ l.map cS, u.oneCell' = true := by
  intro u hu; simp only [List.mem_map] at hu; obtain ⟨b, _, rfl⟩ := hu; rfl
theorem Ss.below {w w' : World} {A : Option Addr} {l : List (List UInt8)} (h : Ss w A l) (hb : Below w.heap.size w w') : Ss w' A l := Rd.below h hb
theorem Ss.cell {w : World} {A : Option Addr} {l : List (List UInt8)} (h : Ss w A l) (hn : 0 < l.length) : ∃ b off, A = some ⟨b, off, none⟩ ∧ b < w.heap.size ∧ ∀ j (hj : j < l.length), w.cell? ⟨b, off + j, none⟩ = some (.string ⟨l[j].toArray⟩) := by
  obtain ⟨b, off, e, hb, hc⟩ := h.2 hn
  exact ⟨b, off, e, hb, fun j hj => hc j _ (by simp [hj, cS])⟩
theorem Ss.take {w : World} {A : Option Addr} {l : List (List UInt8)} (hb : Ss w A l) (k : Nat) : Ss w A (l.take k) := by
  by_cases h : k < l.length
  · have := Rd.less hb (k := k) (by omega)
    unfold Ss
    rw [List.map_take, show (l.take k).length = k from by simp; omega]
    simpa using this
  · rw [List.take_of_length_le (by omega)]; exact hb

section
variable {P : Program} (w : World)
/-- append of whatever, onto a row of the call's own: the new value written out; below 'base' nothing turns; a length's bound pays all. -/
theorem wpList_app {ops : Array Oper} {rest : List Oper} {o : Oper} {a : Act} {Q : Exit → Act → World → Prop} (hgd : o.guard = none) (s x : Operand) (t : TypeId)
    (ho : o.op = .call { callee := .builtin .append, args := #[s, x], argTypes := #[t, t] })
    (w0 : World) (base : Nat) (e : TypeId) (z : Value) (size bytes : Nat) (ht : P.underlying t = some (.slice e)) (hi : (P.info? e).map (fun i => (i.zero, i.size, i.bytes)) = some (some z, size, bytes))
    (hzs : z.cells.size = size) (hsz : 0 < size) (hby : bytes ≤ 4096)
    (v : Value) (n : Nat) (xs : List Value) (hs : a.eval s = v) (hown : w.ownsRow base e size v n xs) (hbel : Below base w0 w)
    (ad : Addr) (m c : Nat) (news : List Value) (hx : a.eval x = .slice (some ad) m c) (hl : news.length = m * size) (hnews : ∀ j u, news[j]? = some u → w.cell? (ad.add j) = some u) (h1 : ∀ u ∈ news, u.oneCell' = true)
    (hm : 0 < m) (hroom : n + m ≤ 34359738368) (hbase : base ≤ w.heap.size)
    (h : ∀ g cap w', w'.ownsRow base e size (.slice (some ⟨g, 0, none⟩) (n + m) cap) (n + m) (xs ++ news) → Below base w0 w' → w.grownBy w' v.ownBlock → wpList P ops Q rest (a.put o.dst (.slice (some ⟨g, 0, none⟩) (n + m) cap)) w') : wpList P ops Q (o :: rest) a w := by
  obtain ⟨i0, hi0, hz0, hz1, hz2⟩ := info_parts hi
  refine wpList_append_lies w hgd s x t ho base e i0 z size bytes ht hi0 hz0 hz1 hz2 hzs hsz v n xs hs hown ad m c news hx hl hnews h1 hm (by simp only [maxLen]; omega)
    (by have := Nat.mul_le_mul hroom hby; omega) hbase _ rfl ?_
  intro g cap w' hown' hgrow _ _
  exact h g cap w' hown' (hbel.grown hgrow hbase fun k hk => (hown.lt k hk).1) hgrow

/-- append of one value: it has just been laid in a block of its own. -/
theorem wpList_app1 {ops : Array Oper} {rest : List Oper} {o : Oper} {a : Act} {Q : Exit → Act → World → Prop} (hgd : o.guard = none) (s x : Operand) (t : TypeId)
    (ho : o.op = .call { callee := .builtin .append, args := #[s, x], argTypes := #[t, t] })
    (w0 : World) (base : Nat) (e te : TypeId) (z : Value) (bytes : Nat) (ht : P.underlying t = some (.slice e)) (hi : (P.info? e).map (fun i => (i.zero, i.size, i.bytes)) = some (some z, 1, bytes))
    (hzs : z.cells.size = 1) (hby : bytes ≤ 4096)
    (v : Value) (n : Nat) (xs : List Value) (y : Value) (hs : a.eval s = v) (hx : a.eval x = .slice (some ⟨w.heap.size, 0, none⟩) 1 1) (h1 : y.oneCell' = true)
    (hown : w.ownsRow base e 1 v n xs) (hbel : Below base w0 w) (hbase : base ≤ w.heap.size) (hroom : n + 1 ≤ 34359738368)
    (h : ∀ g cap w', w'.ownsRow base e 1 (.slice (some ⟨g, 0, none⟩) (n + 1) cap) (n + 1) (xs ++ [y]) → Below base w0 w' → wpList P ops Q rest (a.put o.dst (.slice (some ⟨g, 0, none⟩) (n + 1) cap)) w') :
    wpList P ops Q (o :: rest) a (w.alloc (.cells #[y] te)) := by
  refine wpList_app (w.alloc (.cells #[y] te)) hgd s x t ho w0 base e z 1 bytes ht hi hzs (by omega) hby v n xs hs (hown.alloc _) (hbel.alloc hbase _) ⟨w.heap.size, 0, none⟩ 1 1 [y] hx (by simp) (cell_one_new _ _ _)
    (by intro u hu; simp at hu; subst hu; exact h1) (by omega) hroom (by simp; omega) ?_
  intro g cap w' hown' hb' _
  exact h g cap w' hown' hb'

/-- append of a slice that reads as something and is not empty. -/
theorem wpList_appRd {ops : Array Oper} {rest : List Oper} {o : Oper} {a : Act} {Q : Exit → Act → World → Prop} (hgd : o.guard = none) (s x : Operand) (t : TypeId)
    (ho : o.op = .call { callee := .builtin .append, args := #[s, x], argTypes := #[t, t] })
    (w0 : World) (base : Nat) (e : TypeId) (z : Value) (size bytes : Nat) (ht : P.underlying t = some (.slice e)) (hi : (P.info? e).map (fun i => (i.zero, i.size, i.bytes)) = some (some z, size, bytes))
    (hzs : z.cells.size = size) (hsz : 0 < size) (hby : bytes ≤ 4096)
    (v : Value) (n : Nat) (xs : List Value) (hs : a.eval s = v) (hown : w.ownsRow base e size v n xs) (hbel : Below base w0 w)
    (A : Option Addr) (m c : Nat) (news : List Value) (hx : a.eval x = .slice A m c) (hr : Rd w A size m news) (h1 : ∀ u ∈ news, u.oneCell' = true)
    (hm : 0 < m) (hroom : n + m ≤ 34359738368) (hbase : base ≤ w.heap.size)
    (h : ∀ g cap w', w'.ownsRow base e size (.slice (some ⟨g, 0, none⟩) (n + m) cap) (n + m) (xs ++ news) → Below base w0 w' → wpList P ops Q rest (a.put o.dst (.slice (some ⟨g, 0, none⟩) (n + m) cap)) w') : wpList P ops Q (o :: rest) a w := by
  obtain ⟨b, off, rfl, hb, hc⟩ := hr.2 hm
  refine wpList_app w hgd s x t ho w0 base e z size bytes ht hi hzs hsz hby v n xs hs hown hbel ⟨b, off, none⟩ m c news hx hr.1 (fun j u hu => ?_) h1 hm hroom hbase fun g cap w' h2 h3 _ => h g cap w' h2 h3
  rw [show (⟨b, off, none⟩ : Addr).add j = ⟨b, off + j, none⟩ from by unfold Addr.add; split <;> simp_all]
  exact hc j u hu

/-- append of nothing that is nil -/
theorem run_append_none (base : Nat) (t ty e : TypeId) (i : TypeInfo) (size : Nat) (ht : P.underlying t = some (.slice e)) (hi : P.info? e = some i) (v : Value) (n : Nat) (xs : List Value) (hown : w.ownsRow base e size v n xs) (c : Nat) :
    (Builtin.append_ #[t, t] ty #[v, .slice none 0 c]).run P w = .ok v w := by
  rcases hown.2 with ⟨rfl, rfl⟩ | ⟨g, cap, cur, rfl, _, _, hnc, _⟩
  · simp [Builtin.append_, run_underlying ht, sizeOf, typeInfo, hi, Builtin.lenOf, Builtin.firstCells]
  · simp [Builtin.append_, run_underlying ht, sizeOf, typeInfo, hi, Builtin.lenOf, Builtin.firstCells, hnc, storeCells]
theorem ownsRow_val {base : Nat} {e : TypeId} {size : Nat} {v : Value} {n : Nat} {xs : List Value} (hown : w.ownsRow base e size v n xs) : ∃ A cap, v = .slice A n cap := by
  rcases hown.2 with ⟨rfl, h0⟩ | ⟨g, cap, cur, rfl, _⟩
  · exact ⟨none, 0, by rw [h0]⟩
  · exact ⟨_, _, rfl⟩
theorem run_append_rd (base : Nat) (t ty e : TypeId) (z : Value) (size bytes : Nat) (ht : P.underlying t = some (.slice e)) (hi : (P.info? e).map (fun i => (i.zero, i.size, i.bytes)) = some (some z, size, bytes))
    (hzs : z.cells.size = size) (hsz : 0 < size) (hby : bytes ≤ 4096)
    (v : Value) (n : Nat) (xs : List Value) (hown : w.ownsRow base e size v n xs)
    (A : Option Addr) (m c : Nat) (news : List Value) (hr : Rd w A size m news) (h1 : ∀ u ∈ news, u.oneCell' = true) (hroom : n + m ≤ 34359738368) (hbase : base ≤ w.heap.size) :
    ∃ A' cap' w', (Builtin.append_ #[t, t] ty #[v, .slice A m c]).run P w = .ok (.slice A' (n + m) cap') w' ∧ w'.ownsRow base e size (.slice A' (n + m) cap') (n + m) (xs ++ news) ∧ w.grownBy w' v.ownBlock := by
  obtain ⟨i0, hi0, hz0, hz1, hz2⟩ := info_parts hi
  cases A with
  | none =>
    have hm : m = 0 := by
      rcases Nat.eq_zero_or_pos m with h | h
      · exact h
      · obtain ⟨_, _, e, _⟩ := hr.2 h; cases e
    subst hm
    have hn : news = [] := List.eq_nil_of_length_eq_zero (by simpa using hr.1)
    subst hn
    obtain ⟨A', cap', rfl⟩ := ownsRow_val w hown
    exact ⟨A', cap', w, run_append_none w base t ty e i0 size ht hi0 _ n xs hown c, by simpa using hown, World.grownBy.refl w _⟩
  | some ad =>
    have hcells : ∀ j u, news[j]? = some u → w.cell? (ad.add j) = some u := by
      intro j u hu
      rcases Nat.eq_zero_or_pos m with h0 | h0
      · subst h0
        have hn : news = [] := List.eq_nil_of_length_eq_zero (by simpa using hr.1)
        subst hn; simp at hu
      · obtain ⟨b, off, e, _, hc⟩ := hr.2 h0
        injection e with e; subst e
        rw [show (⟨b, off, none⟩ : Addr).add j = ⟨b, off + j, none⟩ from by unfold Addr.add; split <;> simp_all]
        exact hc j u hu
    obtain ⟨v', w', hrun, h2, h3, _, _⟩ := run_append_own_at (P := P) w base t ty e i0 z size bytes ht hi0 hz0 hz1 hz2 hzs hsz v n xs hown ad m c news hr.1 hcells h1 (by simp only [maxLen]; omega)
      (by have := Nat.mul_le_mul hroom hby; omega) hbase
    obtain ⟨A', cap', rfl⟩ := ownsRow_val w' h2
    exact ⟨A', cap', w', hrun, h2, h3⟩
/-- append of a slice that reads as something, nil and empty included. -/
theorem wpList_appAny {ops : Array Oper} {rest : List Oper} {o : Oper} {a : Act} {Q : Exit → Act → World → Prop} (hgd : o.guard = none) (s x : Operand) (t : TypeId)
    (ho : o.op = .call { callee := .builtin .append, args := #[s, x], argTypes := #[t, t] })
    (w0 : World) (base : Nat) (e : TypeId) (z : Value) (size bytes : Nat) (ht : P.underlying t = some (.slice e)) (hi : (P.info? e).map (fun i => (i.zero, i.size, i.bytes)) = some (some z, size, bytes))
    (hzs : z.cells.size = size) (hsz : 0 < size) (hby : bytes ≤ 4096)
    (v : Value) (n : Nat) (xs : List Value) (hs : a.eval s = v) (hown : w.ownsRow base e size v n xs) (hbel : Below base w0 w)
    (A : Option Addr) (m c : Nat) (news : List Value) (hx : a.eval x = .slice A m c) (hr : Rd w A size m news) (h1 : ∀ u ∈ news, u.oneCell' = true) (hroom : n + m ≤ 34359738368) (hbase : base ≤ w.heap.size)
    (h : ∀ A' cap' w', w'.ownsRow base e size (.slice A' (n + m) cap') (n + m) (xs ++ news) → Below base w0 w' → wpList P ops Q rest (a.put o.dst (.slice A' (n + m) cap')) w') : wpList P ops Q (o :: rest) a w := by
  obtain ⟨A', cap', w', hrun, h2, h3⟩ := run_append_rd w base t o.type e z size bytes ht hi hzs hsz hby v n xs hown A m c news hr h1 hroom hbase
  refine wpList_plain hgd fun K hK => ?_
  unfold Oper.wp execOp
  simp only [ho, resolve, invoke, builtin, Sem.run_bind, Sem.run_pure, Result.andThen_ok, List.map_toArray, List.map_cons, List.map_nil, hs, hx, hrun]
  exact hK _ _ (h A' cap' w' h2 (hbel.grown h3 hbase fun k hk => (hown.lt k hk).1))

theorem strCells_mk (l : List UInt8) : Lib.strCells ⟨l.toArray⟩ = l.map cB := by
  simp only [Lib.strCells]; rfl
theorem size_mk (l : List UInt8) : (ByteArray.mk l.toArray).size = l.length := by simp [ByteArray.size]
/-- append of a string's bytes. -/
theorem wpList_appStr {ops : Array Oper} {rest : List Oper} {o : Oper} {a : Act} {Q : Exit → Act → World → Prop} (hgd : o.guard = none) (sl x : Operand) (t u : TypeId)
    (ho : o.op = .call { callee := .builtin .append, args := #[sl, x], argTypes := #[t, u] })
    (w0 : World) (base : Nat) (e : TypeId) (ht : P.underlying t = some (.slice e)) (hu : P.underlying u = some .string) (hi : (P.info? e).map (fun i => (i.zero, i.size, i.bytes)) = some (some (.int .u8 0), 1, 1))
    (A : Option Addr) (cap : Nat) (xs : List UInt8) (hs : a.eval sl = .slice A xs.length cap) (hown : w.ownsRow base e 1 (.slice A xs.length cap) xs.length (xs.map cB)) (hbel : Below base w0 w)
    (l : List UInt8) (hx : a.eval x = .string ⟨l.toArray⟩) (hroom : xs.length + l.length ≤ 34359738368) (hbase : base ≤ w.heap.size)
    (h : ∀ A' cap' w', w'.ownsRow base e 1 (.slice A' (xs ++ l).length cap') (xs ++ l).length ((xs ++ l).map cB) → Below base w0 w' → wpList P ops Q rest (a.put o.dst (.slice A' (xs ++ l).length cap')) w') : wpList P ops Q (o :: rest) a w := by
  obtain ⟨i0, hi0, hz0, hz1, hz2⟩ := info_parts hi
  refine Lib.wpList_append_own_string w hgd sl x t u ho base e i0 ht hu hi0 hz0 hz1 hz2 _ _ _ hs hown ⟨l.toArray⟩ hx (by rw [size_mk]; simp only [maxLen]; omega) (by rw [size_mk]; omega) hbase ?_
  intro v' w' hown' hgrow _
  rw [size_mk, strCells_mk, ← List.map_append, ← List.length_append] at hown'
  have hv : ∃ A' cap', v' = .slice A' (xs ++ l).length cap' := by
    rcases hown'.2 with ⟨rfl, h0⟩ | ⟨g, cap, cur, rfl, _⟩
    · exact ⟨none, 0, by rw [h0]⟩
    · exact ⟨_, _, rfl⟩
  obtain ⟨A', cap', rfl⟩ := hv
  exact h A' cap' w' hown' (hbel.grown hgrow hbase fun k hk => (hown.lt k hk).1)
end

/-- block g is just the cells cs of type t, none of them frozen -/
def Blk (w : World) (g : Nat) (t : TypeId) (cs : Array Value) : Prop := w.heap[g]? = some (.cells cs t (0, 0))
section
variable {w w' : World} {g : Nat} {t : TypeId} {cs : Array Value}
theorem Blk.lt (h : Blk w g t cs) : g < w.heap.size := (Array.getElem?_eq_some_iff.1 h).1
theorem Blk.cell (h : Blk w g t cs) (i : Nat) : w.cell? ⟨g, i, none⟩ = cs[i]? := cell_of_row w g i cs t (0, 0) h
theorem Blk.free (h : Blk w g t cs) (i : Nat) : w.frozen? ⟨g, i, none⟩ = false := by
  unfold Blk at h; simp [World.frozen?, h]
theorem Blk.new (w : World) (t : TypeId) (cs : Array Value) : Blk (w.alloc (.cells cs t)) w.heap.size t cs := heap_alloc_new w _
theorem Blk.drewN (h : Blk w g t cs) (n : Nat) : Blk (w.drewN n) g t cs := h
theorem Blk.alloc (h : Blk w g t cs) (o : Obj) : Blk (w.alloc o) g t cs := (Below.heap_alloc w o g h.lt).trans h
theorem Blk.set_ (h : Blk w g t cs) (i : Nat) (u : Value) : Blk (w.setCell ⟨g, i, none⟩ u) g t (cs.setIfInBounds i u) := by
  unfold Blk at h ⊢
  simp [World.setCell, Array.getElem?_modify, h]
theorem Blk.far (h : Blk w g t cs) {p : Addr} (hp : g ≠ p.block) (u : Value) : Blk (w.setCell p u) g t cs := (Below.heap_setCell w p u g hp).trans h
theorem Blk.below {B : Nat} (h : Blk w g t cs) (hb : Below B w w') (hg : g < B) : Blk w' g t cs := (hb.block g hg).trans h
theorem Blk.gr (h : Blk w g t cs) (hb : Below w.heap.size w w') : Blk w' g t cs := h.below hb h.lt
theorem Blk.grown {row : Option Nat} (h : Blk w g t cs) (hb : w.grownBy w' row) (hg : some g ≠ row) : Blk w' g t cs := (hb.block g h.lt hg).trans h
theorem only_drewN {row : Option Nat} {a : World} (h : a.grownBy w row) (n : Nat) : a.grownBy (w.drewN n) row := ⟨h.os, h.tape, h.output, h.size, h.block⟩
theorem only_alloc {row : Option Nat} {a : World} (h : a.grownBy w row) (o : Obj) : a.grownBy (w.alloc o) row :=
  ⟨h.os, h.tape, h.output, Nat.le_trans h.size (by simp), fun i hi hne => (Below.heap_alloc w o i (Nat.lt_of_lt_of_le hi h.size)).trans (h.block i hi hne)⟩
theorem only_set {a : World} (h : a.grownBy w (some g)) (i : Nat) (u : Value) : a.grownBy (w.setCell ⟨g, i, none⟩ u) (some g) :=
  ⟨h.os, h.tape, h.output, by simpa [World.setCell] using h.size, fun k hk hne => (Below.heap_setCell w _ u k (fun e => hne (by rw [e]))).trans (h.block k hk hne)⟩
theorem only_of_below {a : World} (h : Below a.heap.size a w) (row : Option Nat) : a.grownBy w row := ⟨h.os, h.tape, h.output, h.size, fun i hi _ => h.block i hi⟩
theorem only_trans {a b c : World} {row : Option Nat} (h : a.grownBy b row) (k : b.grownBy c row) : a.grownBy c row := h.trans k
/-- bytes that lie elsewhere than in a block that is written -/
theorem Bs.grown {A : Option Addr} {l : List UInt8} (h : Bs w A l) (hg : w.grownBy w' (some g)) (hne : ∀ b off, A = some ⟨b, off, none⟩ → 0 < l.length → b ≠ g) : Bs w' A l :=
  ⟨h.1, fun hn => by
    obtain ⟨b, off, e, hb, hc⟩ := h.2 hn
    refine ⟨b, off, e, Nat.lt_of_lt_of_le hb hg.size, fun j u hu => ?_⟩
    rw [World.cell?_of_block (w := w) (a := ⟨b, off + j, none⟩) (hg.block b hb (fun x => hne b off e hn (by injection x)))]
    exact hc j u hu⟩
/-- bytes do not lie in a block whose cells are none -/
theorem Bs.ne_blk {A : Option Addr} {l : List UInt8} (h : Bs w A l) (hb : Blk w g t cs) (hno : ∀ (i : Nat) (u : Value), cs[i]? = some u → ∀ n : Int, u ≠ Value.int .u8 n) : ∀ b off, A = some ⟨b, off, none⟩ → 0 < l.length → b ≠ g := by
  rintro b off rfl hn rfl
  obtain ⟨b', off', e, _, hc⟩ := h.cell hn
  injection e with e
  obtain ⟨rfl, rfl⟩ : b = b' ∧ off = off' := by injection e with e1 e2 _; exact ⟨e1, e2⟩
  have h1 := hc 0 hn
  rw [hb.cell] at h1
  exact hno _ _ h1 _ rfl
end
end Go.Proofs.Ytllfdnfiicnmiaa
