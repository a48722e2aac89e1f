/-
  The walks of varint.Reader's methods.
-/
import Derived.Test.YtnoahfhnmiibgaaVlist2
namespace Go.Proofs.Ytnoahfhnmiibgaa
open Go.RowKit
set_option linter.unusedSimpArgs false
set_option linter.unusedVariables false

/-- a reader's cells: its bytes, where it stands, what is wrong -/
def rdCells (A : Option Addr) (n c : Nat) (p e : Nat) : Array Value := #[.slice A n c, .int .i64 p, .int .i64 e]
/-- the reader in block g has the bytes l, stands at p, and has the error e -/
def Rdr (w : World) (g : Nat) (A : Option Addr) (l : List UInt8) (c p e : Nat) : Prop := Blk w g 83 (rdCells A l.length c p e) ∧ Bs w A l ∧ l.length ≤ c ∧ c ≤ 9223372036854775807 ∧ l.length ≤ 34359738368 ∧ p ≤ l.length ∧ e ≤ 30
theorem rdCells_no (A : Option Addr) (n c p e : Nat) (i : Nat) (u : Value) (h : (rdCells A n c p e)[i]? = some u) (m : Int) : u ≠ Value.int .u8 m := by
  have h3 : i < 3 := by
    have := (Array.getElem?_eq_some_iff.1 h).1
    simpa [rdCells] using this
  rcases (by omega : i = 0 ∨ i = 1 ∨ i = 2) with rfl | rfl | rfl <;> (simp [rdCells] at h; rw [← h]; simp)
theorem Rdr.next {w w' : World} {g : Nat} {A : Option Addr} {l : List UInt8} {c p e p' e' : Nat} (h : Rdr w g A l c p e) (hg : w.grownBy w' (some g)) (hb : Blk w' g 83 (rdCells A l.length c p' e')) (hp : p' ≤ l.length) (he : e' ≤ 30) : Rdr w' g A l c p' e' :=
  ⟨hb, h.2.1.grown hg (h.2.1.ne_blk h.1 (rdCells_no _ _ _ _ _)), h.2.2.1, h.2.2.2.1, h.2.2.2.2.1, hp, he⟩

/-- what a read does to where it stands and to what is wrong -/
def oP (e err p n : Nat) : Nat := if e = 0 ∧ err = 0 then p + n else p
def oV {α : Type} (e err : Nat) (v z : α) : α := if e = 0 ∧ err = 0 then v else z
def oE (e err : Nat) : Nat := if e = 0 then err else e

theorem oV_no {α : Type} {e err : Nat} (v z : α) (h : ¬ (e = 0 ∧ err = 0)) : oV e err v z = z := if_neg h

set_option maxHeartbeats 400000 in
theorem fail_any (g : Nat) (A : Option Addr) (l : List UInt8) (c p e : Nat) (x : Nat) (hx : x ≤ 30) (w : World) (h : Rdr w g A l c p e) :
    Calls Try.prog 42 #[.pointer (some ⟨g, 0, none⟩), .int .i64 x] w fun en w' => en = .returned (.tuple #[]) ∧ Rdr w' g A l c p (oE e x) ∧ w.grownBy w' (some g) := by
  have hc2 : w.cell? ⟨g, 2, none⟩ = some (.int .i64 e) := h.1.cell 2
  have hf2 := h.1.free 2
  by_cases he : e = 0
  · have he' : ((e : Int) == 0) = true := by rw [he]; rfl
    have HE := hide he; clear he
    go_enter Try.func42, Try.ntmps42
    go_wp2_with fail
    go_end0
    have e2 : oE e x = x := by unfold oE; rw [if_pos HE.out]
    refine ⟨rfl, h.next (only_set (.refl _ _) _ _) ?_ h.2.2.2.2.2.1 (by rw [e2]; exact hx), only_set (.refl _ _) _ _⟩
    have := h.1.set_ 2 (.int .i64 x)
    rw [e2]; simpa [rdCells] using this
  · have he' : ((e : Int) == 0) = false := by rw [beq_eq_false_iff_ne]; omega
    go_enter Try.func42, Try.ntmps42
    go_wp2_with fail
    go_end0
    have e2 : oE e x = e := by unfold oE; rw [if_neg he]
    rw [e2]
    exact ⟨rfl, h, .refl _ _⟩

set_option maxHeartbeats 400000 in
theorem rest_any (g : Nat) (A : Option Addr) (l : List UInt8) (c p : Nat) (w : World) (h : Rdr w g A l c p 0) :
    Calls Try.prog 56 #[.pointer (some ⟨g, 0, none⟩)] w fun en w' => en = .returned (.slice (cutA A c p 1) (l.length - p) (c - p)) ∧ ∃ n, w' = w.drewN n := by
  have hc0 : w.cell? ⟨g, 0, none⟩ = some (.slice A l.length c) := h.1.cell 0
  have hc1 : w.cell? ⟨g, 1, none⟩ = some (.int .i64 p) := h.1.cell 1
  have hc2 : w.cell? ⟨g, 2, none⟩ = some (.int .i64 0) := h.1.cell 2
  have hp := h.2.2.2.2.2.1
  have hcap := h.2.2.2.1
  have hlc := h.2.2.1
  have hsl := run_cut_from Try.underlying24 size_u8 A l.length c p hp (p : Int) rfl
  go_enter Try.func56, Try.ntmps56
  go_wp2_with fail
  go_quiet (fail)
  go_wp2_with fail
  go_ret
  exact ⟨rfl, _, rfl⟩
end Go.Proofs.Ytnoahfhnmiibgaa
