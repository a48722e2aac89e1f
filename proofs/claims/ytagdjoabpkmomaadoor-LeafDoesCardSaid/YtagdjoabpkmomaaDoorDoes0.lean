/-
  The walk of the law LeafDoes. (Printed by gen_does.py.)
-/
import Derived.Test.YtagdjoabpkmomaaDoorLf3
namespace Go.Proofs.YtagdjoabpkmomaaDoor
open Go.RowKit
set_option maxRecDepth 100000
set_option linter.unusedSimpArgs false
set_option linter.unusedVariables false
attribute [local go_sem ↓] Go.wp_at_zero Go.wp_at_succ

theorem room_cell {w : World} {g : Nat} {m : List Item} {x : Item} (h : Fs Item.cells 5 w (some ⟨g, 0, none⟩) (m ++ [x])) : w.cell? ⟨g, m.length * 5 + 4, none⟩ = some (.int .i64 x.ver) := by
  obtain ⟨b, off, e, hb, hc⟩ := h.cell (fun _ => rfl) (by simp)
  injection e with e; injection e with e1 e2 e3
  subst e1 e2
  have := hc m.length (by simp) 4 (.int .i64 x.ver) (by omega) (by simp [Item.cells, cI])
  simpa using this
/-- from cell o of the block b on lies the item x -/
def By (w : World) (b o : Nat) (x : Item) : Prop :=
  b < w.heap.size ∧ w.cell? ⟨b, o, none⟩ = some (.string ⟨x.key.toArray⟩) ∧ w.cell? ⟨b, o + 1, none⟩ = some (.int .i64 x.kind) ∧ w.cell? ⟨b, o + 2, none⟩ = some (.int .i64 x.i) ∧ w.cell? ⟨b, o + 3, none⟩ = some (.string ⟨x.s.toArray⟩) ∧ w.cell? ⟨b, o + 4, none⟩ = some (.int .i64 x.ver)
theorem By.below {w w' : World} {b o : Nat} {x : Item} (h : By w b o x) (hb : Below w.heap.size w w') : By w' b o x := by
  obtain ⟨h0, h1, h2, h3, h4, h5⟩ := h
  obtain ⟨hc, -⟩ := bcell hb
  exact ⟨Nat.lt_of_lt_of_le h0 hb.size, (hc b _ h0).trans h1, (hc b _ h0).trans h2, (hc b _ h0).trans h3, (hc b _ h0).trans h4, (hc b _ h0).trans h5⟩
theorem room_take {w : World} {A : Option Addr} {m : List Item} {x : Item} (h : Fs Item.cells 5 w A (m ++ [x])) : Fs Item.cells 5 w A m := by
  have := Fs.take h (fun _ => rfl) m.length
  rwa [List.take_left'] at this
  rfl

end Go.Proofs.YtagdjoabpkmomaaDoor
