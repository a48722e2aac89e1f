/-
  The walks of value.May, Encode and of the reference's.
-/
import Derived.Test.YtagdjoabpkmomaaDoorKey
import Derived.Test.YtagdjoabpkmomaaDoorVfun
import Derived.Test.YtagdjoabpkmomaaDoorVref
import Derived.Test.YtagdjoabpkmomaaDoorVrest2
import Derived.Test.YtagdjoabpkmomaaDoorFlat
namespace Go.Proofs.YtagdjoabpkmomaaDoor
open Go.RowKit
set_option maxRecDepth 100000
set_option linter.unusedSimpArgs false
set_option linter.unusedVariables false

theorem gr1 (w : World) (o : Obj) : Below w.heap.size w (w.alloc o) := (Below.refl _ _).alloc (Nat.le_refl _) _
theorem bcell {W w1 : World} (hb : Below W.heap.size W w1) : (∀ b o, b < W.heap.size → w1.cell? ⟨b, o, none⟩ = W.cell? ⟨b, o, none⟩) ∧ (∀ b o, b < W.heap.size → w1.frozen? ⟨b, o, none⟩ = W.frozen? ⟨b, o, none⟩) :=
  ⟨fun b o h => hb.cell (p := ⟨b, o, none⟩) h, fun b o h => hb.frozen (p := ⟨b, o, none⟩) h⟩
theorem retS {a b : Bytes} (h : a = b) : Ending.returned (.string ⟨a.toArray⟩) = .returned (.string ⟨b.toArray⟩) := by rw [h]
theorem below_trans {a b c : World} (h : Below a.heap.size a b) (k : Below b.heap.size b c) : Below a.heap.size a c := h.trans (k.mono h.size)

theorem valB_none {kind i : Int} {s : Bytes} (h0 : kind ≠ 0) (h1 : kind ≠ 1) (h2 : kind ≠ 2) (h3 : kind ≠ 3) : valB kind i s = false := by
  simp [valB, h0, h1, h2, h3]
theorem valB_int (kind i : Int) (s : Bytes) : valB kind i s = ((kind == 0 && i == 0 && s.isEmpty) || (kind == 1 && (i == 0 || i == 1) && s.isEmpty) || (kind == 2 && s.isEmpty) || (kind == 3 && i == 0 && decide (s.length ≤ 64))) := rfl

set_option maxHeartbeats 2000000 in
theorem valmay_any (kind i : Int) (s : Bytes) (w : World) :
    Calls Tryd.prog 56 #[.agg #[.int .i64 kind, .int .i64 i, .string ⟨s.toArray⟩]] w fun e w' => e = .returned (.bool (valB kind i s)) ∧ Below w.heap.size w w' := by
  go_enter Tryd.func56, Tryd.ntmps56
  go_wp2_with fail
  all_goals go_ret
  all_goals (refine ⟨retb ?_, gr1 _ _⟩; first | (simp_all [valB]; done) | (simp_all [valB]; omega))
set_option maxHeartbeats 2000000 in
theorem rvalmay_any (kind i : Int) (s : Bytes) (w : World) :
    Calls Tryd.prog 46 #[.agg #[.int .i64 kind, .int .i64 i, .string ⟨s.toArray⟩]] w fun e w' => e = .returned (.bool (valB kind i s)) ∧ Below w.heap.size w w' := by
  have hv := valB_int kind i s
  go_enter Tryd.func46, Tryd.ntmps46
  go_wp2_with fail
  all_goals go_ret
  all_goals (refine ⟨retb ?_, gr1 _ _⟩; first | (simp_all; done) | (simp_all; omega))
end Go.Proofs.YtagdjoabpkmomaaDoor
