/-
  The walks of the laws VarintNumbers, VarintApart, VarintCuts, VarintPuts.
-/
import Derived.Test.YtnoahfhnmiibgaaVawake
namespace Go.Proofs.Ytnoahfhnmiibgaa
open Go.RowKit

set_option maxHeartbeats 1000000 in
theorem walk_VarintNumbers (w : World) : Calls Try.prog 3 #[] w fun e w' => e = .returned (.bool true) ∧ Below w.heap.size w w' := by
  go_enter Try.func3, Try.ntmps3
  go_wp2_with (go_at_call 11; refine (awake_any _).mono ?_; rintro e w1 ⟨rfl, hb⟩)
  go_ret
  exact ⟨rfl, hb⟩
end Go.Proofs.Ytnoahfhnmiibgaa
