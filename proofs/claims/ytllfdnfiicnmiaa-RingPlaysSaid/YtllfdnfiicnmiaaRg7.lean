/-
  Say whole; the walk of the reference's Say.
-/
import Derived.Test.YtllfdnfiicnmiaaRg6
namespace Go.Proofs.Ytllfdnfiicnmiaa
open Go.RowKit
set_option maxRecDepth 100000
set_option linter.unusedSimpArgs false
set_option linter.unusedVariables false

theorem say_any {base : Nat} {w : World} {g b : Nat} {A : Option Addr} {c : Nat} {n : Int} {bad : List Bool} {L : List Stm} (a : Int) (s : Stm) (hR : RgIs base w g b A c n bad L) (hok : StmOk s) : Says base w g b A n bad L a s := by
  obtain ⟨f, k, v, q, t⟩ := s
  cases h : (decide (0 ≤ a) && decide (a < n)) with
  | false => exact say_no hR h
  | true =>
    by_cases hne : f = a
    · by_cases hin : (⟨f, k, v, q, t⟩ : Stm) ∈ L
      · exact say_has_e hR h hok hne hin
      · by_cases hfull : 65536 ≤ L.length
        · exact say_full_e hR h hok hne hin hfull
        · exact say_new_e hR h hok hne hin hfull
    · cases h1 : badB n bad a with
      | false => exact say_forged1 hR h hne h1
      | true =>
        cases h2 : badB n bad f with
        | false => exact say_forged2 hR h hne h1 h2
        | true =>
          by_cases hin : (⟨f, k, v, q, t⟩ : Stm) ∈ L
          · exact say_has_b hR h hok hne h1 h2 hin
          · by_cases hfull : 65536 ≤ L.length
            · exact say_full_b hR h hok hne h1 h2 hin hfull
            · exact say_new_b hR h hok hne h1 h2 hin hfull

/-- who is bad, by a list, and by the ring's marks: the same -/
theorem badB_list {n : Int} {bads : List Int} (hm : mayR n bads = true) (p : Int) : badB n (badsL bads) p = decide (p ∈ bads) := by
  unfold mayR at hm
  simp only [Bool.and_eq_true, decide_eq_true_eq] at hm
  obtain ⟨hall, h1, h64⟩ := hm
  rw [List.all_eq_true] at hall
  unfold badB
  by_cases hp : p ∈ bads
  · have := hall p hp
    simp only [Bool.and_eq_true, decide_eq_true_eq] at this
    obtain ⟨k, rfl⟩ : ∃ k : Nat, p = k := ⟨p.toNat, by omega⟩
    have hk : k < 64 := by omega
    rw [decide_eq_true this.1, decide_eq_true this.2, decide_eq_true hp]
    simp [badsL, List.getD, hk, hp]
  · rw [decide_eq_false hp]
    by_cases h0 : 0 ≤ p
    · by_cases hn : p < n
      · obtain ⟨k, rfl⟩ : ∃ k : Nat, p = k := ⟨p.toNat, by omega⟩
        have hk : k < 64 := by omega
        simp [badsL, List.getD, hk, hp]
      · rw [decide_eq_false hn]; simp
    · rw [decide_eq_false h0]; simp
end Go.Proofs.Ytllfdnfiicnmiaa
