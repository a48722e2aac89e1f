/-
  Two items compared.
-/
import Derived.Test.YtagdjoabpkmomaaDoorFew
namespace Go.Proofs.YtagdjoabpkmomaaDoor
open Go.RowKit
set_option maxRecDepth 100000
set_option linter.unusedSimpArgs false
set_option linter.unusedVariables false

theorem run_eq_item (w : World) (k1 : Bytes) (d1 i1 : Int) (s1 : Bytes) (v1 : Int) (k2 : Bytes) (d2 i2 : Int) (s2 : Bytes) (v2 : Int) :
    (binOp .eql 32 (.agg #[.string ⟨k1.toArray⟩, .int .i64 d1, .int .i64 i1, .string ⟨s1.toArray⟩, .int .i64 v1]) (.agg #[.string ⟨k2.toArray⟩, .int .i64 d2, .int .i64 i2, .string ⟨s2.toArray⟩, .int .i64 v2])).run Tryd.prog w =
      .ok (.bool (decide ((⟨k1, d1, i1, s1, v1⟩ : Item) = ⟨k2, d2, i2, s2, v2⟩))) w := by
  by_cases h1 : k1 = k2
  · by_cases h2 : d1 = d2
    · by_cases h3 : i1 = i2
      · by_cases h4 : s1 = s2
        · by_cases h5 : v1 = v2
          · subst h1 h2 h3 h4 h5; go_simp
          · have h5' : (v1 == v2) = false := by simpa using h5
            subst h1 h2 h3 h4; go_simp
        · have h4' : (s1 == s2) = false := by simpa using h4
          subst h1 h2 h3; go_simp
      · have h3' : (i1 == i2) = false := by simpa using h3
        subst h1 h2; go_simp
    · have h2' : (d1 == d2) = false := by simpa using h2
      subst h1; go_simp
  · have h1' : (k1 == k2) = false := by simpa using h1
    go_simp
theorem run_neq_item (w : World) (k1 : Bytes) (d1 i1 : Int) (s1 : Bytes) (v1 : Int) (k2 : Bytes) (d2 i2 : Int) (s2 : Bytes) (v2 : Int) :
    (binOp .neq 32 (.agg #[.string ⟨k1.toArray⟩, .int .i64 d1, .int .i64 i1, .string ⟨s1.toArray⟩, .int .i64 v1]) (.agg #[.string ⟨k2.toArray⟩, .int .i64 d2, .int .i64 i2, .string ⟨s2.toArray⟩, .int .i64 v2])).run Tryd.prog w =
      .ok (.bool (!decide ((⟨k1, d1, i1, s1, v1⟩ : Item) = ⟨k2, d2, i2, s2, v2⟩))) w := by
  by_cases h1 : k1 = k2
  · by_cases h2 : d1 = d2
    · by_cases h3 : i1 = i2
      · by_cases h4 : s1 = s2
        · by_cases h5 : v1 = v2
          · subst h1 h2 h3 h4 h5; go_simp
          · have h5' : (v1 == v2) = false := by simpa using h5
            subst h1 h2 h3 h4; go_simp
        · have h4' : (s1 == s2) = false := by simpa using h4
          subst h1 h2 h3; go_simp
      · have h3' : (i1 == i2) = false := by simpa using h3
        subst h1 h2; go_simp
    · have h2' : (d1 == d2) = false := by simpa using h2
      subst h1; go_simp
  · have h1' : (k1 == k2) = false := by simpa using h1
    go_simp
end Go.Proofs.YtagdjoabpkmomaaDoor
