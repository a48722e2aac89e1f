/-
  What a chunk holds: the spec of leaf.Cut and of the reference's Cut.
-/
import Derived.Test.YtagdjoabpkmomaaDoorCuti
namespace Go.Proofs.YtagdjoabpkmomaaDoor
open Go.RowKit
set_option maxRecDepth 100000
set_option linter.unusedSimpArgs false
set_option linter.unusedVariables false

/-- the items so far, the offset, the error, behind k items -/
def stC (g : Item → Item) (l : Bytes) : Nat → List Item × Nat × Nat
  | 0 => ([], 1, 0)
  | k + 1 => if (stC g l k).2.2 ≠ 0 then stC g l k else if (cutI (l.drop (stC g l k).2.1)).e ≠ 0 then ((stC g l k).1, (stC g l k).2.1, (cutI (l.drop (stC g l k).2.1)).e)
    else ((stC g l k).1 ++ [g (cutI (l.drop (stC g l k).2.1)).x], (stC g l k).2.1 + (cutI (l.drop (stC g l k).2.1)).n, 0)
theorem stC_ok {g : Item → Item} {l : Bytes} {k : Nat} (h : (stC g l k).2.2 = 0) (hc : (cutI (l.drop (stC g l k).2.1)).e = 0) :
    stC g l (k + 1) = ((stC g l k).1 ++ [g (cutI (l.drop (stC g l k).2.1)).x], (stC g l k).2.1 + (cutI (l.drop (stC g l k).2.1)).n, 0) := by
  conv => lhs; unfold stC
  rw [if_neg (by omega), if_neg (by omega)]
theorem stC_bad {g : Item → Item} {l : Bytes} {k : Nat} (h : (stC g l k).2.2 = 0) (hc : (cutI (l.drop (stC g l k).2.1)).e ≠ 0) :
    (stC g l (k + 1)).2.2 = (cutI (l.drop (stC g l k).2.1)).e := by
  conv => lhs; unfold stC
  rw [if_neg (by omega), if_pos hc]
theorem stC_stay {g : Item → Item} {l : Bytes} {k : Nat} (h : (stC g l k).2.2 ≠ 0) : ∀ j, stC g l (k + j) = stC g l k
  | 0 => rfl
  | j + 1 => by
    have ih := stC_stay h j
    rw [← Nat.add_assoc]
    conv => lhs; unfold stC
    rw [ih, if_pos h]
theorem cutI_n (l : Bytes) : (cutI l).n ≤ l.length := by
  have h1 := cutText_n l
  have h2 := cutV_n (l.drop (CutText l).2.1)
  have h3 := (cut_n (l.drop ((CutText l).2.1 + (cutV (l.drop (CutText l).2.1)).n))).2.1
  rw [List.length_drop] at h2 h3
  simp only [cutI]
  split
  · simp
  · split
    · simp
    · split
      · simp
      · simp only; omega
theorem stC_le {g : Item → Item} {l : Bytes} (hl : 0 < l.length) : ∀ k, (stC g l k).2.1 ≤ l.length
  | 0 => hl
  | k + 1 => by
    have ih := stC_le (g := g) hl k
    have hn := cutI_n (l.drop (stC g l k).2.1)
    rw [List.length_drop] at hn
    unfold stC
    split
    · exact ih
    · split
      · exact ih
      · simp only; omega
theorem stC_len {g : Item → Item} {l : Bytes} : ∀ k, (stC g l k).1.length ≤ k
  | 0 => Nat.le_refl _
  | k + 1 => by
    have ih := stC_len (g := g) (l := l) k
    unfold stC
    split
    · omega
    · split
      · simp only; omega
      · simp; omega
end Go.Proofs.YtagdjoabpkmomaaDoor
