/-
  Plain laws of the varint layer: what is put is cut as it was; what is cut has just these bytes; no number's bytes begin with another's. No program in sight.
-/
import Derived.Test.YtnoahfhnmiibgaaVspec
namespace Go.Proofs.Ytnoahfhnmiibgaa

theorem toNat_of (n : Nat) (h : n < 256) : (UInt8.ofNat n).toNat = n := by simp; omega

theorem cutG_put (tail : List UInt8) (v : Nat) : ∀ i, i ≤ 9 → (i = 0 ∨ 0 < v) → v * 128 ^ i < 18446744073709551616 → cutG i (put v ++ tail) = (v, (put v).length, 0) := by
  induction v using Nat.strongRecOn with
  | _ v ih =>
    intro i hi hv h64
    by_cases hlt : v < 128
    · rw [put_lt v hlt]
      have e := toNat_of v (by omega)
      have := cutG_last i (UInt8.ofNat v) tail (by
        rw [e]; rintro ⟨rfl, h1⟩
        have e9 : (128 : Nat) ^ 9 = 9223372036854775808 := by decide
        rw [e9] at h64; omega) (by omega) (by omega)
      simpa [e] using this
    · have hp := pow128_pos i
      have hi8 : i ≤ 8 := by
        by_cases h9 : i = 9
        · subst h9
          have e9 : (128 : Nat) ^ 9 = 9223372036854775808 := by decide
          rw [e9] at h64; omega
        · omega
      rw [put_ge v (by omega)]
      have e := toNat_of (v % 128 + 128) (by omega)
      have h128 : v / 128 * 128 ^ (i + 1) ≤ v * 128 ^ i := by
        rw [Nat.pow_succ, Nat.mul_comm (128 ^ i), ← Nat.mul_assoc]
        exact Nat.mul_le_mul_right _ (Nat.div_mul_le_self v 128)
      have hr := ih (v / 128) (by omega) (i + 1) (by omega) (.inr (by omega)) (by omega)
      rw [List.cons_append, cutG, e, if_neg (by omega), if_pos (by omega), hr, if_pos rfl]
      refine Prod.ext ?_ (Prod.ext ?_ rfl)
      · simp only; omega
      · simp
theorem cut_put (v : Nat) (h : v < 18446744073709551616) (tail : List UInt8) : cut (put v ++ tail) = (v, (put v).length, 0) := cutG_put tail v 0 (by omega) (.inl rfl) (by omega)

theorem put_cutG : ∀ (l : List UInt8) (i : Nat), (cutG i l).2.2 = 0 → put (cutG i l).1 = l.take (cutG i l).2.1 ∧ (i = 0 ∨ 0 < (cutG i l).1)
  | [], i, h => by simp [cutG] at h
  | c :: r, i, h => by
    have hc := c.toNat_lt
    rw [cutG] at h ⊢
    split
    · rename_i h1; rw [if_pos h1] at h; simp at h
    · rename_i h1; rw [if_neg h1] at h
      split
      · rename_i h2; rw [if_pos h2] at h
        split
        · rename_i h3
          obtain ⟨hp, hpos⟩ := put_cutG r (i + 1) h3
          have hv : 0 < (cutG (i + 1) r).1 := by omega
          generalize cutG (i + 1) r = x at *
          refine ⟨?_, .inr (by simp only; omega)⟩
          simp only
          rw [put_ge _ (by omega), show (x.1 * 128 + c.toNat % 128) / 128 = x.1 from by omega, hp, show (x.1 * 128 + c.toNat % 128) % 128 + 128 = c.toNat from by omega]
          simp
        · rename_i h3; rw [if_neg h3] at h; exact absurd h h3
      · rename_i h2; rw [if_neg h2] at h
        split
        · rename_i h3; rw [if_pos h3] at h; simp at h
        · rename_i h3
          refine ⟨?_, by simp only; omega⟩
          simp only
          rw [put_lt _ (by omega)]
          simp
theorem put_cut (l : List UInt8) (h : (cut l).2.2 = 0) : put (cut l).1 = l.take (cut l).2.1 ∧ 0 < (cut l).2.1 :=
  ⟨(put_cutG l 0 h).1, (cutG_n l 0 (by omega)).2.2.2 h⟩
theorem cut_zero (l : List UInt8) (h : (cut l).2.2 ≠ 0) : (cut l).1 = 0 ∧ (cut l).2.1 = 0 := by
  have hz := comb_zero l
  unfold comb at hz
  unfold cut at h ⊢
  rw [if_neg h] at hz
  unfold cut at hz
  rw [← hz]; exact ⟨rfl, rfl⟩

theorem put_prefix (v w k : Nat) (hv : v < 18446744073709551616) (hw : w < 18446744073709551616) (h : put v = (put w).take k) : v = w := by
  have h1 := cut_put v hv ((put w).drop k)
  rw [h, List.take_append_drop] at h1
  have h2 := cut_put w hw []
  rw [List.append_nil] at h2
  rw [h2] at h1
  exact (congrArg Prod.fst h1).symm
/-- of two unlike numbers neither one's bytes begin with the other's -/
theorem put_apart (v w : Nat) (hv : v < 18446744073709551616) (hw : w < 18446744073709551616) (hne : v ≠ w) (n : Nat) (hn : n = min (put v).length (put w).length) : (put v).take n ≠ (put w).take n := by
  intro h
  rcases Nat.le_total (put v).length (put w).length with hl | hl
  · rw [hn, Nat.min_eq_left hl, List.take_length] at h
    exact hne (put_prefix v w _ hv hw h)
  · rw [hn, Nat.min_eq_right hl, List.take_length] at h
    exact hne (put_prefix w v _ hw hv h.symm).symm
end Go.Proofs.Ytnoahfhnmiibgaa
