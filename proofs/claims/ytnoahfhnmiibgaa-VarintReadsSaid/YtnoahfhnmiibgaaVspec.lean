/-
  Plain mathematics of the varint layer: the bytes of a number, and cutting them. No program in sight.
-/
import Derived.Test.YtnoahfhnmiibgaaBase
import Derived.Lib.Zigzag
import Derived.WalkSmall
namespace Go.Proofs.Ytnoahfhnmiibgaa
open Go.RowKit

def put (v : Nat) : List UInt8 := if v < 128 then [UInt8.ofNat v] else UInt8.ofNat (v % 128 + 128) :: put (v / 128)
termination_by v
decreasing_by omega

theorem put_lt (v : Nat) (h : v < 128) : put v = [UInt8.ofNat v] := by rw [put, if_pos h]
theorem put_ge (v : Nat) (h : 128 ≤ v) : put v = UInt8.ofNat (v % 128 + 128) :: put (v / 128) := by rw [put, if_neg (by omega)]
theorem put_pos (v : Nat) : 0 < (put v).length := by rw [put]; split <;> simp
theorem put_len_of (k : Nat) : ∀ v, v < 128 ^ (k + 1) → (put v).length ≤ k + 1 := by
  induction k with
  | zero => intro v h; rw [put_lt v (by simpa using h)]; simp
  | succ k ih =>
    intro v h
    by_cases hv : v < 128
    · rw [put_lt v hv]; simp
    · rw [put_ge v (by omega)]
      have := ih (v / 128) (by rw [Nat.pow_succ] at h; omega)
      simp only [List.length_cons]; omega
theorem put_len (v : Nat) (h : v < 18446744073709551616) : (put v).length ≤ 10 := by
  refine put_len_of 9 v ?_
  have e : (128 : Nat) ^ (9 + 1) = 1180591620717411303424 := by decide
  omega

/-- What a number's bytes begin with is cut: the value, the bytes it takes, the error. 'i': how many bytes are read already. -/
def cutG (i : Nat) : List UInt8 → Nat × Nat × Nat
  | [] => (0, 0, 2)
  | c :: r =>
    if i = 9 ∧ 1 < c.toNat then (0, 0, 8)
    else if 128 ≤ c.toNat then (if (cutG (i + 1) r).2.2 = 0 then ((cutG (i + 1) r).1 * 128 + c.toNat % 128, (cutG (i + 1) r).2.1 + 1, 0) else (0, 0, (cutG (i + 1) r).2.2))
    else if c.toNat = 0 ∧ 0 < i then (0, 0, 3)
    else (c.toNat, 1, 0)
/-- the value V of i bytes that are read, joined to what the rest says -/
def comb (V i : Nat) (x : Nat × Nat × Nat) : Nat × Nat × Nat := if x.2.2 = 0 then (V + x.1 * 128 ^ i, i + x.2.1, 0) else (0, 0, x.2.2)
def cut (l : List UInt8) : Nat × Nat × Nat := cutG 0 l

theorem comb_zero (l : List UInt8) : comb 0 0 (cutG 0 l) = cut l := by
  unfold cut comb
  split
  · rename_i h; exact Prod.ext (by simp) (Prod.ext (by simp) h.symm)
  · rename_i h
    have hz : ∀ (l : List UInt8) (i : Nat), (cutG i l).2.2 ≠ 0 → cutG i l = (0, 0, (cutG i l).2.2) := by
      intro l i
      cases l with
      | nil => intro _; simp [cutG]
      | cons c r =>
        rw [cutG]
        split
        · intro _; rfl
        · split
          · split
            · intro h; exact absurd rfl h
            · intro _; rfl
          · split
            · intro _; rfl
            · intro h; exact absurd rfl h
    exact (hz l 0 h).symm
theorem cutG_over (i : Nat) (c : UInt8) (r : List UInt8) (hi : i = 9) (hc : 1 < c.toNat) : cutG i (c :: r) = (0, 0, 8) := by rw [cutG, if_pos ⟨hi, hc⟩]
theorem cutG_form (i : Nat) (c : UInt8) (r : List UInt8) (hi : 0 < i) (hc : c.toNat = 0) : cutG i (c :: r) = (0, 0, 3) := by
  rw [cutG, if_neg (by omega), if_neg (by omega), if_pos ⟨hc, hi⟩]
theorem cutG_last (i : Nat) (c : UInt8) (r : List UInt8) (h : ¬ (i = 9 ∧ 1 < c.toNat)) (hc : c.toNat < 128) (h0 : ¬ (c.toNat = 0 ∧ 0 < i)) : cutG i (c :: r) = (c.toNat, 1, 0) := by
  rw [cutG, if_neg h, if_neg (by omega), if_neg h0]
theorem comb_more (V i : Nat) (c : UInt8) (r : List UInt8) (hi : i < 9) (hc : 128 ≤ c.toNat) : comb V i (cutG i (c :: r)) = comb (V + c.toNat % 128 * 128 ^ i) (i + 1) (cutG (i + 1) r) := by
  rw [cutG, if_neg (by omega), if_pos hc]
  generalize cutG (i + 1) r = x
  unfold comb
  by_cases h : x.2.2 = 0
  · simp only [h, if_true, Nat.pow_succ, Nat.add_mul, Nat.mul_assoc, Nat.mul_comm 128 (128 ^ i)]
    refine Prod.ext ?_ (Prod.ext ?_ rfl)
    · simp only; omega
    · simp only; omega
  · simp [h]


theorem pow128 (k : Nat) : (2 : Int) ^ (7 * k) = ((128 ^ k : Nat) : Int) := by
  rw [Int.pow_mul, show (2 : Int) ^ 7 = 128 from rfl]; simp
theorem pow128_pos (k : Nat) : 0 < 128 ^ k := Nat.pow_pos (by decide)
theorem pow128_le {k : Nat} (h : k ≤ 8) : 128 ^ k ≤ 72057594037927936 := by
  have := Nat.pow_le_pow_right (show 0 < 128 by decide) h
  have e : (128 : Nat) ^ 8 = 72057594037927936 := by decide
  omega
theorem pow128_le9 {k : Nat} (h : k ≤ 9) : 128 ^ k ≤ 9223372036854775808 := by
  have := Nat.pow_le_pow_right (show 0 < 128 by decide) h
  have e : (128 : Nat) ^ 9 = 9223372036854775808 := by decide
  omega
theorem or_pow (V x k : Nat) (hk : k ≤ 9) (hV : V < 128 ^ k) (h64 : x * 128 ^ k < 18446744073709551616) : bits .or .u64 (V : Int) ((x * 128 ^ k : Nat) : Int) = ((V + x * 128 ^ k : Nat) : Int) := by
  have hk9 := pow128_le9 hk
  rw [u64_or_nat V (x * 128 ^ k) (by omega) h64, Nat.or_comm, nat_join (7 * k) (x * 128 ^ k) V, Nat.add_comm]
  · rw [Nat.pow_mul, show 2 ^ 7 = 128 from rfl]; exact Nat.mul_mod_left _ _
  · rw [Nat.pow_mul]; exact hV
/-- the step of the loop, as the walk writes it -/
theorem or_step (V x k : Nat) (hk : k ≤ 8) (hV : V < 128 ^ k) (hx : x < 256) : bits .or .u64 (V : Int) (IntKind.u64.wrap ((x : Int) * 2 ^ (7 * k))) = ((V + x * 128 ^ k : Nat) : Int) := by
  have h8 := pow128_le hk
  have h64 : x * 128 ^ k < 18446744073709551616 := by
    have := Nat.mul_le_mul (show x ≤ 255 by omega) h8
    omega
  rw [pow128, ← Int.natCast_mul, IntWalk.u64_in _ (by omega)]
  exact or_pow V x k (by omega) hV h64
theorem or_step7 (V d k : Nat) (hk : k ≤ 8) (hV : V < 128 ^ k) (hd : d < 256) : bits .or .u64 (V : Int) (IntKind.u64.wrap (IntKind.u64.wrap (bits .and .u8 (d : Int) 127) * 2 ^ (7 * k))) = ((V + d % 128 * 128 ^ k : Nat) : Int) := by
  have e := u8_and_nat d 127 hd (by omega)
  rw [nat_mask7, show ((127 : Nat) : Int) = 127 from rfl] at e
  rw [e, IntWalk.u64_in ((d % 128 : Nat) : Int) (by omega)]
  exact or_step V (d % 128) k hk hV (by omega)
theorem or_last (V d : Nat) (hV : V < 128 ^ 9) (hd : d ≤ 1) : bits .or .u64 (V : Int) ((d : Int) * 9223372036854775808) = ((V + d * 128 ^ 9 : Nat) : Int) := by
  have e : (128 : Nat) ^ 9 = 9223372036854775808 := by decide
  have := or_pow V d 9 (by omega) hV (by omega)
  rw [← this, Int.natCast_mul, e]; rfl
theorem val_step (V d k : Nat) (hV : V < 128 ^ k) : V + d % 128 * 128 ^ k < 128 ^ (k + 1) := by
  have h1 := Nat.mul_le_mul_right (128 ^ k) (show d % 128 ≤ 127 by omega)
  rw [Nat.pow_succ]
  omega


/-- a signed number as one without a sign, and back -/
def zig (v : Int) : Nat := if 0 ≤ v then (2 * v).toNat else (-2 * v - 1).toNat
def zag (u : Nat) : Int := if u % 2 = 0 then (u / 2 : Nat) else -((u / 2 : Nat) : Int) - 1
theorem zag_zig (v : Int) : zag (zig v) = v := by unfold zig zag; split <;> split <;> omega

theorem zig_lt (v : Int) (h0 : -9223372036854775808 ≤ v) (h1 : v < 9223372036854775808) : zig v < 18446744073709551616 := by unfold zig; split <;> omega
theorem zig_zag (u : Nat) (_hu : u < 18446744073709551616) : zig (zag u) = u := by unfold zig zag; split <;> split <;> omega
theorem zig_num (v : Int) (h0 : -9223372036854775808 ≤ v) (h1 : v < 9223372036854775808) :
    bits .xor .u64 (IntKind.u64.wrap (IntKind.u64.wrap v * 2)) (IntKind.u64.wrap (v / 9223372036854775808)) = ((zig v : Nat) : Int) := by
  by_cases hv : 0 ≤ v
  · rw [show v / 9223372036854775808 = 0 from by omega, IntWalk.u64_in v (by omega), IntWalk.u64_in (v * 2) (by omega), IntWalk.u64_in 0 (by omega)]
    have h := u64_xor_nat (v * 2).toNat 0 (by omega) (by omega)
    rw [Nat.xor_zero, show (((v * 2).toNat : Nat) : Int) = v * 2 from by omega, show ((0 : Nat) : Int) = 0 from rfl] at h
    rw [h]; unfold zig; rw [if_pos hv]; omega
  · have e1 : IntKind.u64.wrap v = v + 18446744073709551616 := by rw [IntKind.wrap_u64]; omega
    have e2 : IntKind.u64.wrap ((v + 18446744073709551616) * 2) = (((2 * v + 18446744073709551616).toNat : Nat) : Int) := by rw [IntKind.wrap_u64]; omega
    have e3 : IntKind.u64.wrap (v / 9223372036854775808) = ((18446744073709551615 : Nat) : Int) := by rw [show v / 9223372036854775808 = -1 from by omega, IntKind.wrap_u64]; rfl
    rw [e1, e2, e3, u64_xor_nat _ _ (by omega) (by omega), Nat.xor_comm]
    have h := Lib.xor_ones64 (2 * v + 18446744073709551616).toNat (by omega)
    rw [show (2 : Nat) ^ 64 - 1 = 18446744073709551615 from by decide] at h
    rw [h]; unfold zig; rw [if_neg hv]; omega
theorem i64_xor_nat (a b : Nat) (ha : a < 9223372036854775808) (hb : b < 9223372036854775808) : bits .xor .i64 (a : Int) (b : Int) = ((a ^^^ b : Nat) : Int) := by
  have hx : a ^^^ b < 2 ^ 63 := Nat.xor_lt_two_pow (by omega) (by omega)
  have ea : (BitVec.ofInt 64 (a : Int)).toNat = a := by rw [BitVec.ofInt_natCast, BitVec.toNat_ofNat]; exact Nat.mod_eq_of_lt (by omega)
  have eb : (BitVec.ofInt 64 (b : Int)).toNat = b := by rw [BitVec.ofInt_natCast, BitVec.toNat_ofNat]; exact Nat.mod_eq_of_lt (by omega)
  show IntKind.i64.wrap ((BitVec.ofInt 64 (a : Int) ^^^ BitVec.ofInt 64 (b : Int)).toNat : Int) = _
  rw [BitVec.toNat_xor, ea, eb, IntKind.wrap_i64]
  omega
theorem i64_xor_comm (a b : Int) : bits .xor .i64 a b = bits .xor .i64 b a := by
  show IntKind.i64.wrap ((BitVec.ofInt 64 a ^^^ BitVec.ofInt 64 b).toNat : Int) = IntKind.i64.wrap ((BitVec.ofInt 64 b ^^^ BitVec.ofInt 64 a).toNat : Int)
  rw [BitVec.xor_comm]
theorem zag_num (u : Nat) (hu : u < 18446744073709551616) : bits .xor .i64 ((u : Int) / 2) (wrap64 (-wrap64 (bits .and .u64 (u : Int) 1))) = zag u := by
  rw [and_one_u64 (u : Int) (by omega) (by omega), IntWalk.wrap64_in ((u : Int) % 2) (by omega), IntWalk.wrap64_in (-((u : Int) % 2)) (by omega)]
  rw [show (u : Int) / 2 = ((u / 2 : Nat) : Int) from by omega]
  by_cases h : u % 2 = 0
  · rw [show -((u : Int) % 2) = ((0 : Nat) : Int) from by omega, i64_xor_nat _ _ (by omega) (by omega), Nat.xor_zero]
    unfold zag; rw [if_pos h]
  · rw [show -((u : Int) % 2) = -1 from by omega, i64_xor_comm, Lib.i64_not _ (by omega)]
    unfold zag; rw [if_neg h]

theorem cutG_lt : ∀ (l : List UInt8) (i : Nat), i ≤ 9 → (cutG i l).1 * 128 ^ i < 18446744073709551616
  | [], i, _ => by simp [cutG]
  | c :: r, i, hi => by
    have hc := c.toNat_lt
    rw [cutG]
    split
    · simp
    · split
      · split
        · have ih := cutG_lt r (i + 1) (by omega)
          have hd : (128 : Nat) ^ (i + 1) ∣ 128 ^ 9 := Nat.pow_dvd_pow 128 (by omega)
          obtain ⟨q, hq⟩ := hd
          have e : (128 : Nat) ^ 9 = 9223372036854775808 := by decide
          rw [e] at hq
          generalize (cutG (i + 1) r).1 = v at ih ⊢
          rw [Nat.pow_succ] at ih hq
          generalize 128 ^ i = p at ih hq ⊢
          have h1 : v < 2 * q := by
            refine Nat.lt_of_mul_lt_mul_right (a := p * 128) ?_
            rw [Nat.mul_assoc, Nat.mul_comm q]; omega
          have h2 : (v + 1) * (p * 128) ≤ 2 * q * (p * 128) := Nat.mul_le_mul_right _ h1
          have h3 : 2 * q * (p * 128) = 18446744073709551616 := by rw [Nat.mul_assoc, Nat.mul_comm q]; omega
          rcases Nat.eq_zero_or_pos p with hp | hp
          · subst hp; simp
          · have h4 : (v * 128 + c.toNat % 128) * p < (v * 128 + 128) * p := Nat.mul_lt_mul_of_pos_right (by omega) hp
            have h5 : (v * 128 + 128) * p = (v + 1) * (p * 128) := by rw [show v * 128 + 128 = (v + 1) * 128 from by omega, Nat.mul_assoc, Nat.mul_comm 128 p]
            simp only; omega
        · simp
      · split
        · simp
        · simp only
          by_cases h9 : i = 9
          · subst h9
            have e : (128 : Nat) ^ 9 = 9223372036854775808 := by decide
            rw [e]; omega
          · have h8 := pow128_le (show i ≤ 8 by omega)
            have := Nat.mul_le_mul (show c.toNat ≤ 127 by omega) h8
            omega
theorem cut_lt (l : List UInt8) : (cut l).1 < 18446744073709551616 := by have := cutG_lt l 0 (by omega); unfold cut; omega
theorem cutG_n : ∀ (l : List UInt8) (i : Nat), i ≤ 9 → (cutG i l).2.1 ≤ 10 - i ∧ (cutG i l).2.1 ≤ l.length ∧ (cutG i l).2.2 ≤ 8 ∧ ((cutG i l).2.2 = 0 → 0 < (cutG i l).2.1)
  | [], i, _ => by simp [cutG]
  | c :: r, i, hi => by
    have hc := c.toNat_lt
    rw [cutG]
    split
    · simp
    · split
      · have ih := cutG_n r (i + 1) (by omega)
        split
        · simp only [List.length_cons]; omega
        · simp only [List.length_cons]; omega
      · split
        · simp
        · simp only [List.length_cons]; omega
theorem cut_n (l : List UInt8) : (cut l).2.1 ≤ 10 ∧ (cut l).2.1 ≤ l.length ∧ (cut l).2.2 ≤ 8 := by have := cutG_n l 0 (by omega); unfold cut; omega

/-- the value of the groups of seven bits, the least first -/
def vals : List UInt8 → Nat
  | [] => 0
  | c :: r => c.toNat % 128 + 128 * vals r
theorem vals_snoc (c : UInt8) : ∀ xs : List UInt8, vals (xs ++ [c]) = vals xs + c.toNat % 128 * 128 ^ xs.length
  | [] => by simp [vals]
  | x :: xs => by
    simp only [List.cons_append, vals, vals_snoc c xs, List.length_cons, Nat.pow_succ, Nat.mul_add]
    rw [Nat.mul_comm (128 ^ xs.length) 128, Nat.mul_left_comm 128 (c.toNat % 128)]
    omega
theorem vals_lt : ∀ xs : List UInt8, vals xs < 128 ^ xs.length
  | [] => by simp [vals]
  | x :: xs => by
    have := vals_lt xs
    simp only [vals, List.length_cons, Nat.pow_succ]
    omega
theorem take_snoc (l : List UInt8) (k : Nat) (h : k < l.length) : l.take (k + 1) = l.take k ++ [l[k]] := by rw [List.take_succ_eq_append_getElem h]
theorem vals_take (l : List UInt8) (k : Nat) (h : k < l.length) : vals (l.take (k + 1)) = vals (l.take k) + l[k].toNat % 128 * 128 ^ k := by
  rw [take_snoc l k h, vals_snoc, List.length_take, Nat.min_eq_left (by omega)]
theorem vals_drop (l : List UInt8) (n j : Nat) (hj : j < n) (h : n ≤ l.length) : vals ((l.take n).drop j) = l[j].toNat % 128 + 128 * vals ((l.take n).drop (j + 1)) := by
  rw [List.drop_eq_getElem_cons (by simp; omega)]
  simp [vals]
theorem vals_drop_lt (l : List UInt8) (n j : Nat) (h : n ≤ l.length) : vals ((l.take n).drop j) < 128 ^ (n - j) := by
  have := vals_lt ((l.take n).drop j)
  rw [List.length_drop, List.length_take, Nat.min_eq_left h] at this
  exact this
theorem vals_drop_le : ∀ (j : Nat) (xs : List UInt8), vals (xs.drop j) ≤ vals xs
  | 0, _ => by simp
  | _ + 1, [] => by simp
  | j + 1, x :: xs => by
    have := vals_drop_le j xs
    simp only [List.drop_succ_cons, vals]
    omega
theorem cut_value (l : List UInt8) (k : Nat) (hk : k < l.length) (hcomb : comb (vals (l.take k)) k (cutG k (l.drop k)) = cut l)
    (h9 : ¬ (k = 9 ∧ 1 < l[k].toNat)) (h1 : l[k].toNat < 128) (h0 : ¬ (l[k].toNat = 0 ∧ 0 < k)) : cut l = (vals (l.take (k + 1)), k + 1, 0) := by
  rw [← hcomb, List.drop_eq_getElem_cons hk, cutG_last _ _ _ h9 h1 h0, vals_take l k hk, Nat.mod_eq_of_lt h1]
  simp [comb]
end Go.Proofs.Ytnoahfhnmiibgaa
