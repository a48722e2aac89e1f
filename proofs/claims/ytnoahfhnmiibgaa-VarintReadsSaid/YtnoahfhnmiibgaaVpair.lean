/-
  What a reader and the reference's reader read: the same, whatever it is.
-/
import Derived.Test.YtnoahfhnmiibgaaTake2
namespace Go.Proofs.Ytnoahfhnmiibgaa
open Go.RowKit

theorem int_pair (l : List UInt8) (p e : Nat) : ∃ (X : Int) (P E : Nat),
    (∀ g A c w, Rdr w g A l c p e → Calls Try.prog 34 #[.pointer (some ⟨g, 0, none⟩)] w fun en w' => en = .returned (.int .i64 X) ∧ Rdr w' g A l c P E ∧ w.grownBy w' (some g)) ∧
    (∀ t w, Tk w t l p e → Calls Try.prog 35 #[.pointer (some ⟨t, 0, none⟩)] w fun en w' => en = .returned (.int .i64 X) ∧ Tk w' t l P E ∧ w.grownBy w' (some t)) :=
  ⟨_, _, _, fun g A c w h => int_any g A l c p e w h, fun t w h => tkint_any t l p e w h⟩
theorem text_pair (l : List UInt8) (p e : Nat) : ∃ (X : List UInt8) (P E : Nat),
    (∀ g A c w, Rdr w g A l c p e → Calls Try.prog 36 #[.pointer (some ⟨g, 0, none⟩)] w fun en w' => en = .returned (.string ⟨X.toArray⟩) ∧ Rdr w' g A l c P E ∧ w.grownBy w' (some g)) ∧
    (∀ t w, Tk w t l p e → Calls Try.prog 37 #[.pointer (some ⟨t, 0, none⟩)] w fun en w' => en = .returned (.string ⟨X.toArray⟩) ∧ Tk w' t l P E ∧ w.grownBy w' (some t)) :=
  ⟨_, _, _, fun g A c w h => text_any g A l c p e w h, fun t w h => tktext_any t l p e w h⟩
theorem byte_pair (l : List UInt8) (p e : Nat) : ∃ (X : Nat) (P E : Nat),
    (∀ g A c w, Rdr w g A l c p e → Calls Try.prog 38 #[.pointer (some ⟨g, 0, none⟩)] w fun en w' => en = .returned (.int .u8 (X : Int)) ∧ Rdr w' g A l c P E ∧ w.grownBy w' (some g)) ∧
    (∀ t w, Tk w t l p e → Calls Try.prog 39 #[.pointer (some ⟨t, 0, none⟩)] w fun en w' => en = .returned (.int .u8 (X : Int)) ∧ Tk w' t l P E ∧ w.grownBy w' (some t)) :=
  ⟨_, _, _, fun g A c w h => byte_any g A l c p e w h, fun t w h => tkbyte_any t l p e w h⟩
theorem flag_pair (l : List UInt8) (p e : Nat) : ∃ (X : Bool) (P E : Nat),
    (∀ g A c w, Rdr w g A l c p e → Calls Try.prog 40 #[.pointer (some ⟨g, 0, none⟩)] w fun en w' => en = .returned (.bool X) ∧ Rdr w' g A l c P E ∧ w.grownBy w' (some g)) ∧
    (∀ t w, Tk w t l p e → Calls Try.prog 41 #[.pointer (some ⟨t, 0, none⟩)] w fun en w' => en = .returned (.bool X) ∧ Tk w' t l P E ∧ w.grownBy w' (some t)) :=
  ⟨_, _, _, fun g A c w h => flag_any g A l c p e w h, fun t w h => tkflag_any t l p e w h⟩
theorem num_pair (l : List UInt8) (p e m : Nat) : ∃ (X : Nat) (P E : Nat),
    (∀ g A c w, Rdr w g A l c p e → Calls Try.prog 32 #[.pointer (some ⟨g, 0, none⟩), .int .u64 m] w fun en w' => en = .returned (.int .u64 (X : Int)) ∧ Rdr w' g A l c P E ∧ w.grownBy w' (some g)) ∧
    (∀ t w, Tk w t l p e → Calls Try.prog 33 #[.pointer (some ⟨t, 0, none⟩), .int .u64 m] w fun en w' => en = .returned (.int .u64 (X : Int)) ∧ Tk w' t l P E ∧ w.grownBy w' (some t)) :=
  ⟨_, _, _, fun g A c w h => num_any g A l c p e m w h, fun t w h => tknum_any t l p e m w h⟩
theorem fail_pair (l : List UInt8) (p e : Nat) (xi : Int) (x : Nat) (hxi : xi = x) (hx : x ≤ 30) : ∃ (P E : Nat),
    (∀ g A c w, Rdr w g A l c p e → Calls Try.prog 42 #[.pointer (some ⟨g, 0, none⟩), .int .i64 xi] w fun en w' => en = .returned (.tuple #[]) ∧ Rdr w' g A l c P E ∧ w.grownBy w' (some g)) ∧
    (∀ t w, Tk w t l p e → Calls Try.prog 43 #[.pointer (some ⟨t, 0, none⟩), .int .i64 xi] w fun en w' => en = .returned (.tuple #[]) ∧ Tk w' t l P E ∧ w.grownBy w' (some t)) := by
  subst hxi
  exact ⟨_, _, fun g A c w h => fail_any g A l c p e x hx w h, fun t w h => tkfail_any t l p e x hx w h⟩
end Go.Proofs.Ytnoahfhnmiibgaa
