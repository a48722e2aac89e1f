/-
  The walks of varint.Reader's methods, by the contracts of their steps.
-/
import Derived.Test.YtnoahfhnmiibgaaRdr2
namespace Go.Proofs.Ytnoahfhnmiibgaa
open Go.RowKit
set_option linter.unusedSimpArgs false
set_option linter.unusedVariables false

/-- what is wrong with a number that may not be above most -/
def numE (l : List UInt8) (most : Nat) : Nat := if (cut l).2.2 = 0 ∧ most < (cut l).1 then 8 else (cut l).2.2
theorem numE_le (l : List UInt8) (most : Nat) : numE l most ≤ 8 := by have := cut_n l; unfold numE; split <;> omega
/-- a byte that is cut -/
def oneV : List UInt8 → Nat
  | [] => 0
  | c :: _ => c.toNat
def oneN (l : List UInt8) : Nat := if l.length = 0 then 0 else 1
def oneE (l : List UInt8) : Nat := if l.length = 0 then 2 else 0

set_option maxHeartbeats 400000 in
theorem numf_any (A : Option Addr) (l : List UInt8) (c most m : Nat) (w : World) (hb : Bs w A l) (hl : l.length ≤ 34359738368) (hm : w.cell? ⟨m, 0, none⟩ = some (.int .u64 most)) :
    Calls Try.prog 51 #[.slice A l.length c, .pointer (some ⟨m, 0, none⟩)] w fun e w' => e = .returned (.tuple #[.int .u64 (cut l).1, .int .i64 (cut l).2.1, .int .i64 (numE l most)]) ∧ w = w' := by
  have hn := cut_n l
  have hv := cut_lt l
  by_cases he : (cut l).2.2 = 0
  · have he' : (((cut l).2.2 : Int) == 0) = true := by rw [he]; rfl
    by_cases h1 : most < (cut l).1
    · have h1' : (most : Int) < ((cut l).1 : Int) := by omega
      have HF := hide (show numE l most = 8 from by unfold numE; rw [if_pos ⟨he, h1⟩])
      have HE := hide he; clear he
      go_enter Try.func51, Try.ntmps51
      go_wp2_with (go_at_call 14; refine (cut_any A l c w hb hl).mono ?_; rintro e w' ⟨rfl, rfl⟩)
      go_ret3
      rw [HF.out]; exact ⟨rfl, rfl⟩
    · have h1' : ¬ (most : Int) < ((cut l).1 : Int) := by omega
      have HF := hide (show numE l most = (cut l).2.2 from by unfold numE; rw [if_neg (fun x => h1 x.2)])
      have HE := hide he; clear he
      go_enter Try.func51, Try.ntmps51
      go_wp2_with (go_at_call 14; refine (cut_any A l c w hb hl).mono ?_; rintro e w' ⟨rfl, rfl⟩)
      go_ret3
      rw [HF.out]; exact ⟨rfl, rfl⟩
  · have he' : (((cut l).2.2 : Int) == 0) = false := by rw [beq_eq_false_iff_ne]; omega
    have HF := hide (show numE l most = (cut l).2.2 from by unfold numE; rw [if_neg (fun x => he x.1)])
    go_enter Try.func51, Try.ntmps51
    go_wp2_with (go_at_call 14; refine (cut_any A l c w hb hl).mono ?_; rintro e w' ⟨rfl, rfl⟩)
    go_ret3
    rw [HF.out]; exact ⟨rfl, rfl⟩

set_option maxHeartbeats 400000 in
theorem one_any (A : Option Addr) (l : List UInt8) (c : Nat) (w : World) (hb : Bs w A l) (hl : l.length ≤ 34359738368) :
    Calls Try.prog 55 #[.slice A l.length c] w fun e w' => e = .returned (.tuple #[.int .u8 (oneV l), .int .i64 (oneN l), .int .i64 (oneE l)]) ∧ w = w' := by
  by_cases h0 : l.length = 0
  · have h0' : ((l.length : Int) == 0) = true := by rw [h0]; rfl
    have HF := hide (show oneV l = 0 ∧ oneN l = 0 ∧ oneE l = 2 from by rw [List.length_eq_zero_iff] at h0; subst h0; exact ⟨rfl, rfl, rfl⟩)
    have HE := hide h0; clear h0
    go_enter Try.func55, Try.ntmps55
    go_wp2_with fail
    go_ret3
    rw [HF.out.1, HF.out.2.1, HF.out.2.2]; exact ⟨rfl, rfl⟩
  · have h0' : ((l.length : Int) == 0) = false := by rw [beq_eq_false_iff_ne]; omega
    obtain ⟨b, off, rfl, hlt, hc⟩ := hb.cell (by omega)
    obtain ⟨d, hd⟩ : ∃ d : Nat, d = oneV l := ⟨_, rfl⟩
    have hcell : w.cell? ⟨b, off, none⟩ = some (.int .u8 d) := by
      have := hc 0 (by omega)
      rw [Nat.add_zero] at this
      rw [this, hd]
      match l, h0 with
      | c :: r, _ => rfl
    have hi : (0 : Int) < (l.length : Int) := by omega
    have HF := hide (show oneN l = 1 ∧ oneE l = 0 from by unfold oneN oneE; rw [if_neg h0, if_neg h0]; exact ⟨rfl, rfl⟩)
    rw [← hd]
    clear hc
    go_enter Try.func55, Try.ntmps55
    go_wp2_with fail
    go_ret3
    rw [HF.out.1, HF.out.2]; subst hd; exact ⟨rfl, rfl⟩
end Go.Proofs.Ytnoahfhnmiibgaa
