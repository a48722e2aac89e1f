/-
  The law's own example of the varint layer holds: awake returns true. 'few': at most 2000 bytes.
-/
import Derived.Test.YtnoahfhnmiibgaaVrcut
import Derived.Deep.RegionWith
namespace Go.Proofs.Ytnoahfhnmiibgaa
open Go.RowKit

theorem put300 : put 300 = [172, 2] := by rw [put_ge _ (by omega), put_lt _ (by omega)]; rfl
theorem put0 : put 0 = [0] := by rw [put_lt _ (by omega)]; rfl
theorem putm1 : put (zig (-1)) = [1] := by rw [show zig (-1) = 1 from rfl, put_lt _ (by omega)]; rfl
theorem put1 : put (zig 1) = [2] := by rw [show zig 1 = 2 from rfl, put_lt _ (by omega)]; rfl
theorem puttx : put [(97 : UInt8), 98].length ++ [97, 98] = [2, 97, 98] := by rw [put_lt _ (by decide)]; rfl

theorem aw_cut2 (w : World) (b : Nat) (hb : w.heap[b]? = some (.cells #[.int .u8 128, .int .u8 0] 5 (0, 0))) : Calls Try.prog 14 #[.slice (some ⟨b, 0, none⟩) 2 2] w fun e w' => e = .returned (.tuple #[.int .u64 0, .int .i64 0, .int .i64 3]) ∧ w = w' :=
  cut_any _ [128, 0] 2 _ (Bs.of_block hb rfl) (by decide)
theorem aw_cut1 (w : World) (b : Nat) (hb : w.heap[b]? = some (.cells #[.int .u8 128] 5 (0, 0))) : Calls Try.prog 14 #[.slice (some ⟨b, 0, none⟩) 1 1] w fun e w' => e = .returned (.tuple #[.int .u64 0, .int .i64 0, .int .i64 2]) ∧ w = w' :=
  cut_any _ [128] 1 _ (Bs.of_block hb rfl) (by decide)
theorem aw_put300 (w : World) : Calls Try.prog 12 #[.int .u64 300] w fun e w' => ∃ g cap, e = .returned (.slice (some ⟨g, 0, none⟩) 2 cap) ∧ Below w.heap.size w w' ∧ (_root_.Go.convert 24 9 (.slice (some ⟨g, 0, none⟩) 2 cap)).run Try.prog w' = .ok (.string ⟨#[172, 2]⟩) w' :=
  (put_any 300 (by omega) (by omega) w).mono fun _ w' ⟨g, cap, he, hown, hb⟩ => by
    rw [show (300 : Int).toNat = 300 from rfl, put300] at he hown
    exact ⟨g, cap, he, hb, run_str w' _ cap [172, 2] (Bs.of_own hown)⟩
theorem aw_put0 (w : World) : Calls Try.prog 12 #[.int .u64 0] w fun e w' => ∃ g cap, e = .returned (.slice (some ⟨g, 0, none⟩) 1 cap) ∧ Below w.heap.size w w' ∧ (_root_.Go.convert 24 9 (.slice (some ⟨g, 0, none⟩) 1 cap)).run Try.prog w' = .ok (.string ⟨#[0]⟩) w' :=
  (put_any 0 (by omega) (by omega) w).mono fun _ w' ⟨g, cap, he, hown, hb⟩ => by
    rw [show (0 : Int).toNat = 0 from rfl, put0] at he hown
    exact ⟨g, cap, he, hb, run_str w' _ cap [0] (Bs.of_own hown)⟩
theorem aw_putm1 (w : World) : Calls Try.prog 18 #[.int .i64 (-1)] w fun e w' => ∃ A cap, e = .returned (.slice A 1 cap) ∧ Below w.heap.size w w' ∧ (_root_.Go.convert 24 9 (.slice A 1 cap)).run Try.prog w' = .ok (.string ⟨#[1]⟩) w' :=
  (putint_any (-1) (by omega) (by omega) w).mono fun _ w' ⟨A, cap, he, hown, hb⟩ => by
    rw [putm1] at he hown
    exact ⟨A, cap, he, hb, run_str w' _ cap [1] (Bs.of_own hown)⟩
theorem aw_put1 (w : World) : Calls Try.prog 18 #[.int .i64 1] w fun e w' => ∃ A cap, e = .returned (.slice A 1 cap) ∧ Below w.heap.size w w' ∧ (_root_.Go.convert 24 9 (.slice A 1 cap)).run Try.prog w' = .ok (.string ⟨#[2]⟩) w' :=
  (putint_any 1 (by omega) (by omega) w).mono fun _ w' ⟨A, cap, he, hown, hb⟩ => by
    rw [put1] at he hown
    exact ⟨A, cap, he, hb, run_str w' _ cap [2] (Bs.of_own hown)⟩
theorem aw_text (w : World) : Calls Try.prog 25 #[.string ⟨#[97, 98]⟩] w fun e w' => ∃ A cap, e = .returned (.slice A 3 cap) ∧ Below w.heap.size w w' ∧ (_root_.Go.convert 24 9 (.slice A 3 cap)).run Try.prog w' = .ok (.string ⟨#[2, 97, 98]⟩) w' :=
  (puttext_any [97, 98] (by decide) w).mono fun _ w' ⟨A, cap, he, hown, hb⟩ => by
    rw [puttx] at he hown
    exact ⟨A, cap, he, hb, run_str w' _ cap [2, 97, 98] (Bs.of_own hown)⟩

set_option maxHeartbeats 1000000 in
theorem awake_any (w : World) : Calls Try.prog 11 #[] w fun e w' => e = .returned (.bool true) ∧ Below w.heap.size w w' := by
  go_enter Try.func11, Try.ntmps11
  go_wp2_with fail
  refine (aw_cut2 _ _ (heap_alloc_new _ _)).mono ?_
  rintro e w' ⟨rfl, rfl⟩
  go_wp2_with fail
  refine (aw_cut1 _ (w.heap.size + 1) (by rw [show w.heap.size + 1 = (w.alloc (.cells #[.int .u8 128, .int .u8 0] 5)).heap.size from by simp]; exact heap_alloc_new _ _)).mono ?_
  rintro e w' ⟨rfl, rfl⟩
  go_wp2_with fail
  refine (aw_put300 _).mono ?_
  rintro e w1 ⟨g1, c1, rfl, hb1, hv1⟩
  go_wp2_with fail
  refine (aw_put0 _).mono ?_
  rintro e w2 ⟨g2, c2, rfl, hb2, hv2⟩
  go_wp2_with fail
  refine (aw_putm1 _).mono ?_
  rintro e w3 ⟨g3, c3, rfl, hb3, hv3⟩
  go_wp2_with fail
  refine (aw_put1 _).mono ?_
  rintro e w4 ⟨g4, c4, rfl, hb4, hv4⟩
  go_wp2_with fail
  refine (aw_text _).mono ?_
  rintro e w5 ⟨g5, c5, rfl, hb5, hv5⟩
  go_wp2_with fail
  go_ret
  refine ⟨rfl, ?_⟩
  have hb0 : Below w.heap.size w ((w.alloc (.cells #[.int .u8 128, .int .u8 0] 5)).alloc (.cells #[.int .u8 128] 5)) := ((Below.refl _ _).alloc (Nat.le_refl _) _).alloc (by simp) _
  have hs0 := hb0.size
  have hs1 := hb1.size; have hs2 := hb2.size; have hs3 := hb3.size; have hs4 := hb4.size
  refine ((((hb0.trans (hb1.mono ?_)).trans (hb2.mono ?_)).trans (hb3.mono ?_)).trans (hb4.mono ?_)).trans (hb5.mono ?_)
  all_goals simp only [World.size_alloc] at *; omega
end Go.Proofs.Ytnoahfhnmiibgaa
