/-
  The walks of varint.Size, zig, zag, PutInt, CutInt, PutText, CutText.
-/
import Derived.Test.YtnoahfhnmiibgaaPut
import Derived.Test.YtnoahfhnmiibgaaCut
namespace Go.Proofs.Ytnoahfhnmiibgaa
open Go.RowKit
set_option maxRecDepth 100000

set_option maxHeartbeats 400000 in
theorem size_any (v : Int) (hv0 : 0 ≤ v) (hv : v < 18446744073709551616) (w : World) :
    Calls Try.prog 20 #[.int .u64 v] w fun e w' => e = .returned (.int .i64 (put v.toNat).length) ∧ w = w' := by
  go_enter Try.func20, Try.ntmps20
  go_wp2
  go_loop [0, 3] (fun n o => ∃ (k : Int) (m : Nat), 0 ≤ k ∧ k < 18446744073709551616 ∧ n = .int .u64 k ∧ o = .int .i64 m ∧ m ≤ 10 ∧ m + (put k.toNat).length = (put v.toNat).length + 1) (fun n _ => (intOf n).toNat)
  case atStart => exact ⟨v, 1, hv0, hv, rfl, rfl, by omega, by omega⟩
  case round =>
    obtain ⟨k, m, hk0, hk1, rfl, rfl, hm, hput⟩ := hrel
    have h2 := put_len v.toNat (by omega)
    have h3 := put_pos k.toNat
    by_cases hlt : k < 128
    · have HP := hide (show m = (put v.toNat).length from by rw [put_lt _ (by omega)] at hput; simp at hput; omega); clear hput
      go_wp2_with fail
      go_ret
      exact ⟨ret1 (by rw [HP.out]), rfl⟩
    · have hge : 128 ≤ k := by omega
      have HP := hide (show m + 1 + (put (k / 128).toNat).length = (put v.toNat).length + 1 from by rw [put_ge _ (by omega)] at hput; simp at hput; rw [show (k / 128).toNat = k.toNat / 128 from by omega]; omega)
      clear hput
      go_wp2_with fail
      go_round
      case rel =>
        exact ⟨k / 128, m + 1, by omega, by omega, rfl, by go_num, by have := HP.out; have := put_pos (k / 128).toNat; omega, HP.out⟩
      case measure => simp [intOf]; omega

theorem zig_any (v : Int) (hv0 : -9223372036854775808 ≤ v) (hv : v < 9223372036854775808) (w : World) :
    Calls Try.prog 49 #[.int .i64 v] w fun e w' => e = .returned (.int .u64 (zig v)) ∧ w = w' := by
  go_enter Try.func49, Try.ntmps49
  go_wp2_with fail
  go_ret
  refine ⟨ret1 ?_, rfl⟩
  exact zig_num v hv0 hv
theorem zag_any (u : Nat) (hu : u < 18446744073709551616) (w : World) :
    Calls Try.prog 48 #[.int .u64 u] w fun e w' => e = .returned (.int .i64 (zag u)) ∧ w = w' := by
  have hu0 : (0 : Int) ≤ u := by omega
  have hu1 : (u : Int) < 18446744073709551616 := by omega
  go_enter Try.func48, Try.ntmps48
  go_wp2_with fail
  go_ret
  refine ⟨ret1 ?_, rfl⟩
  exact zag_num u hu

set_option maxHeartbeats 400000 in
theorem putint_any (v : Int) (hv0 : -9223372036854775808 ≤ v) (hv : v < 9223372036854775808) (w : World) :
    Calls Try.prog 18 #[.int .i64 v] w (BytesOut 5 w (put (zig v))) := by
  have hz := zig_lt v hv0 hv
  go_enter Try.func18, Try.ntmps18
  go_wp2_with (first
    | (go_at_call 49; refine (zig_any v hv0 hv _).mono ?_; rintro e w' ⟨rfl, rfl⟩)
    | (go_at_call 12; refine (put_any (zig v) (by omega) (by omega) _).mono ?_; rintro e w1 ⟨g, cap, rfl, hown, hbel⟩))
  go_ret
  exact ⟨_, _, rfl, hown, hbel⟩
set_option maxHeartbeats 400000 in
theorem cutint_any (A : Option Addr) (l : List UInt8) (c : Nat) (w : World) (hb : Bs w A l) (hl : l.length ≤ 34359738368) :
    Calls Try.prog 15 #[.slice A l.length c] w fun e w' => e = .returned (.tuple #[.int .i64 (zag (cut l).1), .int .i64 (cut l).2.1, .int .i64 (cut l).2.2]) ∧ w = w' := by
  have hc64 := cut_lt l
  go_enter Try.func15, Try.ntmps15
  go_wp2_with (first
    | (go_at_call 14; refine (cut_any A l c w hb hl).mono ?_; rintro e w' ⟨rfl, rfl⟩)
    | (go_at_call 48; refine (zag_any (cut l).1 hc64 _).mono ?_; rintro e w' ⟨rfl, rfl⟩))
  go_ret3
  exact ⟨rfl, rfl⟩
set_option maxHeartbeats 400000 in
theorem puttext_any (s : List UInt8) (hs : s.length ≤ 255) (w : World) :
    Calls Try.prog 25 #[.string ⟨s.toArray⟩] w (BytesOut 5 w (put s.length ++ s)) := by
  have hp := put_len s.length (by omega)
  go_enter Try.func25, Try.ntmps25
  go_wp2_with (first
    | (go_at_call 12; refine (put_any s.length (by omega) (by omega) _).mono ?_; rintro e w1 ⟨g, cap, rfl, hown, hbel⟩)
    | (at_builtin; refine wpList_appStr _ rfl (.tmp 9) (.tmp 10) _ _ rfl w w.heap.size 5 Try.underlying24 Try.underlying9 info_u8 _ _ (put s.length) rfl hown hbel s rfl (by omega) hbel.size ?_; intro A' cap' w2 hown2 hbel2))
  go_ret
  exact bytesOut_of (by simp) hown2 hbel2
theorem puttext_no (s : List UInt8) (hs : 255 < s.length) (w : World) :
    Calls Try.prog 25 #[.string ⟨s.toArray⟩] w (BytesOut 5 w []) := by
  go_enter Try.func25, Try.ntmps25
  go_wp2_with fail
  go_ret
  exact ⟨_, _, rfl, World.ownsRow_nil _ _ _ _, Below.refl _ _⟩

theorem run_str (w : World) (A : Option Addr) (c : Nat) (l : List UInt8) (hb : Bs w A l) : (_root_.Go.convert 24 9 (.slice A l.length c)).run Try.prog w = .ok (.string ⟨l.toArray⟩) w :=
  run_string_of _ _ 5 Try.underlying24 Try.underlying5 Try.underlying9 w A c l hb

theorem size_u8 : (Try.prog.info? 5).map (·.size) = some 1 := by kernel_rfl

def CutText (l : List UInt8) : List UInt8 × Nat × Nat :=
  if (cut l).2.2 ≠ 0 then ([], 0, (cut l).2.2)
  else if 255 < (cut l).1 then ([], 0, 8)
  else if l.length < (cut l).2.1 + (cut l).1 then ([], 0, 2)
  else ((l.drop (cut l).2.1).take (cut l).1, (cut l).2.1 + (cut l).1, 0)


set_option maxHeartbeats 1000000 in
theorem cuttext_any (A : Option Addr) (l : List UInt8) (c : Nat) (w : World) (hb : Bs w A l) (hl : l.length ≤ 34359738368) (hlc : l.length ≤ c) (hcm : c ≤ 9223372036854775807) :
    Calls Try.prog 23 #[.slice A l.length c] w fun e w' => e = .returned (.tuple #[.string ⟨(CutText l).1.toArray⟩, .int .i64 (CutText l).2.1, .int .i64 (CutText l).2.2]) ∧ w = w' := by
  have hn := cut_n l
  have hv := cut_lt l
  by_cases he : (cut l).2.2 = 0
  · have he' : (((cut l).2.2 : Int) != 0) = false := by rw [he]; rfl
    by_cases hv1 : 255 < (cut l).1
    · have hv1' : (255 : Int) < ((cut l).1 : Int) := by omega
      have HF := hide (show CutText l = ([], 0, 8) from by unfold CutText; rw [if_neg (by omega), if_pos hv1])
      have He := hide he; clear he
      go_enter Try.func23, Try.ntmps23
      go_wp2_with (go_at_call 14; refine (cut_any A l c w hb hl).mono ?_; rintro e w' ⟨rfl, rfl⟩)
      go_ret3
      rw [HF.out]; exact ⟨rfl, rfl⟩
    · have hv1' : ¬ (255 : Int) < ((cut l).1 : Int) := by omega
      by_cases hs : l.length < (cut l).2.1 + (cut l).1
      · have hs' : ((l.length : Int) - ((cut l).2.1 : Int)) < ((cut l).1 : Int) := by omega
        have HF := hide (show CutText l = ([], 0, 2) from by unfold CutText; rw [if_neg (by omega), if_neg hv1, if_pos hs])
        have He := hide he; clear he
        go_enter Try.func23, Try.ntmps23
        go_wp2_with (go_at_call 14; refine (cut_any A l c w hb hl).mono ?_; rintro e w' ⟨rfl, rfl⟩)
        go_ret3
        rw [HF.out]; exact ⟨rfl, rfl⟩
      · have hs' : ¬ ((l.length : Int) - ((cut l).2.1 : Int)) < ((cut l).1 : Int) := by omega
        have HF := hide (show CutText l = ((l.drop (cut l).2.1).take (cut l).1, (cut l).2.1 + (cut l).1, 0) from by unfold CutText; rw [if_neg (by omega), if_neg hv1, if_neg hs])
        have He := hide he; clear he
        have hsl := run_cut Try.underlying24 size_u8 A l.length c (cut l).2.1 ((cut l).2.1 + (cut l).1) (by omega) (by omega) ((cut l).2.1 : Int) (((cut l).2.1 : Int) + ((cut l).1 : Int)) rfl (by omega) w
        rw [show (cut l).2.1 + (cut l).1 - (cut l).2.1 = (cut l).1 from by omega] at hsl
        have hcv := run_str w _ (c - (cut l).2.1) _ (hb.cutA (lo := (cut l).2.1) (n := (cut l).1) (c := c) (by omega) hlc)
        rw [show ((l.drop (cut l).2.1).take (cut l).1).length = (cut l).1 from by simp; omega] at hcv
        go_enter Try.func23, Try.ntmps23
        go_wp2_with (go_at_call 14; refine (cut_any A l c w hb hl).mono ?_; rintro e w' ⟨rfl, rfl⟩)
        go_ret3
        rw [HF.out]; exact ⟨rfl, rfl⟩
  · have he' : (((cut l).2.2 : Int) != 0) = true := by rw [bne_iff_ne]; omega
    have HF := hide (show CutText l = ([], 0, (cut l).2.2) from by unfold CutText; rw [if_pos he])
    go_enter Try.func23, Try.ntmps23
    go_wp2_with (go_at_call 14; refine (cut_any A l c w hb hl).mono ?_; rintro e w' ⟨rfl, rfl⟩)
    go_ret3
    rw [HF.out]; exact ⟨rfl, rfl⟩
end Go.Proofs.Ytnoahfhnmiibgaa
