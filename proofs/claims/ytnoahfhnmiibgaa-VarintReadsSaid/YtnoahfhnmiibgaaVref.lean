/-
  The walks of the reference of the varint layer: Put, Zig, Text, Cut, CutInt, CutText.
-/
import Derived.Test.YtnoahfhnmiibgaaVfun
namespace Go.Proofs.Ytnoahfhnmiibgaa
open Go.RowKit
set_option maxRecDepth 100000

/-- A call hands back the string l; nothing that was there has turned. -/
def StrOut (w : World) (l : List UInt8) (e : Ending) (w' : World) : Prop := e = .returned (.string ⟨l.toArray⟩) ∧ Below w.heap.size w w'

set_option maxHeartbeats 400000 in
theorem rput_any (v : Int) (hv0 : 0 ≤ v) (hv : v < 18446744073709551616) (w : World) :
    Calls Try.prog 19 #[.int .u64 v] w (StrOut w (put v.toNat)) := by
  go_enter Try.func19, Try.ntmps19
  go_wp2
  go_loopw [0, 3] (fun n o wr => ∃ (k : Int) (xs : List UInt8), 0 ≤ k ∧ k < 18446744073709551616 ∧ n = .int .u64 k ∧ wr.ownsRow w.heap.size 5 1 o xs.length (xs.map cB) ∧ Below w.heap.size w wr ∧ xs ++ put k.toNat = put v.toNat) (fun n _ _ => (intOf n).toNat)
  case atStart => exact ⟨v, [], hv0, hv, rfl, World.ownsRow_nil _ _ _ _, Below.refl _ _, rfl⟩
  case round =>
    obtain ⟨k, xs, hk0, hk1, rfl, hown, hbel, hput⟩ := hrel
    have hlen : xs.length + 1 ≤ 10 := by
      have h1 := congrArg List.length hput
      have h2 := put_len v.toNat (by omega)
      have h3 := put_pos k.toNat
      simp only [List.length_append] at h1
      omega
    have HP := hide hput; clear hput
    have hb := hbel.size
    by_cases hlt : k < 128
    · have hm : xs.map cB ++ [Value.int .u8 k] = (put v.toNat).map cB := by rw [← HP.out, List.map_append, u8_last k hk0 hlt]
      have hl : xs.length + 1 = (put v.toNat).length := by rw [← HP.out, List.length_append, put_lt _ (by omega)]; rfl
      have HM := hide hm; have HL := hide hl; clear hm hl
      have hcv := run_str
      go_wp2_with (at_builtin; refine wpList_app1 _ rfl (.tmp 15) (.tmp 18) _ rfl w w.heap.size 5 _ _ 1 Try.underlying24 info_u8 rfl (by omega) _ _ _ (.int .u8 k) rfl rfl rfl hown hbel hb (by omega) ?_; rw [HM.out, HL.out]; intro g cap w1 hown1 hbel1; have hbs := Bs.of_own hown1)
      go_ret
      exact ⟨rfl, hbel1⟩
    · have hge : 128 ≤ k := by omega
      go_wp2_with (at_builtin; refine wpList_app1 _ rfl (.tmp 6) (.tmp 11) _ rfl w w.heap.size 5 _ _ 1 Try.underlying24 info_u8 rfl (by omega) _ _ _ _ rfl rfl rfl hown hbel hb (by omega) ?_; intro g cap w1 hown1 hbel1)
      go_roundw
      case rel =>
        refine ⟨k / 128, xs ++ [UInt8.ofNat (k.toNat % 128 + 128)], by omega, by omega, ?_, ?_, hbel1, ?_⟩
        · rfl
        · rw [show Value.int .u8 (k % 128 + 128) = cB (UInt8.ofNat (k.toNat % 128 + 128)) from by rw [cB_of _ (by omega)]; congr 1; omega] at hown1
          simpa using hown1
        · rw [List.append_assoc, ← HP.out, put_ge k.toNat (by omega), show (k / 128).toNat = k.toNat / 128 from by omega]; rfl
      case measure => simp [intOf]; omega

theorem rzig_any (v : Int) (hv0 : -9223372036854775808 ≤ v) (hv : v < 9223372036854775808) (w : World) :
    Calls Try.prog 21 #[.int .i64 v] w fun e w' => e = .returned (.int .u64 (zig v)) ∧ w = w' := by
  by_cases h : 0 ≤ v
  · go_enter Try.func21, Try.ntmps21
    go_wp2_with fail
    go_ret
    refine ⟨ret1 ?_, rfl⟩
    unfold zig; rw [if_pos h]; omega
  · go_enter Try.func21, Try.ntmps21
    go_wp2_with fail
    go_ret
    refine ⟨ret1 ?_, rfl⟩
    unfold zig; rw [if_neg (by omega)]; omega

set_option maxHeartbeats 400000 in
theorem rtext_any (s : List UInt8) (hs : s.length ≤ 140737488351232) (w : World) :
    Calls Try.prog 22 #[.string ⟨s.toArray⟩] w (StrOut w (put s.length ++ s)) := by
  have hp := put_len s.length (by omega)
  go_enter Try.func22, Try.ntmps22
  go_wp2_with (go_at_call 19; refine (rput_any s.length (by omega) (by omega) _).mono ?_; rintro e w1 ⟨rfl, hbel⟩)
  go_ret
  exact ⟨rfl, hbel⟩
end Go.Proofs.Ytnoahfhnmiibgaa
