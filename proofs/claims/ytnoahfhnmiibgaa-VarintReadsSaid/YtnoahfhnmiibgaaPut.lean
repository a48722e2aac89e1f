/-
  The walks of varint.Put, varint.Size.
-/
import Derived.Test.YtnoahfhnmiibgaaRows
import Derived.Test.YtnoahfhnmiibgaaBase
import Derived.Test.YtnoahfhnmiibgaaVspec
namespace Go.Proofs.Ytnoahfhnmiibgaa
open Go.RowKit
set_option maxRecDepth 100000

theorem info_u8 : (Try.prog.info? 5).map (fun i => (i.zero, i.size, i.bytes)) = some (some (.int .u8 0), 1, 1) := by kernel_rfl

theorem or128 (n : Nat) (h : n < 256) : n ||| 128 = n % 128 + 128 := by
  rcases (show n / 128 = 0 ∨ n / 128 = 1 from by omega) with h0 | h0
  · rw [Nat.or_comm]
    have := nat_join 7 128 n (by decide) (by omega)
    omega
  · have hh := nat_join 7 128 (n % 128) (by decide) (by omega)
    have hn : n = 128 ||| (n % 128) := by omega
    rw [Nat.or_comm]
    conv => lhs; rw [hn]
    rw [← Nat.or_assoc, Nat.or_self, hh]
    omega
theorem u8_last (k : Int) (h0 : 0 ≤ k) (h1 : k < 128) : [Value.int .u8 k] = (put k.toNat).map cB := by
  obtain ⟨n, rfl⟩ := Int.eq_ofNat_of_zero_le h0
  rw [Int.toNat_natCast, put_lt n (by omega)]
  simp [cB]
  omega
theorem u8_head (k : Int) (h0 : 0 ≤ k) : Value.int .u8 (bits .or .u8 (k % 256) 128) = cB (UInt8.ofNat (k.toNat % 128 + 128)) := by
  obtain ⟨n, rfl⟩ := Int.eq_ofNat_of_zero_le h0
  have e := u8_or_nat (n % 256) 128 (by omega) (by omega)
  rw [or128 _ (by omega)] at e
  have e2 : ((n % 256 : Nat) : Int) = (n : Int) % 256 := by omega
  rw [e2] at e
  rw [show ((128 : Nat) : Int) = 128 from rfl] at e
  rw [e]
  simp [cB]
  omega

set_option maxHeartbeats 400000 in
theorem put_any (v : Int) (hv0 : 0 ≤ v) (hv : v < 18446744073709551616) (w : World) :
    Calls Try.prog 12 #[.int .u64 v] w fun e w' => ∃ g cap, e = .returned (.slice (some ⟨g, 0, none⟩) (put v.toNat).length cap) ∧ w'.ownsRow w.heap.size 5 1 (.slice (some ⟨g, 0, none⟩) (put v.toNat).length cap) (put v.toNat).length ((put v.toNat).map cB) ∧ Below w.heap.size w w' := by
  go_enter Try.func12, Try.ntmps12
  go_wp2
  go_loopw [0, 3] (fun n o wr => ∃ (k : Int) (xs : List UInt8), 0 ≤ k ∧ k < 18446744073709551616 ∧ n = .int .u64 k ∧ wr.ownsRow w.heap.size 5 1 o xs.length (xs.map cB) ∧ Below w.heap.size w wr ∧ xs ++ put k.toNat = put v.toNat) (fun n _ _ => (intOf n).toNat)
  case atStart => exact ⟨v, [], hv0, hv, rfl, World.ownsRow_nil _ _ _ _, Below.refl _ _, rfl⟩
  case round =>
    obtain ⟨k, xs, hk0, hk1, rfl, hown, hbel, hput⟩ := hrel
    have hlen : xs.length + 1 ≤ 10 := by
      have h1 := congrArg List.length hput
      have h2 := put_len v.toNat (by omega)
      have h3 := put_pos k.toNat
      simp only [List.length_append] at h1
      omega
    have HP := hide hput; clear hput
    have hb := hbel.size
    by_cases hlt : k < 128
    · go_wp2_with (at_builtin; refine wpList_app1 _ rfl (.tmp 14) (.tmp 17) _ rfl w w.heap.size 5 _ _ 1 Try.underlying24 info_u8 rfl (by omega) _ _ _ (.int .u8 k) rfl rfl rfl hown hbel hb (by omega) ?_; intro g cap w1 hown1 hbel1)
      go_ret
      have hl : (put v.toNat).length = xs.length + 1 := by rw [← HP.out, List.length_append, put_lt _ (by omega)]; rfl
      have hm : (put v.toNat).map cB = xs.map cB ++ [Value.int .u8 k] := by rw [← HP.out, List.map_append, u8_last k hk0 hlt]
      rw [hl, hm]
      exact ⟨g, cap, rfl, hown1, hbel1⟩
    · have hge : 128 ≤ k := by omega
      go_wp2_with (at_builtin; refine wpList_app1 _ rfl (.tmp 8) (.tmp 12) _ rfl w w.heap.size 5 _ _ 1 Try.underlying24 info_u8 rfl (by omega) _ _ _ (.int .u8 (bits .or .u8 (k % 256) 128)) rfl rfl rfl hown hbel hb (by omega) ?_; intro g cap w1 hown1 hbel1)
      go_roundw
      case rel =>
        refine ⟨k / 128, xs ++ [UInt8.ofNat (k.toNat % 128 + 128)], by omega, by omega, ?_, ?_, hbel1, ?_⟩
        · rfl
        · rw [u8_head k hk0] at hown1; simpa using hown1
        · rw [List.append_assoc, ← HP.out, put_ge k.toNat (by omega), show (k / 128).toNat = k.toNat / 128 from by omega]; rfl
      case measure => simp [intOf]; omega
end Go.Proofs.Ytnoahfhnmiibgaa
