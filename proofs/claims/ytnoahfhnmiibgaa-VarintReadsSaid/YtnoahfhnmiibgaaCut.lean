/-
  The walks of varint.Cut and what stands on it.
-/
import Derived.Test.YtnoahfhnmiibgaaRows
import Derived.Test.YtnoahfhnmiibgaaBase
import Derived.Test.YtnoahfhnmiibgaaVspec
namespace Go.Proofs.Ytnoahfhnmiibgaa
open Go.RowKit
set_option maxRecDepth 100000

set_option maxHeartbeats 1000000 in
theorem cut_any (A : Option Addr) (l : List UInt8) (c : Nat) (w : World) (hb : Bs w A l) (hl : l.length ≤ 34359738368) :
    Calls Try.prog 14 #[.slice A l.length c] w fun e w' => e = .returned (.tuple #[.int .u64 (cut l).1, .int .i64 (cut l).2.1, .int .i64 (cut l).2.2]) ∧ w = w' := by
  go_enter Try.func14, Try.ntmps14
  go_wp2
  go_step3
  go_wp2
  go_step3
  go_wp2
  go_loop [5, 10] (fun v i => ∃ (k V : Nat), k ≤ l.length ∧ k ≤ 9 ∧ V < 128 ^ k ∧ i = .int .i64 k ∧ v = .int .u64 V ∧ comb V k (cutG k (l.drop k)) = cut l) (fun _ i => l.length - (intOf i).toNat)
  case atStart => exact ⟨0, 0, Nat.zero_le _, by omega, by simp, rfl, rfl, comb_zero l⟩
  case round =>
    obtain ⟨k, V, hk, hk9, hV, rfl, rfl, hcut⟩ := hrel
    have HC := hide hcut; clear hcut
    by_cases hlt : k < l.length
    · obtain ⟨b, off, rfl, hbl, hcell⟩ := hb.cell (by omega)
      have hc := hcell k hlt
      clear hcell
      have hd : l.drop k = l[k] :: l.drop (k + 1) := List.drop_eq_getElem_cons hlt
      obtain ⟨d, hd0⟩ : ∃ d : Nat, d = l[k].toNat := ⟨_, rfl⟩
      rw [← hd0] at hc
      have hd1 : d < 256 := by rw [hd0]; exact l[k].toNat_lt
      have HD0 := hide hd0; have HD := hide hd; clear hd0 hd
      by_cases h9 : k = 9
      · subst h9
        by_cases h1 : 1 < d
        · have h1' : (1 : Int) < d := by omega
          have HF := hide (show cut l = (0, 0, 8) from by rw [← HC.out, HD.out, cutG_over _ _ _ rfl (by rw [← HD0.out]; exact h1)]; rfl)
          go_wp2_with fail
          go_ret3
          rw [HF.out]; exact ⟨rfl, rfl⟩
        · have h1' : ¬ (1 : Int) < d := by omega
          have h2' : ¬ (128 : Int) ≤ d := by omega
          by_cases h0 : d = 0
          · have HF := hide (show cut l = (0, 0, 3) from by rw [← HC.out, HD.out, cutG_form _ _ _ (by omega) (by rw [← HD0.out]; exact h0)]; rfl)
            subst h0
            go_wp2_with fail
            go_ret3
            rw [HF.out]; exact ⟨rfl, rfl⟩
          · have h0' : ((d : Int) == 0) = false := by rw [beq_eq_false_iff_ne]; omega
            have HF := hide (show cut l = (V + d * 128 ^ 9, 9 + 1, 0) from by rw [← HC.out, HD.out, cutG_last _ _ _ (by rw [← HD0.out]; omega) (by rw [← HD0.out]; omega) (by rw [← HD0.out]; omega), ← HD0.out]; rfl)
            go_wp2_with fail
            go_ret3
            rw [HF.out]
            refine ⟨ret3 ?_ ?_ ?_, rfl⟩
            · exact or_last V d hV (by omega)
            · rfl
            · rfl
      · have h9' : ((k : Int) == 9) = false := by rw [beq_eq_false_iff_ne]; omega
        have hk8 : k < 9 := by omega
        by_cases h1 : 128 ≤ d
        · have h1' : (128 : Int) ≤ d := by omega
          have HF := hide (show comb (V + d % 128 * 128 ^ k) (k + 1) (cutG (k + 1) (l.drop (k + 1))) = cut l from by rw [← HC.out, HD.out, comb_more _ _ _ _ (by omega) (by rw [← HD0.out]; exact h1), ← HD0.out])
          go_wp2_with fail
          go_round
          case rel =>
            refine ⟨k + 1, V + d % 128 * 128 ^ k, by omega, by omega, val_step V d k hV, by go_num, ?_, HF.out⟩
            rw [or_step7 V d k (by omega) hV hd1]
          case measure => simp [intOf]; omega
        · have h2' : ¬ (128 : Int) ≤ d := by omega
          by_cases h0 : d = 0
          · by_cases hk0 : k = 0
            · have HF := hide (show cut l = (0, 1, 0) from by rw [← HC.out, HD.out, cutG_last _ _ _ (by rw [← HD0.out]; omega) (by rw [← HD0.out]; omega) (by rw [← HD0.out]; omega), ← HD0.out]; subst hk0; rw [h0, show V = 0 from by simpa using hV]; rfl)
              subst h0
              subst hk0
              rw [Nat.add_zero] at hc
              go_wp2_with fail
              go_ret3
              rw [HF.out]
              refine ⟨ret3 ?_ ?_ ?_, rfl⟩
              · have hV0 : V = 0 := by simpa using hV
                subst hV0
                decide
              · rfl
              · rfl
            · have hk0' : (0 : Int) < k := by omega
              have HF := hide (show cut l = (0, 0, 3) from by rw [← HC.out, HD.out, cutG_form _ _ _ (by omega) (by rw [← HD0.out]; exact h0)]; rfl)
              subst h0
              go_wp2_with fail
              go_ret3
              rw [HF.out]; exact ⟨rfl, rfl⟩
          · have h0' : ((d : Int) == 0) = false := by rw [beq_eq_false_iff_ne]; omega
            have HF := hide (show cut l = (V + d * 128 ^ k, k + 1, 0) from by rw [← HC.out, HD.out, cutG_last _ _ _ (by rw [← HD0.out]; omega) (by rw [← HD0.out]; omega) (by rw [← HD0.out]; omega), ← HD0.out]; rfl)
            go_wp2_with fail
            go_ret3
            rw [HF.out]
            refine ⟨ret3 ?_ ?_ ?_, rfl⟩
            · exact or_step V d k (by omega) hV hd1
            · rfl
            · rfl
    · have HF := hide (show cut l = (0, 0, 2) from by rw [← HC.out, List.drop_eq_nil_of_le (by omega)]; rfl)
      go_wp2_with fail
      go_ret3
      rw [HF.out]; exact ⟨rfl, rfl⟩
end Go.Proofs.Ytnoahfhnmiibgaa
