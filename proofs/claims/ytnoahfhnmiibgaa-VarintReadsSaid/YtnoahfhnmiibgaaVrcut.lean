/-
  The walk of the reference's Cut and what stands on it.
-/
import Derived.Test.YtnoahfhnmiibgaaVref
import Derived.Deep.DeepCutAuto
import Derived.Deep.CutBlock
import Derived.BigGuardPart
namespace Go.Proofs.Ytnoahfhnmiibgaa
open Go.RowKit
set_option maxRecDepth 100000

set_option maxHeartbeats 1000000 in
theorem rcut_any (l : List UInt8) (w : World) (hl : l.length ≤ 34359738368) :
    Calls Try.prog 16 #[.string ⟨l.toArray⟩] w fun e w' => e = .returned (.tuple #[.int .u64 (cut l).1, .int .i64 (cut l).2.1, .int .i64 (cut l).2.2]) ∧ w = w' := by
  go_enter Try.func16, Try.ntmps16
  go_upto_block 0 with (fail)
  go_cut [5] (fun s5 wx => ∃ k : Nat, s5 = .int .i64 k ∧ k ≤ 9 ∧ k ≤ l.length ∧ (∀ (h : k < l.length), k < 9 → l[k].toNat < 128) ∧ comb (vals (l.take k)) k (cutG k (l.drop k)) = cut l ∧ w = wx)
  case first =>
    go_wp2_with fail
    go_loop [5] (fun n => ∃ k : Nat, n = .int .i64 k ∧ k < 9 ∧ k ≤ l.length ∧ comb (vals (l.take k)) k (cutG k (l.drop k)) = cut l) (fun n => 9 - (intOf n).toNat)
    case atStart => exact ⟨0, rfl, by omega, by omega, by simp [vals, comb_zero]⟩
    case round =>
      obtain ⟨k, rfl, hk9, hkl, hcut⟩ := hrel
      have HC := hide hcut; clear hcut
      by_cases hlt : k < l.length
      · obtain ⟨d, hd0⟩ : ∃ d : Nat, d = l[k].toNat := ⟨_, rfl⟩
        have hd1 : d < 256 := by rw [hd0]; exact l[k].toNat_lt
        have hlt' : (k : Int) < l.length := by omega
        have hix := run_strIdx Try.underlying9 l k hlt d hd0 (k : Int) rfl w
        by_cases h1 : 128 ≤ d
        · have h1' : (128 : Int) ≤ (d : Int) := by omega
          have HF := hide (show comb (vals (l.take (k + 1))) (k + 1) (cutG (k + 1) (l.drop (k + 1))) = cut l from by rw [← HC.out, List.drop_eq_getElem_cons hlt, comb_more _ _ _ _ (by omega) (by omega), vals_take l k hlt])
          have HD0 := hide hd0; clear hd0
          by_cases h9 : k = 8
          · have h9' : ((k : Int) + 1 == 9) = true := by rw [beq_iff_eq]; omega
            have H9 := hide h9; clear h9
            go_wp2_with fail
            go_meet
            exact ⟨k + 1, by go_num, by omega, by omega, fun _ h => absurd H9.out (by omega), HF.out, rfl⟩
          · have h9' : ((k : Int) + 1 == 9) = false := by rw [beq_eq_false_iff_ne]; omega
            go_wp2_with fail
            go_round
            case rel => exact ⟨k + 1, by go_num, by omega, by omega, HF.out⟩
            case measure => simp [intOf]; omega
        · have h1' : ¬ (128 : Int) ≤ (d : Int) := by omega
          have HD0 := hide hd0; clear hd0
          go_wp2_with fail
          go_meet
          exact ⟨k, rfl, by omega, by omega, fun _ _ => by rw [← HD0.out]; omega, HC.out, rfl⟩
      · go_wp2_with fail
        go_meet
        exact ⟨k, rfl, by omega, by omega, fun h => absurd h hlt, HC.out, rfl⟩
  case rest =>
    obtain ⟨k, rfl, hk9, hkl, hd9, hcomb, rfl⟩ := hcut
    have HC := hide hcomb; have HD9 := hide hd9; clear hcomb hd9
    by_cases hlt : k < l.length
    · obtain ⟨d, hd0⟩ : ∃ d : Nat, d = l[k].toNat := ⟨_, rfl⟩
      have hd1 : d < 256 := by rw [hd0]; exact l[k].toNat_lt
      have hix := run_strIdx Try.underlying9 l k hlt d hd0 (k : Int) rfl w
      have hlt' : (k : Int) < l.length := by omega
      have h0k : (0 : Int) ≤ k := by omega
      have hD := List.drop_eq_getElem_cons hlt
      by_cases h9 : k = 9 ∧ 1 < d
      · obtain ⟨h9, h1⟩ := h9
        have HF := hide (show cut l = (0, 0, 8) from by rw [← HC.out, hD, cutG_over _ _ _ h9 (by omega)]; rfl)
        have h1' : (1 : Int) < (d : Int) := by omega
        have hix9 := run_strIdx Try.underlying9 l k hlt d hd0 9 (by omega) w
        have h9' : ((k : Int) == 9) = true := by rw [beq_iff_eq]; omega
        have HD0 := hide hd0; have HH := hide hD; have H9 := hide h9; clear hd0 hD h9
        go_wp2_with fail
        go_ret3
        rw [HF.out]; exact ⟨rfl, rfl⟩
      · by_cases hf : d = 0 ∧ 0 < k
        · obtain ⟨hf0, hf1⟩ := hf
          have HF := hide (show cut l = (0, 0, 3) from by rw [← HC.out, hD, cutG_form _ _ _ hf1 (by omega)]; rfl)
          have hd' : ((d : Int) == 0) = true := by rw [beq_iff_eq]; omega
          have hk' : (0 : Int) < k := by omega
          have HD0 := hide hd0; have HH := hide hD; have Hf0 := hide hf0; clear hd0 hD hf0
          by_cases hk9' : k = 9
          · have h9' : ((k : Int) == 9) = true := by rw [beq_iff_eq]; omega
            have hix9 := run_strIdx Try.underlying9 l k hlt d HD0.out 9 (by omega) w
            have h1' : ¬ (1 : Int) < (d : Int) := by have := Hf0.out; omega
            have H9 := hide hk9'; clear hk9'
            go_wp2_with fail
            go_ret3
            rw [HF.out]; exact ⟨rfl, rfl⟩
          · have h9' : ((k : Int) == 9) = false := by rw [beq_eq_false_iff_ne]; omega
            go_wp2_with fail
            go_ret3
            rw [HF.out]; exact ⟨rfl, rfl⟩
        · have hd128 : d < 128 := by
            by_cases h : k < 9
            · have := HD9.out hlt h; omega
            · omega
          have HF := hide (cut_value l k hlt HC.out (by omega) (by omega) (by omega))
          have htot : vals (l.take (k + 1)) < 18446744073709551616 := by have := cut_lt l; rw [HF.out] at this; exact this
          have HD0 := hide hd0; have HH := hide hD; clear hd0 hD
          have ways : (((k : Int) == 9) = true ∧ ((d : Int) == 0) = false ∧ (Instr.index 9 (.string ⟨l.toArray⟩) (.int .i64 9)).run Try.prog w = .ok (.int .u8 (d : Int)) w ∧ ¬ (1 : Int) < (d : Int)) ∨
              (((k : Int) == 9) = false ∧ ((d : Int) == 0) = false ∧ True ∧ True) ∨ (((k : Int) == 9) = false ∧ ((d : Int) == 0) = true ∧ True ∧ ¬ (0 : Int) < k) := by
            by_cases hk9' : k = 9
            · exact .inl ⟨by rw [beq_iff_eq]; omega, by rw [beq_eq_false_iff_ne]; omega, run_strIdx Try.underlying9 l k hlt d HD0.out 9 (by omega) w, by omega⟩
            · by_cases hd00 : d = 0
              · exact .inr (.inr ⟨by rw [beq_eq_false_iff_ne]; omega, by rw [beq_iff_eq]; omega, trivial, by omega⟩)
              · exact .inr (.inl ⟨by rw [beq_eq_false_iff_ne]; omega, by rw [beq_eq_false_iff_ne]; omega, trivial, trivial⟩)
          clear h9 hf
          rcases ways with ⟨h9', hd', hix9, h1'⟩ | ⟨h9', hd', hix9, h1'⟩ | ⟨h9', hd', hix9, h1'⟩
          all_goals
            go_wp2_with fail
            go_loop [6, 7] (fun v i => ∃ j : Nat, j ≤ k + 1 ∧ i = .int .i64 ((j : Int) - 1) ∧ v = .int .u64 (vals ((l.take (k + 1)).drop j))) (fun _ i => (intOf i + 1).toNat)
            case atStart => exact ⟨k + 1, by omega, by go_num, by rw [List.drop_eq_nil_of_le (by simp; omega)]; rfl⟩
            case round =>
              obtain ⟨j, hj, rfl, rfl⟩ := hrel
              by_cases hj0 : j = 0
              · subst hj0
                go_wp2_with fail
                go_ret3
                rw [HF.out]; exact ⟨rfl, rfl⟩
              · obtain ⟨m, rfl⟩ : ∃ m, j = m + 1 := ⟨j - 1, by omega⟩
                have hml : m < l.length := by omega
                obtain ⟨x, hx0⟩ : ∃ x : Nat, x = l[m].toNat := ⟨_, rfl⟩
                have hx1 : x < 256 := by rw [hx0]; exact l[m].toNat_lt
                have hixm := run_strIdx Try.underlying9 l m hml x hx0 (m : Int) rfl w
                have hstep := vals_drop l (k + 1) m (by omega) (by omega)
                have hle := vals_drop_le m (l.take (k + 1))
                rw [← hx0] at hstep
                have hbd : x % 128 + 128 * vals ((l.take (k + 1)).drop (m + 1)) < 18446744073709551616 := by omega
                generalize vals ((l.take (k + 1)).drop (m + 1)) = V at *
                have HS := hide hstep; clear hstep
                go_wp2_with fail
                go_round
                case rel => exact ⟨m, by omega, rfl, by rw [HS.out]; go_num⟩
                case measure => simp [intOf]
    · have HF := hide (show cut l = (0, 0, 2) from by rw [← HC.out, List.drop_eq_nil_of_le (by omega)]; rfl)
      go_wp2_with fail
      go_ret3
      rw [HF.out]; exact ⟨rfl, rfl⟩
end Go.Proofs.Ytnoahfhnmiibgaa
