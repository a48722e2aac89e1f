/-
  The walks of few, and of the reference's CutInt, CutText.
-/
import Derived.Test.YtnoahfhnmiibgaaVawake
import Derived.Test.YtnoahfhnmiibgaaVlaws
import Derived.Test.YtnoahfhnmiibgaaSlots
namespace Go.Proofs.Ytnoahfhnmiibgaa
open Go.RowKit
set_option maxRecDepth 100000

theorem Bs.take {w : World} {A : Option Addr} {l : List UInt8} (hb : Bs w A l) (k : Nat) : Bs w A (l.take k) := by
  by_cases h : k < l.length
  · have := Rd.less hb (k := k) (by omega)
    unfold Bs
    rw [List.map_take, show (l.take k).length = k from by simp; omega]
    simpa using this
  · rw [List.take_of_length_le (by omega)]; exact hb
theorem few_any (A : Option Addr) (l : List UInt8) (c : Nat) (w : World) (hb : Bs w A l) (hlc : l.length ≤ c) (hcm : c ≤ maxLen) :
    Calls Try.prog 13 #[.slice A l.length c] w fun e w' => e = .returned (.slice A (l.take 2000).length c) ∧ w = w' := by
  have hm : c ≤ 9223372036854775807 := by unfold maxLen at hcm; omega
  by_cases h : 2000 < l.length
  · obtain ⟨b, off, rfl, hbl, hc⟩ := hb.cell (by omega)
    have h' : (2000 : Int) < l.length := by omega
    have hl : (l.take 2000).length = 2000 := by simp; omega
    go_enter Try.func13, Try.ntmps13
    go_wp2_with fail
    go_ret
    exact ⟨by rw [hl]; rfl, rfl⟩
  · have h' : ¬ (2000 : Int) < l.length := by omega
    have hl : l.take 2000 = l := List.take_of_length_le (by omega)
    rw [hl]
    go_enter Try.func13, Try.ntmps13
    go_wp2_with fail
    go_ret
    exact ⟨rfl, rfl⟩

set_option maxHeartbeats 400000 in
theorem rcutint_any (l : List UInt8) (w : World) (hl : l.length ≤ 34359738368) :
    Calls Try.prog 17 #[.string ⟨l.toArray⟩] w fun e w' => e = .returned (.tuple #[.int .i64 (zag (cut l).1), .int .i64 (cut l).2.1, .int .i64 (cut l).2.2]) ∧ w = w' := by
  have hv := cut_lt l
  by_cases h : (cut l).1 % 2 = 1
  · have h' : (((cut l).1 : Int) % 2 == 1) = true := by rw [beq_iff_eq]; omega
    have HZ := hide (show zag (cut l).1 = -(((cut l).1 : Int) / 2) - 1 from by unfold zag; rw [if_neg (by omega)]; omega)
    have H := hide h; clear h
    go_enter Try.func17, Try.ntmps17
    go_wp2_with (go_at_call 16; refine (rcut_any l w hl).mono ?_; rintro e w' ⟨rfl, rfl⟩)
    go_ret3
    refine ⟨ret3 ?_ rfl rfl, rfl⟩
    exact HZ.out.symm
  · have h' : (((cut l).1 : Int) % 2 == 1) = false := by rw [beq_eq_false_iff_ne]; omega
    have HZ := hide (show zag (cut l).1 = ((cut l).1 : Int) / 2 from by unfold zag; rw [if_pos (by omega)]; omega)
    have H := hide h; clear h
    go_enter Try.func17, Try.ntmps17
    go_wp2_with (go_at_call 16; refine (rcut_any l w hl).mono ?_; rintro e w' ⟨rfl, rfl⟩)
    go_ret3
    refine ⟨ret3 ?_ rfl rfl, rfl⟩
    exact HZ.out.symm

set_option maxHeartbeats 1000000 in
theorem rcuttext_any (l : List UInt8) (w : World) (hl : l.length ≤ 34359738368) :
    Calls Try.prog 24 #[.string ⟨l.toArray⟩] w fun e w' => e = .returned (.tuple #[.string ⟨(CutText l).1.toArray⟩, .int .i64 (CutText l).2.1, .int .i64 (CutText l).2.2]) ∧ w = w' := by
  have hn := cut_n l
  have hv := cut_lt l
  by_cases he : (cut l).2.2 = 0
  · have he' : (((cut l).2.2 : Int) != 0) = false := by rw [he]; rfl
    by_cases hv1 : 255 < (cut l).1
    · have hv1' : (255 : Int) < ((cut l).1 : Int) := by omega
      have HF := hide (show CutText l = ([], 0, 8) from by unfold CutText; rw [if_neg (by omega), if_pos hv1])
      have He := hide he; clear he
      go_enter Try.func24, Try.ntmps24
      go_wp2_with (go_at_call 16; refine (rcut_any l w hl).mono ?_; rintro e w' ⟨rfl, rfl⟩)
      go_ret3
      rw [HF.out]; exact ⟨rfl, rfl⟩
    · have hv1' : ¬ (255 : Int) < ((cut l).1 : Int) := by omega
      by_cases hs : l.length < (cut l).2.1 + (cut l).1
      · have hs' : (l.length : Int) < ((cut l).2.1 : Int) + ((cut l).1 : Int) := by omega
        have HF := hide (show CutText l = ([], 0, 2) from by unfold CutText; rw [if_neg (by omega), if_neg hv1, if_pos hs])
        have He := hide he; clear he
        go_enter Try.func24, Try.ntmps24
        go_wp2_with (go_at_call 16; refine (rcut_any l w hl).mono ?_; rintro e w' ⟨rfl, rfl⟩)
        go_ret3
        rw [HF.out]; exact ⟨rfl, rfl⟩
      · have hs' : ¬ (l.length : Int) < ((cut l).2.1 : Int) + ((cut l).1 : Int) := by omega
        have hsl := run_strCut Try.underlying9 l (cut l).2.1 ((cut l).2.1 + (cut l).1) (by omega) (by omega) ((cut l).2.1 : Int) (((cut l).2.1 : Int) + ((cut l).1 : Int)) rfl (by omega) w
        rw [show (cut l).2.1 + (cut l).1 - (cut l).2.1 = (cut l).1 from by omega] at hsl
        have HF := hide (show CutText l = ((l.drop (cut l).2.1).take (cut l).1, (cut l).2.1 + (cut l).1, 0) from by unfold CutText; rw [if_neg (by omega), if_neg hv1, if_neg hs])
        have He := hide he; clear he
        go_enter Try.func24, Try.ntmps24
        go_wp2_with (go_at_call 16; refine (rcut_any l w hl).mono ?_; rintro e w' ⟨rfl, rfl⟩)
        go_ret3
        rw [HF.out]; exact ⟨rfl, rfl⟩
  · have he' : (((cut l).2.2 : Int) != 0) = true := by rw [bne_iff_ne]; omega
    have HF := hide (show CutText l = ([], 0, (cut l).2.2) from by unfold CutText; rw [if_pos he])
    go_enter Try.func24, Try.ntmps24
    go_wp2_with (go_at_call 16; refine (rcut_any l w hl).mono ?_; rintro e w' ⟨rfl, rfl⟩)
    go_ret3
    rw [HF.out]; exact ⟨rfl, rfl⟩
end Go.Proofs.Ytnoahfhnmiibgaa
