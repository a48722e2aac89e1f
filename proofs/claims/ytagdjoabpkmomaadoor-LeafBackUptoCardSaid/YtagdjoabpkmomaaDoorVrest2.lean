/-
  The walks of few, and of the reference's CutInt, CutText.
-/
import Derived.Test.YtagdjoabpkmomaaDoorVfun
import Derived.Test.YtagdjoabpkmomaaDoorVref
import Derived.Test.YtagdjoabpkmomaaDoorVrcut
import Derived.Test.YtagdjoabpkmomaaDoorVlaws
import Derived.Test.YtagdjoabpkmomaaDoorSlots
namespace Go.Proofs.YtagdjoabpkmomaaDoor
open Go.RowKit
set_option maxRecDepth 100000

set_option maxHeartbeats 400000 in
theorem rcutint_any (l : List UInt8) (w : World) (hl : l.length ≤ 34359738368) :
    Calls Tryd.prog 66 #[.string ⟨l.toArray⟩] w fun e w' => e = .returned (.tuple #[.int .i64 (zag (cut l).1), .int .i64 (cut l).2.1, .int .i64 (cut l).2.2]) ∧ w = w' := by
  have hv := cut_lt l
  by_cases h : (cut l).1 % 2 = 1
  · have h' : (((cut l).1 : Int) % 2 == 1) = true := by rw [beq_iff_eq]; omega
    have HZ := hide (show zag (cut l).1 = -(((cut l).1 : Int) / 2) - 1 from by unfold zag; rw [if_neg (by omega)]; omega)
    have H := hide h; clear h
    go_enter Tryd.func66, Tryd.ntmps66
    go_wp2_with (go_at_call 54; refine (rcut_any l w hl).mono ?_; rintro e w' ⟨rfl, rfl⟩)
    go_ret3
    refine ⟨ret3 ?_ rfl rfl, rfl⟩
    exact HZ.out.symm
  · have h' : (((cut l).1 : Int) % 2 == 1) = false := by rw [beq_eq_false_iff_ne]; omega
    have HZ := hide (show zag (cut l).1 = ((cut l).1 : Int) / 2 from by unfold zag; rw [if_pos (by omega)]; omega)
    have H := hide h; clear h
    go_enter Tryd.func66, Tryd.ntmps66
    go_wp2_with (go_at_call 54; refine (rcut_any l w hl).mono ?_; rintro e w' ⟨rfl, rfl⟩)
    go_ret3
    refine ⟨ret3 ?_ rfl rfl, rfl⟩
    exact HZ.out.symm

set_option maxHeartbeats 1000000 in
theorem rcuttext_any (l : List UInt8) (w : World) (hl : l.length ≤ 34359738368) :
    Calls Tryd.prog 52 #[.string ⟨l.toArray⟩] w fun e w' => e = .returned (.tuple #[.string ⟨(CutText l).1.toArray⟩, .int .i64 (CutText l).2.1, .int .i64 (CutText l).2.2]) ∧ w = w' := by
  have hn := cut_n l
  have hv := cut_lt l
  by_cases he : (cut l).2.2 = 0
  · have he' : (((cut l).2.2 : Int) != 0) = false := by rw [he]; rfl
    by_cases hv1 : 255 < (cut l).1
    · have hv1' : (255 : Int) < ((cut l).1 : Int) := by omega
      have HF := hide (show CutText l = ([], 0, 8) from by unfold CutText; rw [if_neg (by omega), if_pos hv1])
      have He := hide he; clear he
      go_enter Tryd.func52, Tryd.ntmps52
      go_wp2_with (go_at_call 54; refine (rcut_any l w hl).mono ?_; rintro e w' ⟨rfl, rfl⟩)
      go_ret3
      rw [HF.out]; exact ⟨rfl, rfl⟩
    · have hv1' : ¬ (255 : Int) < ((cut l).1 : Int) := by omega
      by_cases hs : l.length < (cut l).2.1 + (cut l).1
      · have hs' : (l.length : Int) < ((cut l).2.1 : Int) + ((cut l).1 : Int) := by omega
        have HF := hide (show CutText l = ([], 0, 2) from by unfold CutText; rw [if_neg (by omega), if_neg hv1, if_pos hs])
        have He := hide he; clear he
        go_enter Tryd.func52, Tryd.ntmps52
        go_wp2_with (go_at_call 54; refine (rcut_any l w hl).mono ?_; rintro e w' ⟨rfl, rfl⟩)
        go_ret3
        rw [HF.out]; exact ⟨rfl, rfl⟩
      · have hs' : ¬ (l.length : Int) < ((cut l).2.1 : Int) + ((cut l).1 : Int) := by omega
        have hsl := run_strCut Tryd.underlying9 l (cut l).2.1 ((cut l).2.1 + (cut l).1) (by omega) (by omega) ((cut l).2.1 : Int) (((cut l).2.1 : Int) + ((cut l).1 : Int)) rfl (by omega) w
        rw [show (cut l).2.1 + (cut l).1 - (cut l).2.1 = (cut l).1 from by omega] at hsl
        have HF := hide (show CutText l = ((l.drop (cut l).2.1).take (cut l).1, (cut l).2.1 + (cut l).1, 0) from by unfold CutText; rw [if_neg (by omega), if_neg hv1, if_neg hs])
        have He := hide he; clear he
        go_enter Tryd.func52, Tryd.ntmps52
        go_wp2_with (go_at_call 54; refine (rcut_any l w hl).mono ?_; rintro e w' ⟨rfl, rfl⟩)
        go_ret3
        rw [HF.out]; exact ⟨rfl, rfl⟩
  · have he' : (((cut l).2.2 : Int) != 0) = true := by rw [bne_iff_ne]; omega
    have HF := hide (show CutText l = ([], 0, (cut l).2.2) from by unfold CutText; rw [if_pos he])
    go_enter Tryd.func52, Tryd.ntmps52
    go_wp2_with (go_at_call 54; refine (rcut_any l w hl).mono ?_; rintro e w' ⟨rfl, rfl⟩)
    go_ret3
    rw [HF.out]; exact ⟨rfl, rfl⟩
end Go.Proofs.YtagdjoabpkmomaaDoor
