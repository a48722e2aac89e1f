/-
  The walks of the laws VarintNumbers, VarintApart, VarintCuts, VarintPuts.
-/
import Derived.Test.YtnoahfhnmiibgaaVrest
namespace Go.Proofs.Ytnoahfhnmiibgaa
open Go.RowKit
set_option linter.unusedSimpArgs false
set_option linter.unusedVariables false

set_option maxHeartbeats 1000000 in
theorem walk_VarintNumbers (w : World) : Calls Try.prog 3 #[] w fun e w' => e = .returned (.bool true) ∧ Below w.heap.size w w' := by
  go_enter Try.func3, Try.ntmps3
  go_wp2_with (go_at_call 11; refine (awake_any _).mono ?_; rintro e w1 ⟨rfl, hb⟩)
  go_ret
  exact ⟨rfl, hb⟩

theorem put_b (v : Nat) (hv : v < 18446744073709551616) (w : World) : Calls Try.prog 12 #[.int .u64 (v : Int)] w fun e w' => ∃ g cap, e = .returned (.slice (some ⟨g, 0, none⟩) (put v).length cap) ∧ Below w.heap.size w w' ∧ Bs w' (some ⟨g, 0, none⟩) (put v) :=
  (put_any v (by omega) (by omega) w).mono fun _ w' ⟨g, cap, he, hown, hb⟩ => by
    rw [Int.toNat_natCast] at he hown
    exact ⟨g, cap, he, hb, Bs.of_own hown⟩
theorem putint_b (v : Int) (hv0 : -9223372036854775808 ≤ v) (hv : v < 9223372036854775808) (w : World) : Calls Try.prog 18 #[.int .i64 v] w fun e w' => ∃ A cap, e = .returned (.slice A (put (zig v)).length cap) ∧ Below w.heap.size w w' ∧ Bs w' A (put (zig v)) :=
  (putint_any v hv0 hv w).mono fun _ w' ⟨A, cap, he, hown, hb⟩ => ⟨A, cap, he, hb, Bs.of_own hown⟩
theorem put_s (v : Nat) (hv : v < 18446744073709551616) (w : World) : Calls Try.prog 12 #[.int .u64 (v : Int)] w fun e w' => ∃ g cap, e = .returned (.slice (some ⟨g, 0, none⟩) (put v).length cap) ∧ Below w.heap.size w w' ∧ (_root_.Go.convert 24 9 (.slice (some ⟨g, 0, none⟩) (put v).length cap)).run Try.prog w' = .ok (.string ⟨(put v).toArray⟩) w' :=
  (put_any v (by omega) (by omega) w).mono fun _ w' ⟨g, cap, he, hown, hb⟩ => by
    rw [Int.toNat_natCast] at he hown
    exact ⟨g, cap, he, hb, run_str w' _ cap _ (Bs.of_own hown)⟩
theorem putint_s (v : Int) (hv0 : -9223372036854775808 ≤ v) (hv : v < 9223372036854775808) (w : World) : Calls Try.prog 18 #[.int .i64 v] w fun e w' => ∃ A cap, e = .returned (.slice A (put (zig v)).length cap) ∧ Below w.heap.size w w' ∧ (_root_.Go.convert 24 9 (.slice A (put (zig v)).length cap)).run Try.prog w' = .ok (.string ⟨(put (zig v)).toArray⟩) w' :=
  (putint_any v hv0 hv w).mono fun _ w' ⟨A, cap, he, hown, hb⟩ => ⟨A, cap, he, hb, run_str w' _ cap _ (Bs.of_own hown)⟩
theorem rput_s (v : Nat) (hv : v < 18446744073709551616) (w : World) : Calls Try.prog 19 #[.int .u64 (v : Int)] w fun e w' => e = .returned (.string ⟨(put v).toArray⟩) ∧ Below w.heap.size w w' :=
  (rput_any v (by omega) (by omega) w).mono fun _ w' ⟨he, hb⟩ => by
    rw [Int.toNat_natCast] at he
    exact ⟨he, hb⟩
theorem size_s (v : Nat) (hv : v < 18446744073709551616) (w : World) : Calls Try.prog 20 #[.int .u64 (v : Int)] w fun e w' => e = .returned (.int .i64 (put v).length) ∧ w = w' :=
  (size_any v (by omega) (by omega) w).mono fun _ w' ⟨he, hb⟩ => by
    rw [Int.toNat_natCast] at he
    exact ⟨he, hb⟩

set_option maxHeartbeats 1000000 in
theorem walk_VarintPuts (w : World) (v : Nat) (hv : v < 18446744073709551616) (x : Int) (hx0 : -9223372036854775808 ≤ x) (hx : x < 9223372036854775808) :
    Calls Try.prog 7 #[.int .u64 v, .int .i64 x] w fun e w' => e = .returned (.bool true) ∧ Below w.heap.size w w' := by
  have hz := zig_lt x hx0 hx
  go_enter Try.func7, Try.ntmps7
  go_wp2_with fail
  --SLOTS 01 7 1 /work/steering/wip/specs/v7_1.py
  refine wp_region_rows [_, _, _, _, _, _, _, _, _, _, _, _, _, _, _, _, _, _, _, _, _, _, _, _, _, _, _] (slotPreds [IsV (.int .u64 v), IsB (put v), IsV (.string ⟨(put v).toArray⟩), IsV (.int .u64 v), IsV (.string ⟨(put v).toArray⟩), IsV (.bool true), IsV (.bool true), IsV (.int .u64 v), IsV (.int .i64 (put v).length), IsV (.int .u64 v), IsV (.string ⟨(put v).toArray⟩), IsV (.int .i64 (put v).length), IsV (.bool true), IsV (.bool true), IsV (.bool true), IsV (.int .i64 x), IsB (put (zig x)), IsV (.string ⟨(put (zig x)).toArray⟩), IsV (.int .i64 x), IsV (.int .u64 (zig x)), IsV (.string ⟨(put (zig x)).toArray⟩), IsV (.bool true), IsV (.bool true), IsV (.bool true), IsV (.bool true), IsV (.bool true), IsV (.bool true)]) [⟨[], [0], none⟩, ⟨[(0, 5)], [], none⟩, ⟨[(1, 6)], [], none⟩, ⟨[], [0], none⟩, ⟨[(3, 8)], [], none⟩, ⟨[(2, 7), (4, 9)], [], none⟩, ⟨[(5, 10)], [], none⟩, ⟨[], [0], some (6, 11, true)⟩, ⟨[(7, 12)], [], some (6, 11, true)⟩, ⟨[], [0], some (6, 11, true)⟩, ⟨[(9, 14)], [], some (6, 11, true)⟩, ⟨[(10, 15)], [], some (6, 11, true)⟩, ⟨[(8, 13), (11, 16)], [], some (6, 11, true)⟩, ⟨[(6, 11), (12, 17)], [], none⟩, ⟨[(13, 18)], [], none⟩, ⟨[], [1], some (14, 19, true)⟩, ⟨[(15, 20)], [], some (14, 19, true)⟩, ⟨[(16, 21)], [], some (14, 19, true)⟩, ⟨[], [1], some (14, 19, true)⟩, ⟨[(18, 23)], [], some (14, 19, true)⟩, ⟨[(19, 24)], [], some (14, 19, true)⟩, ⟨[(17, 22), (20, 25)], [], some (14, 19, true)⟩, ⟨[(14, 19), (21, 26)], [], none⟩, ⟨[(22, 27)], [], none⟩, ⟨[], [], some (23, 28, true)⟩, ⟨[(23, 28), (24, 29)], [], none⟩, ⟨[(25, 30)], [], none⟩] (by kernel_rfl) (slotPreds_stable ?_) (by kernel_rfl) (by kernel_rfl) ?_ ?_
  · exact ⟨stable_v _, stable_b _, stable_v _, stable_v _, stable_v _, stable_v _, stable_v _, stable_v _, stable_v _, stable_v _, stable_v _, stable_v _, stable_v _, stable_v _, stable_v _, stable_v _, stable_b _, stable_v _, stable_v _, stable_v _, stable_v _, stable_v _, stable_v _, stable_v _, stable_v _, stable_v _, stable_v _, trivial⟩
  · refine ⟨?_, ?_, ?_, ?_, ?_, ?_, ?_, ?_, ?_, ?_, ?_, ?_, ?_, ?_, ?_, ?_, ?_, ?_, ?_, ?_, ?_, ?_, ?_, ?_, ?_, ?_, ?_, trivial⟩
    · rintro ρ w' hgr ec ef - - ⟨f0, -⟩
      have e0 : ρ (.tmp 0) = .int .u64 v := f0
      exact runs_val (by simp [execOp, e0, ec, ef, go_sem]) (Gr.refl _) rfl
    · rintro ρ w' hgr ec ef - ⟨q5, -⟩ -
      have e5 : ρ (.tmp 5) = .int .u64 v := q5
      exact runs_call (run_call_func _ (by kernel_rfl) rfl (ef _) (by simp only [List.map_toArray, List.map_cons, List.map_nil, e5, ec, ef])) ((put_b v hv _).mono (fun e w' ⟨g, c, he, hb, hr⟩ => ⟨_, he, hb, _, c, rfl, hr⟩))
    · rintro ρ w' hgr ec ef - ⟨⟨A6, c6, e6, hb6⟩, -⟩ -
      exact runs_val (v := .string ⟨(put v).toArray⟩) (by simp only [execOp, e6, Sem.run_bind, run_str _ _ _ _ hb6, Result.andThen_ok, Sem.run_pure]) (Gr.refl _) rfl
    · rintro ρ w' hgr ec ef - - ⟨f0, -⟩
      have e0 : ρ (.tmp 0) = .int .u64 v := f0
      exact runs_val (by simp [execOp, e0, ec, ef, go_sem]) (Gr.refl _) rfl
    · rintro ρ w' hgr ec ef - ⟨q8, -⟩ -
      have e8 : ρ (.tmp 8) = .int .u64 v := q8
      exact runs_call (run_call_func _ (by kernel_rfl) rfl (ef _) (by simp only [List.map_toArray, List.map_cons, List.map_nil, e8, ec, ef])) ((rput_s v hv _).mono (fun e w' ⟨he, hb⟩ => ⟨_, he, hb, rfl⟩))
    · rintro ρ w' hgr ec ef - ⟨q7, q9, -⟩ -
      have e7 : ρ (.tmp 7) = .string ⟨(put v).toArray⟩ := q7
      have e9 : ρ (.tmp 9) = .string ⟨(put v).toArray⟩ := q9
      exact runs_val (by simp [execOp, e7, e9, ec, ef, go_sem]) (Gr.refl _) rfl
    · rintro ρ w' hgr ec ef - ⟨q10, -⟩ -
      have e10 : ρ (.tmp 10) = .bool true := q10
      exact runs_val (by simp [execOp, e10, ec, ef, go_sem]) (Gr.refl _) rfl
    · rintro ρ w' hgr ec ef - - ⟨f0, -⟩
      refine guard_yes (fun h => h) fun eg => ?_
      have e0 : ρ (.tmp 0) = .int .u64 v := f0
      exact runs_val (by simp [execOp, e0, ec, ef, go_sem]) (Gr.refl _) rfl
    · rintro ρ w' hgr ec ef - ⟨q12, -⟩ -
      refine guard_yes (fun h => h) fun eg => ?_
      have e12 : ρ (.tmp 12) = .int .u64 v := q12
      exact runs_call (run_call_func _ (by kernel_rfl) rfl (ef _) (by simp only [List.map_toArray, List.map_cons, List.map_nil, e12, ec, ef])) ((size_s v hv _).mono (fun e w' ⟨he, hb⟩ => ⟨_, he, hb ▸ Gr.refl _, rfl⟩))
    · rintro ρ w' hgr ec ef - - ⟨f0, -⟩
      refine guard_yes (fun h => h) fun eg => ?_
      have e0 : ρ (.tmp 0) = .int .u64 v := f0
      exact runs_val (by simp [execOp, e0, ec, ef, go_sem]) (Gr.refl _) rfl
    · rintro ρ w' hgr ec ef - ⟨q14, -⟩ -
      refine guard_yes (fun h => h) fun eg => ?_
      have e14 : ρ (.tmp 14) = .int .u64 v := q14
      exact runs_call (run_call_func _ (by kernel_rfl) rfl (ef _) (by simp only [List.map_toArray, List.map_cons, List.map_nil, e14, ec, ef])) ((rput_s v hv _).mono (fun e w' ⟨he, hb⟩ => ⟨_, he, hb, rfl⟩))
    · rintro ρ w' hgr ec ef - ⟨q15, -⟩ -
      refine guard_yes (fun h => h) fun eg => ?_
      have e15 : ρ (.tmp 15) = .string ⟨(put v).toArray⟩ := q15
      exact runs_val (by simp [execOp, e15, ec, ef, go_sem]) (Gr.refl _) rfl
    · rintro ρ w' hgr ec ef - ⟨q13, q16, -⟩ -
      refine guard_yes (fun h => h) fun eg => ?_
      have e13 : ρ (.tmp 13) = .int .i64 (put v).length := q13
      have e16 : ρ (.tmp 16) = .int .i64 (put v).length := q16
      exact runs_val (by simp [execOp, e13, e16, ec, ef, go_sem]) (Gr.refl _) rfl
    · rintro ρ w' hgr ec ef - ⟨q11, q17, -⟩ -
      have e11 : ρ (.tmp 11) = .bool true := q11
      have e17 : ρ (.tmp 17) = .bool true := q17
      exact runs_val (by simp [execOp, e11, e17, ec, ef, go_sem]) (Gr.refl _) rfl
    · rintro ρ w' hgr ec ef - ⟨q18, -⟩ -
      have e18 : ρ (.tmp 18) = .bool true := q18
      exact runs_val (by simp [execOp, e18, ec, ef, go_sem]) (Gr.refl _) rfl
    · rintro ρ w' hgr ec ef - - ⟨f1, -⟩
      refine guard_yes (fun h => h) fun eg => ?_
      have e1 : ρ (.tmp 1) = .int .i64 x := f1
      exact runs_val (by simp [execOp, e1, ec, ef, go_sem]) (Gr.refl _) rfl
    · rintro ρ w' hgr ec ef - ⟨q20, -⟩ -
      refine guard_yes (fun h => h) fun eg => ?_
      have e20 : ρ (.tmp 20) = .int .i64 x := q20
      exact runs_call (run_call_func _ (by kernel_rfl) rfl (ef _) (by simp only [List.map_toArray, List.map_cons, List.map_nil, e20, ec, ef])) ((putint_b x hx0 hx _).mono (fun e w' ⟨A, c, he, hb, hr⟩ => ⟨_, he, hb, A, c, rfl, hr⟩))
    · rintro ρ w' hgr ec ef - ⟨⟨A21, c21, e21, hb21⟩, -⟩ -
      refine guard_yes (fun h => h) fun eg => ?_
      exact runs_val (v := .string ⟨(put (zig x)).toArray⟩) (by simp only [execOp, e21, Sem.run_bind, run_str _ _ _ _ hb21, Result.andThen_ok, Sem.run_pure]) (Gr.refl _) rfl
    · rintro ρ w' hgr ec ef - - ⟨f1, -⟩
      refine guard_yes (fun h => h) fun eg => ?_
      have e1 : ρ (.tmp 1) = .int .i64 x := f1
      exact runs_val (by simp [execOp, e1, ec, ef, go_sem]) (Gr.refl _) rfl
    · rintro ρ w' hgr ec ef - ⟨q23, -⟩ -
      refine guard_yes (fun h => h) fun eg => ?_
      have e23 : ρ (.tmp 23) = .int .i64 x := q23
      exact runs_call (run_call_func _ (by kernel_rfl) rfl (ef _) (by simp only [List.map_toArray, List.map_cons, List.map_nil, e23, ec, ef])) ((rzig_any x hx0 hx _).mono (fun e w' ⟨he, hb⟩ => ⟨_, he, hb ▸ Gr.refl _, rfl⟩))
    · rintro ρ w' hgr ec ef - ⟨q24, -⟩ -
      refine guard_yes (fun h => h) fun eg => ?_
      have e24 : ρ (.tmp 24) = .int .u64 (zig x) := q24
      exact runs_call (run_call_func _ (by kernel_rfl) rfl (ef _) (by simp only [List.map_toArray, List.map_cons, List.map_nil, e24, ec, ef])) ((rput_s (zig x) hz _).mono (fun e w' ⟨he, hb⟩ => ⟨_, he, hb, rfl⟩))
    · rintro ρ w' hgr ec ef - ⟨q22, q25, -⟩ -
      refine guard_yes (fun h => h) fun eg => ?_
      have e22 : ρ (.tmp 22) = .string ⟨(put (zig x)).toArray⟩ := q22
      have e25 : ρ (.tmp 25) = .string ⟨(put (zig x)).toArray⟩ := q25
      exact runs_val (by simp [execOp, e22, e25, ec, ef, go_sem]) (Gr.refl _) rfl
    · rintro ρ w' hgr ec ef - ⟨q19, q26, -⟩ -
      have e19 : ρ (.tmp 19) = .bool true := q19
      have e26 : ρ (.tmp 26) = .bool true := q26
      exact runs_val (by simp [execOp, e19, e26, ec, ef, go_sem]) (Gr.refl _) rfl
    · rintro ρ w' hgr ec ef - ⟨q27, -⟩ -
      have e27 : ρ (.tmp 27) = .bool true := q27
      exact runs_val (by simp [execOp, e27, ec, ef, go_sem]) (Gr.refl _) rfl
    · rintro ρ w' hgr ec ef - - -
      refine guard_yes (fun h => h) fun eg => ?_
      exact runs_call (run_call_func _ (by kernel_rfl) rfl (ef _) (by simp only [List.map_toArray, List.map_cons, List.map_nil, ec, ef])) ((awake_any _).mono (fun e w' ⟨he, hb⟩ => ⟨_, he, hb, rfl⟩))
    · rintro ρ w' hgr ec ef - ⟨q28, q29, -⟩ -
      have e28 : ρ (.tmp 28) = .bool true := q28
      have e29 : ρ (.tmp 29) = .bool true := q29
      exact runs_val (by simp [execOp, e28, e29, ec, ef, go_sem]) (Gr.refl _) rfl
    · rintro ρ w' hgr ec ef - ⟨q30, -⟩ -
      have e30 : ρ (.tmp 30) = .bool true := q30
      exact runs_val (by simp [execOp, e30, ec, ef, go_sem]) (Gr.refl _) rfl
  · intro a w' hgr hdf hsz hall hfree
    have e4 : a.eval (.tmp 4) = .bool true := hall 26 _ 4 rfl rfl
  --END
    go_wp2_with fail
    exact bodyPost_ret (results_tmp rfl _ _ _) hdf ⟨congrArg Ending.returned e4, hgr⟩
end Go.Proofs.Ytnoahfhnmiibgaa
