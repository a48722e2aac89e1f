/-
  The walks of the laws VarintCuts, VarintApart, VarintTexts.
-/
import Derived.Test.YtnoahfhnmiibgaaVlaw1
import Derived.Deep.DeepCutAuto
namespace Go.Proofs.Ytnoahfhnmiibgaa
open Go.RowKit
set_option linter.unusedSimpArgs false
set_option linter.unusedVariables false

set_option maxHeartbeats 1000000 in
theorem cuts_few (A : Option Addr) (l : List UInt8) (c : Nat) (w : World) (hb : Bs w A l) (hl : l.length ≤ 2000) (hlc : l.length ≤ c) (n0 : Nat)
    (hfew : Calls Try.prog 13 #[.slice A n0 c] w fun e w' => e = .returned (.slice A l.length c) ∧ w = w') :
    Calls Try.prog 5 #[.slice A n0 c] w fun e w' => e = .returned (.bool true) ∧ Below w.heap.size w w' := by
  have hv := cut_lt l
  have hn := cut_n l
  have HFew := hide hfew; clear hfew
  have hcv := run_str w A c l hb
  go_enter Try.func5, Try.ntmps5
  go_wp2_with fail
  refine (unhide HFew).mono ?_
  rintro e w' ⟨rfl, rfl⟩
  go_wp2_with fail
  refine (cut_any A l c w hb (by omega)).mono ?_
  rintro e w' ⟨rfl, rfl⟩
  go_wp2_with fail
  refine (cutint_any A l c w hb (by omega)).mono ?_
  rintro e w' ⟨rfl, rfl⟩
  go_wp2_with fail
  refine (rcut_any l w (by omega)).mono ?_
  rintro e w' ⟨rfl, rfl⟩
  go_wp2_with fail
  refine (rcutint_any l w (by omega)).mono ?_
  rintro e w' ⟨rfl, rfl⟩
  go_wp2_with fail
  refine (awake_any _).mono ?_
  rintro e w1 ⟨rfl, hb1⟩
  go_wp2_with fail
  go_ret
  exact ⟨rfl, hb1⟩
theorem walk_VarintCuts (w : World) (A : Option Addr) (l : List UInt8) (c : Nat) (hb : Bs w A l) (hlc : l.length ≤ c) (hcm : c ≤ maxLen) :
    Calls Try.prog 5 #[.slice A l.length c] w fun e w' => e = .returned (.bool true) ∧ Below w.heap.size w w' :=
  cuts_few A (l.take 2000) c w (hb.take 2000) (by simp; omega) (by simp; omega) l.length (few_any A l c w hb hlc hcm)

set_option maxHeartbeats 1000000 in
theorem walk_VarintApart (w : World) (v : Nat) (hv : v < 18446744073709551616) (x : Nat) (hx : x < 18446744073709551616) :
    Calls Try.prog 4 #[.int .u64 v, .int .u64 x] w fun e w' => e = .returned (.bool true) ∧ Below w.heap.size w w' := by
  go_enter Try.func4, Try.ntmps4
  go_upto_region 1 with (fail)
  go_cut [5, 6] (fun s5 s6 wx => s5 = .string ⟨(put v).toArray⟩ ∧ s6 = .string ⟨(put x).toArray⟩ ∧ Gr w wx)
  case first =>
    --SLOTS 01 4 1 /work/steering/wip/specs/v4_1.py
    refine wp_region_rows [_, _, _, _, _, _, _, _] (slotPreds [IsV (.int .u64 v), IsB (put v), IsV (.string ⟨(put v).toArray⟩), IsV (.int .u64 x), IsB (put x), IsV (.string ⟨(put x).toArray⟩), IsV (.string ⟨(put v).toArray⟩), IsV (.string ⟨(put x).toArray⟩)]) [⟨[], [0], none⟩, ⟨[(0, 8)], [], none⟩, ⟨[(1, 9)], [], none⟩, ⟨[], [1], none⟩, ⟨[(3, 11)], [], none⟩, ⟨[(4, 12)], [], none⟩, ⟨[(2, 10)], [], none⟩, ⟨[(5, 13)], [], none⟩] (by kernel_rfl) (slotPreds_stable ?_) (by kernel_rfl) (by kernel_rfl) ?_ ?_
    · exact ⟨stable_v _, stable_b _, stable_v _, stable_v _, stable_b _, stable_v _, stable_v _, stable_v _, trivial⟩
    · refine ⟨?_, ?_, ?_, ?_, ?_, ?_, ?_, ?_, trivial⟩
      · rintro ρ w' hgr ec ef - - ⟨f0, -⟩
        have e0 : ρ (.tmp 0) = .int .u64 v := f0
        exact runs_val (by simp [execOp, e0, ec, ef, go_sem]) (Gr.refl _) rfl
      · rintro ρ w' hgr ec ef - ⟨q8, -⟩ -
        have e8 : ρ (.tmp 8) = .int .u64 v := q8
        exact runs_call (run_call_func _ (by kernel_rfl) rfl (ef _) (by simp only [List.map_toArray, List.map_cons, List.map_nil, e8, ec, ef])) ((put_b v hv _).mono (fun e w' ⟨g, c, he, hb, hr⟩ => ⟨_, he, hb, _, c, rfl, hr⟩))
      · rintro ρ w' hgr ec ef - ⟨⟨A9, c9, e9, hb9⟩, -⟩ -
        exact runs_val (v := .string ⟨(put v).toArray⟩) (by simp only [execOp, e9, Sem.run_bind, run_str _ _ _ _ hb9, Result.andThen_ok, Sem.run_pure]) (Gr.refl _) rfl
      · rintro ρ w' hgr ec ef - - ⟨f1, -⟩
        have e1 : ρ (.tmp 1) = .int .u64 x := f1
        exact runs_val (by simp [execOp, e1, ec, ef, go_sem]) (Gr.refl _) rfl
      · rintro ρ w' hgr ec ef - ⟨q11, -⟩ -
        have e11 : ρ (.tmp 11) = .int .u64 x := q11
        exact runs_call (run_call_func _ (by kernel_rfl) rfl (ef _) (by simp only [List.map_toArray, List.map_cons, List.map_nil, e11, ec, ef])) ((put_b x hx _).mono (fun e w' ⟨g, c, he, hb, hr⟩ => ⟨_, he, hb, _, c, rfl, hr⟩))
      · rintro ρ w' hgr ec ef - ⟨⟨A12, c12, e12, hb12⟩, -⟩ -
        exact runs_val (v := .string ⟨(put x).toArray⟩) (by simp only [execOp, e12, Sem.run_bind, run_str _ _ _ _ hb12, Result.andThen_ok, Sem.run_pure]) (Gr.refl _) rfl
      · rintro ρ w' hgr ec ef - ⟨q10, -⟩ -
        have e10 : ρ (.tmp 10) = .string ⟨(put v).toArray⟩ := q10
        exact runs_val (by simp [execOp, e10, ec, ef, go_sem]) (Gr.refl _) rfl
      · rintro ρ w' hgr ec ef - ⟨q13, -⟩ -
        have e13 : ρ (.tmp 13) = .string ⟨(put x).toArray⟩ := q13
        exact runs_val (by simp [execOp, e13, ec, ef, go_sem]) (Gr.refl _) rfl
    · intro a w' hgr hdf hsz hall hfree
      have e5 : a.eval (.tmp 5) = .string ⟨(put v).toArray⟩ := hall 6 _ 5 rfl rfl
      have e6 : a.eval (.tmp 6) = .string ⟨(put x).toArray⟩ := hall 7 _ 6 rfl rfl
      have ha : a = ⟨#[.int .u64 v, .int .u64 x, undef, undef, .bool false, .string ⟨(put v).toArray⟩, .string ⟨(put x).toArray⟩, undef, a.eval (.tmp 8), a.eval (.tmp 9), a.eval (.tmp 10), a.eval (.tmp 11), a.eval (.tmp 12), a.eval (.tmp 13), undef, undef, undef, undef, undef, undef, undef, undef, undef, undef, undef, undef, undef, undef, undef, undef, undef, undef, undef, undef, undef, undef, undef, undef, undef, undef, undef], []⟩ := by
        have g0 : a.eval (.tmp 0) = .int .u64 v := hfree 0 (by kernel_rfl)
        have g1 : a.eval (.tmp 1) = .int .u64 x := hfree 1 (by kernel_rfl)
        have g2 : a.eval (.tmp 2) = undef := hfree 2 (by kernel_rfl)
        have g3 : a.eval (.tmp 3) = undef := hfree 3 (by kernel_rfl)
        have g4 : a.eval (.tmp 4) = .bool false := hfree 4 (by kernel_rfl)
        have g7 : a.eval (.tmp 7) = undef := hfree 7 (by kernel_rfl)
        have g14 : a.eval (.tmp 14) = undef := hfree 14 (by kernel_rfl)
        have g15 : a.eval (.tmp 15) = undef := hfree 15 (by kernel_rfl)
        have g16 : a.eval (.tmp 16) = undef := hfree 16 (by kernel_rfl)
        have g17 : a.eval (.tmp 17) = undef := hfree 17 (by kernel_rfl)
        have g18 : a.eval (.tmp 18) = undef := hfree 18 (by kernel_rfl)
        have g19 : a.eval (.tmp 19) = undef := hfree 19 (by kernel_rfl)
        have g20 : a.eval (.tmp 20) = undef := hfree 20 (by kernel_rfl)
        have g21 : a.eval (.tmp 21) = undef := hfree 21 (by kernel_rfl)
        have g22 : a.eval (.tmp 22) = undef := hfree 22 (by kernel_rfl)
        have g23 : a.eval (.tmp 23) = undef := hfree 23 (by kernel_rfl)
        have g24 : a.eval (.tmp 24) = undef := hfree 24 (by kernel_rfl)
        have g25 : a.eval (.tmp 25) = undef := hfree 25 (by kernel_rfl)
        have g26 : a.eval (.tmp 26) = undef := hfree 26 (by kernel_rfl)
        have g27 : a.eval (.tmp 27) = undef := hfree 27 (by kernel_rfl)
        have g28 : a.eval (.tmp 28) = undef := hfree 28 (by kernel_rfl)
        have g29 : a.eval (.tmp 29) = undef := hfree 29 (by kernel_rfl)
        have g30 : a.eval (.tmp 30) = undef := hfree 30 (by kernel_rfl)
        have g31 : a.eval (.tmp 31) = undef := hfree 31 (by kernel_rfl)
        have g32 : a.eval (.tmp 32) = undef := hfree 32 (by kernel_rfl)
        have g33 : a.eval (.tmp 33) = undef := hfree 33 (by kernel_rfl)
        have g34 : a.eval (.tmp 34) = undef := hfree 34 (by kernel_rfl)
        have g35 : a.eval (.tmp 35) = undef := hfree 35 (by kernel_rfl)
        have g36 : a.eval (.tmp 36) = undef := hfree 36 (by kernel_rfl)
        have g37 : a.eval (.tmp 37) = undef := hfree 37 (by kernel_rfl)
        have g38 : a.eval (.tmp 38) = undef := hfree 38 (by kernel_rfl)
        have g39 : a.eval (.tmp 39) = undef := hfree 39 (by kernel_rfl)
        have g40 : a.eval (.tmp 40) = undef := hfree 40 (by kernel_rfl)
        have h : a = ⟨#[a.eval (.tmp 0), a.eval (.tmp 1), a.eval (.tmp 2), a.eval (.tmp 3), a.eval (.tmp 4), a.eval (.tmp 5), a.eval (.tmp 6), a.eval (.tmp 7), a.eval (.tmp 8), a.eval (.tmp 9), a.eval (.tmp 10), a.eval (.tmp 11), a.eval (.tmp 12), a.eval (.tmp 13), a.eval (.tmp 14), a.eval (.tmp 15), a.eval (.tmp 16), a.eval (.tmp 17), a.eval (.tmp 18), a.eval (.tmp 19), a.eval (.tmp 20), a.eval (.tmp 21), a.eval (.tmp 22), a.eval (.tmp 23), a.eval (.tmp 24), a.eval (.tmp 25), a.eval (.tmp 26), a.eval (.tmp 27), a.eval (.tmp 28), a.eval (.tmp 29), a.eval (.tmp 30), a.eval (.tmp 31), a.eval (.tmp 32), a.eval (.tmp 33), a.eval (.tmp 34), a.eval (.tmp 35), a.eval (.tmp 36), a.eval (.tmp 37), a.eval (.tmp 38), a.eval (.tmp 39), a.eval (.tmp 40)], []⟩ := act_range a 41 hsz hdf
        rw [g0, g1, g2, g3, g4, e5, e6, g7, g14, g15, g16, g17, g18, g19, g20, g21, g22, g23, g24, g25, g26, g27, g28, g29, g30, g31, g32, g33, g34, g35, g36, g37, g38, g39, g40] at h
        exact h
      rw [ha]
      clear ha hall hfree hsz hdf e5 e6
    --END
      go_wp2_with fail
      go_meet
      exact ⟨rfl, rfl, hgr⟩
  case rest =>
    obtain ⟨rfl, rfl, hg⟩ := hcut
    have hs := hg.size
    by_cases hvx : v = x
    · subst hvx
      go_wp2_with (go_at_call 11; refine (awake_any _).mono ?_; rintro e w1 ⟨rfl, hb⟩)
      go_ret
      exact ⟨rfl, hg.trans hb⟩
    · have hvx' : ((v : Int) == (x : Int)) = false := by rw [beq_eq_false_iff_ne]; omega
      have hl1 := put_len v hv; have hl2 := put_len x hx
      by_cases hlt : (put x).length < (put v).length
      · have hlt' : ((put x).length : Int) < ((put v).length : Int) := by omega
        have HN := hide (put_apart v x hv hx hvx (put x).length (by omega))
        go_wp2_with fail
        --SLOTS 01 4 7 /work/steering/wip/specs/v4_7a.py
        refine wp_region_rows [_, _, _, _, _, _, _, _, _, _, _] (slotPreds [IsV (.string ⟨(put v).toArray⟩), IsV (.int .i64 (put x).length), IsV (.string ⟨((put v).take (put x).length).toArray⟩), IsV (.string ⟨(put x).toArray⟩), IsV (.int .i64 (put x).length), IsV (.string ⟨((put x).take (put x).length).toArray⟩), IsV (.bool true), IsV (.bool true), IsV (.bool true), IsV (.bool true), IsV (.bool true)]) [⟨[], [5], none⟩, ⟨[], [7], none⟩, ⟨[(0, 31), (1, 32)], [], none⟩, ⟨[], [6], none⟩, ⟨[], [7], none⟩, ⟨[(3, 34), (4, 35)], [], none⟩, ⟨[(2, 33), (5, 36)], [], none⟩, ⟨[(6, 37)], [], none⟩, ⟨[], [], some (7, 38, true)⟩, ⟨[(7, 38), (8, 39)], [], none⟩, ⟨[(9, 40)], [], none⟩] (by kernel_rfl) (slotPreds_stable ?_) (by kernel_rfl) (by kernel_rfl) ?_ ?_
        · exact ⟨stable_v _, stable_v _, stable_v _, stable_v _, stable_v _, stable_v _, stable_v _, stable_v _, stable_v _, stable_v _, stable_v _, trivial⟩
        · refine ⟨?_, ?_, ?_, ?_, ?_, ?_, ?_, ?_, ?_, ?_, ?_, trivial⟩
          · rintro ρ w' hgr ec ef - - ⟨f5, -⟩
            have e5 : ρ (.tmp 5) = .string ⟨(put v).toArray⟩ := f5
            exact runs_val (by simp [execOp, e5, ec, ef, go_sem]) (Gr.refl _) rfl
          · rintro ρ w' hgr ec ef - - ⟨f7, -⟩
            have e7 : ρ (.tmp 7) = .int .i64 (put x).length := f7
            exact runs_val (by simp [execOp, e7, ec, ef, go_sem]) (Gr.refl _) rfl
          · rintro ρ w' hgr ec ef - ⟨q31, q32, -⟩ -
            have e31 : ρ (.tmp 31) = .string ⟨(put v).toArray⟩ := q31
            have e32 : ρ (.tmp 32) = .int .i64 (put x).length := q32
            exact runs_val (by simp [execOp, e31, e32, run_strAtH Try.underlying9 (put v) (put x).length (by omega)]) (Gr.refl _) rfl
          · rintro ρ w' hgr ec ef - - ⟨f6, -⟩
            have e6 : ρ (.tmp 6) = .string ⟨(put x).toArray⟩ := f6
            exact runs_val (by simp [execOp, e6, ec, ef, go_sem]) (Gr.refl _) rfl
          · rintro ρ w' hgr ec ef - - ⟨f7, -⟩
            have e7 : ρ (.tmp 7) = .int .i64 (put x).length := f7
            exact runs_val (by simp [execOp, e7, ec, ef, go_sem]) (Gr.refl _) rfl
          · rintro ρ w' hgr ec ef - ⟨q34, q35, -⟩ -
            have e34 : ρ (.tmp 34) = .string ⟨(put x).toArray⟩ := q34
            have e35 : ρ (.tmp 35) = .int .i64 (put x).length := q35
            exact runs_val (by simp [execOp, e34, e35, run_strAtH Try.underlying9 (put x) (put x).length (by omega)]) (Gr.refl _) rfl
          · rintro ρ w' hgr ec ef - ⟨q33, q36, -⟩ -
            have e33 : ρ (.tmp 33) = .string ⟨((put v).take (put x).length).toArray⟩ := q33
            have e36 : ρ (.tmp 36) = .string ⟨((put x).take (put x).length).toArray⟩ := q36
            exact runs_val (by simp [execOp, e33, e36, go_sem]; simpa using HN.out) (Gr.refl _) rfl
          · rintro ρ w' hgr ec ef - ⟨q37, -⟩ -
            have e37 : ρ (.tmp 37) = .bool true := q37
            exact runs_val (by simp [execOp, e37, ec, ef, go_sem]) (Gr.refl _) rfl
          · rintro ρ w' hgr ec ef - - -
            refine guard_yes (fun h => h) fun eg => ?_
            exact runs_call (run_call_func _ (by kernel_rfl) rfl (ef _) (by simp only [List.map_toArray, List.map_cons, List.map_nil, ec, ef])) ((awake_any _).mono (fun e w' ⟨he, hb⟩ => ⟨_, he, hb, rfl⟩))
          · rintro ρ w' hgr ec ef - ⟨q38, q39, -⟩ -
            have e38 : ρ (.tmp 38) = .bool true := q38
            have e39 : ρ (.tmp 39) = .bool true := q39
            exact runs_val (by simp [execOp, e38, e39, ec, ef, go_sem]) (Gr.refl _) rfl
          · rintro ρ w' hgr ec ef - ⟨q40, -⟩ -
            have e40 : ρ (.tmp 40) = .bool true := q40
            exact runs_val (by simp [execOp, e40, ec, ef, go_sem]) (Gr.refl _) rfl
        · intro a w' hgr hdf hsz hall hfree
          have e4 : a.eval (.tmp 4) = .bool true := hall 10 _ 4 rfl rfl
        --END
          go_wp2_with fail
          exact bodyPost_ret (results_tmp rfl _ _ _) hdf ⟨congrArg Ending.returned e4, hg.trans hgr⟩
      · have hlt' : ¬ ((put x).length : Int) < ((put v).length : Int) := by omega
        have HN := hide (put_apart v x hv hx hvx (put v).length (by omega))
        go_wp2_with fail
        --SLOTS 01 4 7 /work/steering/wip/specs/v4_7b.py
        refine wp_region_rows [_, _, _, _, _, _, _, _, _, _, _] (slotPreds [IsV (.string ⟨(put v).toArray⟩), IsV (.int .i64 (put v).length), IsV (.string ⟨((put v).take (put v).length).toArray⟩), IsV (.string ⟨(put x).toArray⟩), IsV (.int .i64 (put v).length), IsV (.string ⟨((put x).take (put v).length).toArray⟩), IsV (.bool true), IsV (.bool true), IsV (.bool true), IsV (.bool true), IsV (.bool true)]) [⟨[], [5], none⟩, ⟨[], [7], none⟩, ⟨[(0, 31), (1, 32)], [], none⟩, ⟨[], [6], none⟩, ⟨[], [7], none⟩, ⟨[(3, 34), (4, 35)], [], none⟩, ⟨[(2, 33), (5, 36)], [], none⟩, ⟨[(6, 37)], [], none⟩, ⟨[], [], some (7, 38, true)⟩, ⟨[(7, 38), (8, 39)], [], none⟩, ⟨[(9, 40)], [], none⟩] (by kernel_rfl) (slotPreds_stable ?_) (by kernel_rfl) (by kernel_rfl) ?_ ?_
        · exact ⟨stable_v _, stable_v _, stable_v _, stable_v _, stable_v _, stable_v _, stable_v _, stable_v _, stable_v _, stable_v _, stable_v _, trivial⟩
        · refine ⟨?_, ?_, ?_, ?_, ?_, ?_, ?_, ?_, ?_, ?_, ?_, trivial⟩
          · rintro ρ w' hgr ec ef - - ⟨f5, -⟩
            have e5 : ρ (.tmp 5) = .string ⟨(put v).toArray⟩ := f5
            exact runs_val (by simp [execOp, e5, ec, ef, go_sem]) (Gr.refl _) rfl
          · rintro ρ w' hgr ec ef - - ⟨f7, -⟩
            have e7 : ρ (.tmp 7) = .int .i64 (put v).length := f7
            exact runs_val (by simp [execOp, e7, ec, ef, go_sem]) (Gr.refl _) rfl
          · rintro ρ w' hgr ec ef - ⟨q31, q32, -⟩ -
            have e31 : ρ (.tmp 31) = .string ⟨(put v).toArray⟩ := q31
            have e32 : ρ (.tmp 32) = .int .i64 (put v).length := q32
            exact runs_val (by simp [execOp, e31, e32, run_strAtH Try.underlying9 (put v) (put v).length (by omega)]) (Gr.refl _) rfl
          · rintro ρ w' hgr ec ef - - ⟨f6, -⟩
            have e6 : ρ (.tmp 6) = .string ⟨(put x).toArray⟩ := f6
            exact runs_val (by simp [execOp, e6, ec, ef, go_sem]) (Gr.refl _) rfl
          · rintro ρ w' hgr ec ef - - ⟨f7, -⟩
            have e7 : ρ (.tmp 7) = .int .i64 (put v).length := f7
            exact runs_val (by simp [execOp, e7, ec, ef, go_sem]) (Gr.refl _) rfl
          · rintro ρ w' hgr ec ef - ⟨q34, q35, -⟩ -
            have e34 : ρ (.tmp 34) = .string ⟨(put x).toArray⟩ := q34
            have e35 : ρ (.tmp 35) = .int .i64 (put v).length := q35
            exact runs_val (by simp [execOp, e34, e35, run_strAtH Try.underlying9 (put x) (put v).length (by omega)]) (Gr.refl _) rfl
          · rintro ρ w' hgr ec ef - ⟨q33, q36, -⟩ -
            have e33 : ρ (.tmp 33) = .string ⟨((put v).take (put v).length).toArray⟩ := q33
            have e36 : ρ (.tmp 36) = .string ⟨((put x).take (put v).length).toArray⟩ := q36
            exact runs_val (by simp [execOp, e33, e36, go_sem]; simpa using HN.out) (Gr.refl _) rfl
          · rintro ρ w' hgr ec ef - ⟨q37, -⟩ -
            have e37 : ρ (.tmp 37) = .bool true := q37
            exact runs_val (by simp [execOp, e37, ec, ef, go_sem]) (Gr.refl _) rfl
          · rintro ρ w' hgr ec ef - - -
            refine guard_yes (fun h => h) fun eg => ?_
            exact runs_call (run_call_func _ (by kernel_rfl) rfl (ef _) (by simp only [List.map_toArray, List.map_cons, List.map_nil, ec, ef])) ((awake_any _).mono (fun e w' ⟨he, hb⟩ => ⟨_, he, hb, rfl⟩))
          · rintro ρ w' hgr ec ef - ⟨q38, q39, -⟩ -
            have e38 : ρ (.tmp 38) = .bool true := q38
            have e39 : ρ (.tmp 39) = .bool true := q39
            exact runs_val (by simp [execOp, e38, e39, ec, ef, go_sem]) (Gr.refl _) rfl
          · rintro ρ w' hgr ec ef - ⟨q40, -⟩ -
            have e40 : ρ (.tmp 40) = .bool true := q40
            exact runs_val (by simp [execOp, e40, ec, ef, go_sem]) (Gr.refl _) rfl
        · intro a w' hgr hdf hsz hall hfree
          have e4 : a.eval (.tmp 4) = .bool true := hall 10 _ 4 rfl rfl
        --END
          go_wp2_with fail
          exact bodyPost_ret (results_tmp rfl _ _ _) hdf ⟨congrArg Ending.returned e4, hg.trans hgr⟩
end Go.Proofs.Ytnoahfhnmiibgaa
