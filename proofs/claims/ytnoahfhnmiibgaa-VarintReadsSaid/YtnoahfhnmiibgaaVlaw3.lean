/-
  The walks of the laws VarintTexts, VarintBack.
-/
import Derived.Test.YtnoahfhnmiibgaaVlaw2
namespace Go.Proofs.Ytnoahfhnmiibgaa
open Go.RowKit
set_option linter.unusedSimpArgs false
set_option linter.unusedVariables false

theorem puttext_b (s : List UInt8) (w : World) : Calls Try.prog 25 #[.string ⟨s.toArray⟩] w fun e w' => ∃ A cap, e = .returned (.slice A (if s.length ≤ 255 then put s.length ++ s else []).length cap) ∧ Below w.heap.size w w' ∧
    (_root_.Go.convert 24 9 (.slice A (if s.length ≤ 255 then put s.length ++ s else []).length cap)).run Try.prog w' = .ok (.string ⟨(if s.length ≤ 255 then put s.length ++ s else []).toArray⟩) w' := by
  by_cases h : s.length ≤ 255
  · rw [if_pos h]
    exact (puttext_any s h w).mono fun _ w' ⟨A, cap, he, hown, hb⟩ => ⟨A, cap, he, hb, run_str w' _ cap _ (Bs.of_own hown)⟩
  · rw [if_neg h]
    exact (puttext_no s (by omega) w).mono fun _ w' ⟨A, cap, he, hown, hb⟩ => ⟨A, cap, he, hb, run_str w' _ cap _ (Bs.of_own hown)⟩

theorem cutText_n (l : List UInt8) : (CutText l).2.2 ≤ 8 ∧ (CutText l).2.1 ≤ l.length := by
  have h := cut_n l
  unfold CutText
  split
  · simp only; omega
  · split
    · simp
    · split
      · simp
      · simp only; omega

set_option maxHeartbeats 2000000 in
theorem walk_VarintTexts (w : World) (s : List UInt8) (hs : s.length ≤ maxLen) (A : Option Addr) (l0 : List UInt8) (c : Nat) (hb0 : Bs w A l0) (hlc0 : l0.length ≤ c) (hcm : c ≤ maxLen) :
    Calls Try.prog 8 #[.string ⟨s.toArray⟩, .slice A l0.length c] w fun e w' => e = .returned (.bool true) ∧ Below w.heap.size w w' := by
  have hsm : s.length ≤ 9223372036854775807 := by unfold maxLen at hs; omega
  have HFew := hide (few_any A l0 c w hb0 hlc0 hcm)
  have HB := hide (hb0.take 2000)
  have hl : (l0.take 2000).length ≤ 2000 := by simp; omega
  have hlc : (l0.take 2000).length ≤ c := by simp; omega
  clear hb0 hlc0
  go_enter Try.func8, Try.ntmps8
  go_upto_if 14 with (fail)
  go_cut [0] (fun s0 wx => s0 = .string ⟨(s.take 600).toArray⟩ ∧ w = wx)
  case first =>
    by_cases h : 600 < s.length
    · have h' : (600 : Int) < s.length := by omega
      have hsl := run_strCutH Try.underlying9 s 600 (by omega) 600 rfl w
      go_wp2_with fail
      go_meet
      exact ⟨rfl, rfl⟩
    · have h' : ¬ (600 : Int) < s.length := by omega
      have HT := hide (List.take_of_length_le (show s.length ≤ 600 by omega))
      go_wp2_with fail
      go_meet
      exact ⟨by rw [HT.out], rfl⟩
  case rest =>
    obtain ⟨rfl, rfl⟩ := hcut
    have hS : (s.take 600).length ≤ 600 := by simp; omega
    generalize s.take 600 = S at hS ⊢
    clear hsm hs
    go_wp2_with fail
    refine (unhide HFew).mono ?_
    rintro e w' ⟨rfl, rfl⟩
    have hb := unhide HB
    clear HFew HB
    generalize l0.take 2000 = l at hb hl hlc ⊢
    have hcv := run_str w A c l hb
    have HC := hide hb
    have hn := cutText_n l
    by_cases h : S.length ≤ 255
    · have h' : (S.length : Int) ≤ 255 := by omega
      go_wp2_with fail
      refine (rtext_any S (by omega) w).mono ?_
      rintro e w1 ⟨rfl, hb1⟩
      have hB1 := hb.below hb1
      clear hcv
      have hcv := run_str w1 A c l hB1
      have HB1 := hide hB1
      have HB := hide hb
      clear hb hB1
      go_wp2_with fail
      refine (cuttext_any A l c w1 (unhide HB1) (by omega) hlc (by unfold maxLen at hcm; omega)).mono ?_
      rintro e w' ⟨rfl, rfl⟩
      go_wp2_with fail
      refine (rcuttext_any l w1 (by omega)).mono ?_
      rintro e w' ⟨rfl, rfl⟩
      go_wp2_with fail
      refine (puttext_any S h w1).mono ?_
      rintro e w2 ⟨A2, c2, rfl, hown2, hb2⟩
      have hcv2 := run_str w2 A2 c2 _ (Bs.of_own hown2)
      clear hown2 hcv
      simp only [List.length_append] at hcv2
      simp only [List.length_append]
      go_wp2_with fail
      refine (awake_any _).mono ?_
      rintro e w3 ⟨rfl, hb3⟩
      go_wp2_with fail
      go_ret
      have h1 := hb1.size; have h2 := hb2.size
      exact ⟨rfl, (Below.trans hb1 (hb2.mono h1)).trans (hb3.mono (by omega))⟩
    · have h' : ¬ (S.length : Int) ≤ 255 := by omega
      have HB := hide hb
      clear hb
      go_wp2_with fail
      refine (cuttext_any A l c w (unhide HB) (by omega) hlc (by unfold maxLen at hcm; omega)).mono ?_
      rintro e w' ⟨rfl, rfl⟩
      go_wp2_with fail
      refine (rcuttext_any l w (by omega)).mono ?_
      rintro e w' ⟨rfl, rfl⟩
      go_wp2_with fail
      refine (puttext_no S (by omega) w).mono ?_
      rintro e w2 ⟨A2, c2, rfl, hown2, hb2⟩
      have hcv2 := run_str w2 A2 c2 _ (Bs.of_own hown2)
      clear hown2 hcv
      simp only [List.length_nil] at hcv2
      simp only [List.length_nil]
      go_wp2_with fail
      refine (awake_any _).mono ?_
      rintro e w3 ⟨rfl, hb3⟩
      go_wp2_with fail
      go_ret
      have h2 := hb2.size
      exact ⟨rfl, Below.trans hb2 (hb3.mono h2)⟩

theorem own_empty (w : World) (t : TypeId) (base : Nat) (hb : base ≤ w.heap.size) : (w.alloc (.cells #[] t)).ownsRow base t 1 (.slice (some ⟨w.heap.size, 0, none⟩) 0 0) 0 [] := World.ownsRow_made w #[] 0 hb (by simp) rfl

set_option maxHeartbeats 4000000 in
theorem walk_VarintBack (w : World) (v : Nat) (hv : v < 18446744073709551616) (x : Int) (hx0 : -9223372036854775808 ≤ x) (hx : x < 9223372036854775808) (A : Option Addr) (l0 : List UInt8) (c : Nat) (hb0 : Bs w A l0) (hlc0 : l0.length ≤ c) (hcm : c ≤ maxLen) :
    Calls Try.prog 6 #[.int .u64 v, .int .i64 x, .slice A l0.length c] w fun e w' => e = .returned (.bool true) ∧ Below w.heap.size w w' := by
  have HFew := hide (few_any A l0 c w hb0 hlc0 hcm)
  have HB := hide (hb0.take 2000)
  have hl : (l0.take 2000).length ≤ 2000 := by simp; omega
  have hlc : (l0.take 2000).length ≤ c := by simp; omega
  have hz := zig_lt x hx0 hx
  have hp1 := put_len v hv; have hp2 := put_len (zig x) hz
  clear hb0 hlc0
  go_enter Try.func6, Try.ntmps6
  go_wp2_with fail
  refine (unhide HFew).mono ?_
  rintro e w' ⟨rfl, rfl⟩
  generalize l0.take 2000 = l at HB hl hlc ⊢
  clear HFew
  go_wp2_with fail
  refine (put_any v (by omega) (by omega) w).mono ?_
  rintro e w1 ⟨g1, c1, rfl, hown1, hb1⟩
  rw [Int.toNat_natCast] at hown1 ⊢
  have HB1 := hide ((unhide HB).below hb1)
  have HS1 := hide (Rd.of_own hown1)
  clear hown1
  go_wp2_with (first
    | (at_builtin; refine wpList_appAny _ rfl (.tmp 23) (.tmp 24) _ rfl w1 w1.heap.size 5 _ 1 1 Try.underlying24 info_u8 rfl (by omega) (by omega) _ 0 [] rfl (own_empty w1 _ _ (Nat.le_refl _)) ((Below.refl _ _).alloc (Nat.le_refl _) _) _ (put v).length _ _ rfl (Rd.alloc (unhide HS1) _) (cB_one _) (by omega) (by simp) ?_; intro A2 c2 w2 hown2 hb2; simp only [Nat.zero_add, List.nil_append] at hown2)
    | (at_builtin; go_loud (refine wpList_appAny _ rfl (.tmp 25) (.tmp 26) _ rfl w1 w1.heap.size 5 _ 1 1 Try.underlying24 info_u8 rfl (by omega) (by omega) _ (put v).length _ rfl hown2 hb2 _ l.length _ _ rfl (Rd.below (unhide HB1) hb2) (cB_one _) (by omega) hb2.size ?_; intro A3 c3 w3 hown3 hb3; clear hown2 hb2)))
  have hc3 := cut_any A3 (put v ++ l) c3 w3 (by have := Rd.of_own hown3; unfold Bs; rw [List.map_append, List.length_append]; simpa using this) (by simp; omega)
  rw [cut_put v hv, List.length_append] at hc3
  have HC3 := hide hc3
  have HB3 := hide (Bs.below (unhide HB1) hb3)
  have G3 := hide (Gr.trans hb1 hb3)
  clear hc3 hown3 hb3 HB1 HB HS1 hb1
  refine (unhide HC3).mono ?_
  rintro e w' ⟨rfl, rfl⟩
  go_wp2_with fail
  refine (putint_any x hx0 hx w3).mono ?_
  rintro e w4 ⟨A4, c4, rfl, hown4, hb4⟩
  have HB4 := hide (Bs.below (unhide HB3) hb4)
  have HS4 := hide (Rd.of_own hown4)
  have G4 := hide (Gr.trans (unhide G3) hb4)
  clear hown4 HB3 G3 HC3 hb4
  go_wp2_with (first
    | (at_builtin; refine wpList_appAny _ rfl (.tmp 35) (.tmp 36) _ rfl w4 w4.heap.size 5 _ 1 1 Try.underlying24 info_u8 rfl (by omega) (by omega) _ 0 [] rfl (own_empty w4 _ _ (Nat.le_refl _)) ((Below.refl _ _).alloc (Nat.le_refl _) _) _ (put (zig x)).length _ _ rfl (Rd.alloc (unhide HS4) _) (cB_one _) (by omega) (by simp) ?_; intro A5 c5 w5 hown5 hb5; simp only [Nat.zero_add, List.nil_append] at hown5)
    | (at_builtin; refine wpList_appAny _ rfl (.tmp 37) (.tmp 38) _ rfl w4 w4.heap.size 5 _ 1 1 Try.underlying24 info_u8 rfl (by omega) (by omega) _ (put (zig x)).length _ rfl hown5 hb5 _ l.length _ _ rfl (Rd.below (unhide HB4) hb5) (cB_one _) (by omega) hb5.size ?_; intro A6 c6 w6 hown6 hb6; clear hown5 hb5))
  have hc6 := cutint_any A6 (put (zig x) ++ l) c6 w6 (by have := Rd.of_own hown6; unfold Bs; rw [List.map_append, List.length_append]; simpa using this) (by simp; omega)
  rw [cut_put (zig x) hz, List.length_append] at hc6
  simp only [zag_zig] at hc6
  have HC6 := hide hc6
  have HB6 := hide (Bs.below (unhide HB4) hb6)
  have G6 := hide (Gr.trans (unhide G4) hb6)
  clear hc6 hown6 hb6 HB4 HS4 G4
  refine (unhide HC6).mono ?_
  rintro e w' ⟨rfl, rfl⟩
  clear HC6
  go_wp2_with fail
  refine (cut_any A l c w6 (unhide HB6) (by omega)).mono ?_
  rintro e w' ⟨rfl, rfl⟩
  have hn := cut_n l
  have hv64 := cut_lt l
  by_cases he : (cut l).2.2 = 0
  · have he' : (((cut l).2.2 : Int) != 0) = false := by rw [he]; rfl
    obtain ⟨hpc, hpos⟩ := put_cut l he
    have HPC := hide hpc
    have hkl : (l.take (cut l).2.1).length = (cut l).2.1 := by simp; omega
    have HKL := hide hkl
    have hbk := (unhide HB6).cutA (lo := 0) (n := (cut l).2.1) (c := c) (by omega) hlc
    rw [List.drop_zero] at hbk
    have HBK := hide hbk
    clear he hpc hbk hkl HB6
    go_wp2_with fail
    have hbk := unhide HBK
    have hkl := unhide HKL
    --SLOTS 01 6 11 /work/steering/wip/specs/v6_11.py
    refine wp_region_rows [_, _, _, _, _, _, _, _, _, _, _, _, _, _, _, _, _, _, _, _, _, _] (slotPreds [IsV (.int .i64 (cut l).2.1), IsV (.bool true), IsV (.bool true), IsV (.int .i64 (cut l).2.1), IsV (.slice A l.length c), IsV (.int .i64 l.length), IsV (.bool true), IsV (.bool true), IsV (.bool true), IsV (.int .u64 (cut l).1), IsB (put (cut l).1), IsV (.string ⟨(put (cut l).1).toArray⟩), IsV (.slice A l.length c), IsV (.int .i64 (cut l).2.1), IsB (l.take (cut l).2.1), IsV (.string ⟨(put (cut l).1).toArray⟩), IsV (.bool true), IsV (.bool true), IsV (.bool true), IsV (.bool true), IsV (.bool true), IsV (.bool true)]) [⟨[], [16], none⟩, ⟨[(0, 89)], [], none⟩, ⟨[(1, 90)], [], none⟩, ⟨[], [16], some (2, 91, true)⟩, ⟨[], [2], some (2, 91, true)⟩, ⟨[(4, 93)], [], some (2, 91, true)⟩, ⟨[(3, 92), (5, 94)], [], some (2, 91, true)⟩, ⟨[(2, 91), (6, 95)], [], none⟩, ⟨[(7, 96)], [], none⟩, ⟨[], [15], some (8, 97, true)⟩, ⟨[(9, 98)], [], some (8, 97, true)⟩, ⟨[(10, 99)], [], some (8, 97, true)⟩, ⟨[], [2], some (8, 97, true)⟩, ⟨[], [16], some (8, 97, true)⟩, ⟨[(12, 101), (13, 102)], [], some (8, 97, true)⟩, ⟨[(14, 103)], [], some (8, 97, true)⟩, ⟨[(11, 100), (15, 104)], [], some (8, 97, true)⟩, ⟨[(8, 97), (16, 105)], [], none⟩, ⟨[(17, 106)], [], none⟩, ⟨[], [], some (18, 107, true)⟩, ⟨[(18, 107), (19, 108)], [], none⟩, ⟨[(20, 109)], [], none⟩] (by kernel_rfl) (slotPreds_stable ?_) (by kernel_rfl) (by kernel_rfl) ?_ ?_
    · exact ⟨stable_v _, stable_v _, stable_v _, stable_v _, stable_v _, stable_v _, stable_v _, stable_v _, stable_v _, stable_v _, stable_b _, stable_v _, stable_v _, stable_v _, stable_b _, stable_v _, stable_v _, stable_v _, stable_v _, stable_v _, stable_v _, stable_v _, trivial⟩
    · refine ⟨?_, ?_, ?_, ?_, ?_, ?_, ?_, ?_, ?_, ?_, ?_, ?_, ?_, ?_, ?_, ?_, ?_, ?_, ?_, ?_, ?_, ?_, trivial⟩
      · rintro ρ w' hgr ec ef - - ⟨f16, -⟩
        have e16 : ρ (.tmp 16) = .int .i64 (cut l).2.1 := f16
        exact runs_val (by simp [execOp, e16, ec, ef, go_sem]) (Gr.refl _) rfl
      · rintro ρ w' hgr ec ef - ⟨q89, -⟩ -
        have e89 : ρ (.tmp 89) = .int .i64 (cut l).2.1 := q89
        exact runs_val (by simp [execOp, e89, ec, go_sem]; omega) (Gr.refl _) rfl
      · rintro ρ w' hgr ec ef - ⟨q90, -⟩ -
        have e90 : ρ (.tmp 90) = .bool true := q90
        exact runs_val (by simp [execOp, e90, ec, ef, go_sem]) (Gr.refl _) rfl
      · rintro ρ w' hgr ec ef - - ⟨f16, -⟩
        refine guard_yes (fun h => h) fun eg => ?_
        have e16 : ρ (.tmp 16) = .int .i64 (cut l).2.1 := f16
        exact runs_val (by simp [execOp, e16, ec, ef, go_sem]) (Gr.refl _) rfl
      · rintro ρ w' hgr ec ef - - ⟨f2, -⟩
        refine guard_yes (fun h => h) fun eg => ?_
        have e2 : ρ (.tmp 2) = .slice A l.length c := f2
        exact runs_val (by simp [execOp, e2, ec, ef, go_sem]) (Gr.refl _) rfl
      · rintro ρ w' hgr ec ef - ⟨q93, -⟩ -
        refine guard_yes (fun h => h) fun eg => ?_
        have e93 : ρ (.tmp 93) = .slice A l.length c := q93
        exact runs_val (by simp [execOp, e93, ec, ef, go_sem]) (Gr.refl _) rfl
      · rintro ρ w' hgr ec ef - ⟨q92, q94, -⟩ -
        refine guard_yes (fun h => h) fun eg => ?_
        have e92 : ρ (.tmp 92) = .int .i64 (cut l).2.1 := q92
        have e94 : ρ (.tmp 94) = .int .i64 l.length := q94
        exact runs_val (by simp [execOp, e92, e94, ec, go_sem]; omega) (Gr.refl _) rfl
      · rintro ρ w' hgr ec ef - ⟨q91, q95, -⟩ -
        have e91 : ρ (.tmp 91) = .bool true := q91
        have e95 : ρ (.tmp 95) = .bool true := q95
        exact runs_val (by simp [execOp, e91, e95, ec, ef, go_sem]) (Gr.refl _) rfl
      · rintro ρ w' hgr ec ef - ⟨q96, -⟩ -
        have e96 : ρ (.tmp 96) = .bool true := q96
        exact runs_val (by simp [execOp, e96, ec, ef, go_sem]) (Gr.refl _) rfl
      · rintro ρ w' hgr ec ef - - ⟨f15, -⟩
        refine guard_yes (fun h => h) fun eg => ?_
        have e15 : ρ (.tmp 15) = .int .u64 (cut l).1 := f15
        exact runs_val (by simp [execOp, e15, ec, ef, go_sem]) (Gr.refl _) rfl
      · rintro ρ w' hgr ec ef - ⟨q98, -⟩ -
        refine guard_yes (fun h => h) fun eg => ?_
        have e98 : ρ (.tmp 98) = .int .u64 (cut l).1 := q98
        exact runs_call (run_call_func _ (by kernel_rfl) rfl (ef _) (by simp only [List.map_toArray, List.map_cons, List.map_nil, e98, ec, ef])) ((put_b (cut l).1 hv64 _).mono (fun e w' ⟨g, c, he, hb, hr⟩ => ⟨_, he, hb, _, c, rfl, hr⟩))
      · rintro ρ w' hgr ec ef - ⟨⟨A99, c99, e99, hb99⟩, -⟩ -
        refine guard_yes (fun h => h) fun eg => ?_
        exact runs_val (v := .string ⟨(put (cut l).1).toArray⟩) (by simp only [execOp, e99, Sem.run_bind, run_str _ _ _ _ hb99, Result.andThen_ok, Sem.run_pure]) (Gr.refl _) rfl
      · rintro ρ w' hgr ec ef - - ⟨f2, -⟩
        refine guard_yes (fun h => h) fun eg => ?_
        have e2 : ρ (.tmp 2) = .slice A l.length c := f2
        exact runs_val (by simp [execOp, e2, ec, ef, go_sem]) (Gr.refl _) rfl
      · rintro ρ w' hgr ec ef - - ⟨f16, -⟩
        refine guard_yes (fun h => h) fun eg => ?_
        have e16 : ρ (.tmp 16) = .int .i64 (cut l).2.1 := f16
        exact runs_val (by simp [execOp, e16, ec, ef, go_sem]) (Gr.refl _) rfl
      · rintro ρ w' hgr ec ef - ⟨q101, q102, -⟩ -
        refine guard_yes (fun h => h) fun eg => ?_
        have e101 : ρ (.tmp 101) = .slice A l.length c := q101
        have e102 : ρ (.tmp 102) = .int .i64 (cut l).2.1 := q102
        exact runs_val (by simp only [execOp, e101, e102, Option.map_some, Option.map_none, Sem.run_bind, Sem.run_pure, Result.andThen_ok, run_cutAtH Try.underlying24 size_u8 A l.length c (cut l).2.1 (by omega)]; rfl) (Gr.refl _) ⟨_, _, by rw [hkl], hbk.below hgr⟩
      · rintro ρ w' hgr ec ef - ⟨⟨A103, c103, e103, hb103⟩, -⟩ -
        refine guard_yes (fun h => h) fun eg => ?_
        exact runs_val (v := .string ⟨(put (cut l).1).toArray⟩) (by simp only [execOp, e103, Sem.run_bind, run_str _ _ _ _ hb103, Result.andThen_ok, Sem.run_pure, HPC.out]) (Gr.refl _) rfl
      · rintro ρ w' hgr ec ef - ⟨q100, q104, -⟩ -
        refine guard_yes (fun h => h) fun eg => ?_
        have e100 : ρ (.tmp 100) = .string ⟨(put (cut l).1).toArray⟩ := q100
        have e104 : ρ (.tmp 104) = .string ⟨(put (cut l).1).toArray⟩ := q104
        exact runs_val (by simp [execOp, e100, e104, ec, ef, go_sem]) (Gr.refl _) rfl
      · rintro ρ w' hgr ec ef - ⟨q97, q105, -⟩ -
        have e97 : ρ (.tmp 97) = .bool true := q97
        have e105 : ρ (.tmp 105) = .bool true := q105
        exact runs_val (by simp [execOp, e97, e105, ec, ef, go_sem]) (Gr.refl _) rfl
      · rintro ρ w' hgr ec ef - ⟨q106, -⟩ -
        have e106 : ρ (.tmp 106) = .bool true := q106
        exact runs_val (by simp [execOp, e106, ec, ef, go_sem]) (Gr.refl _) rfl
      · rintro ρ w' hgr ec ef - - -
        refine guard_yes (fun h => h) fun eg => ?_
        exact runs_call (run_call_func _ (by kernel_rfl) rfl (ef _) (by simp only [List.map_toArray, List.map_cons, List.map_nil, ec, ef])) ((awake_any _).mono (fun e w' ⟨he, hb⟩ => ⟨_, he, hb, rfl⟩))
      · rintro ρ w' hgr ec ef - ⟨q107, q108, -⟩ -
        have e107 : ρ (.tmp 107) = .bool true := q107
        have e108 : ρ (.tmp 108) = .bool true := q108
        exact runs_val (by simp [execOp, e107, e108, ec, ef, go_sem]) (Gr.refl _) rfl
      · rintro ρ w' hgr ec ef - ⟨q109, -⟩ -
        have e109 : ρ (.tmp 109) = .bool true := q109
        exact runs_val (by simp [execOp, e109, ec, ef, go_sem]) (Gr.refl _) rfl
    · intro a w' hgr hdf hsz hall hfree
      have e6 : a.eval (.tmp 6) = .bool true := hall 21 _ 6 rfl rfl
    --END
      go_wp2_with fail
      exact bodyPost_ret (results_tmp rfl _ _ _) hdf ⟨congrArg Ending.returned e6, Gr.trans (unhide G6) hgr⟩
  · have he' : (((cut l).2.2 : Int) != 0) = true := by rw [bne_iff_ne]; omega
    obtain ⟨h1, h2⟩ := cut_zero l he
    rw [h1, h2]
    go_wp2_with (go_at_call 11; refine (awake_any _).mono ?_; rintro e w7 ⟨rfl, hb7⟩)
    go_ret
    exact ⟨rfl, Gr.trans (unhide G6) hb7⟩
end Go.Proofs.Ytnoahfhnmiibgaa
