/-
  The walk of the law LeafChecks.
-/
import Derived.Test.YtagdjoabpkmomaaDoorAwk9
import Derived.Test.YtagdjoabpkmomaaDoorRef9
namespace Go.Proofs.YtagdjoabpkmomaaDoor
open Go.RowKit
set_option maxRecDepth 100000
set_option linter.unusedSimpArgs false
set_option linter.unusedVariables false
attribute [local go_sem ↓] Go.wp_at_zero Go.wp_at_succ

theorem fewL_len (l : List Item) : (fewL l).length ≤ 66 := by simp [fewL]; omega
theorem fewL_num {l : List Item} (h : ∀ x ∈ l, ItemIn x) : ∀ x ∈ fewL l, NumOk x := by
  intro x hx
  obtain ⟨y, hy, rfl⟩ := List.mem_map.1 hx
  exact (h y (List.mem_of_mem_take hy)).2.2
theorem fewL_key {l : List Item} : ∀ x ∈ fewL l, x.key.length ≤ maxLen := by
  intro x hx
  obtain ⟨y, hy, rfl⟩ := List.mem_map.1 hx
  simp only [Item.one, List.length_take, maxLen]; omega

set_option maxHeartbeats 8000000 in
theorem walk_LeafChecks (w : World) (hS : Sig w) (A : Option Addr) (l : List Item) (c : Nat) (hF : Fs Item.cells 5 w A l) (hlc : l.length ≤ c) (hcm : c ≤ maxLen) (hin : ∀ x ∈ l, ItemIn x) :
    Calls Tryd.prog 3 #[.slice A l.length c] w fun e w' => e = .returned (.bool true) ∧ Below w.heap.size w w' := by
  have hfew := few_any A l c w hF hlc hcm (fun x hx => ⟨(hin x hx).1, (hin x hx).2.1⟩)
  have hml := fewL_len l
  have hmn := fewL_num hin
  have hmk := fewL_key (l := l)
  generalize fewL l = m at hfew hml hmn hmk
  have HFEW := hide hfew; have HMN := hide hmn; have HMK := hide hmk; have HSg := hide hS
  clear hfew hmn hmk hS hF hin
  cases hlf : leafB m with
  | false =>
    have HW := hide (show weightP m = 0 from by unfold weightP; rw [hlf]; rfl)
    have hne : (((chk m).1 : Int) == 0) = false := by
      have : ¬ (chk m).1 = 0 := by intro h; unfold leafB at hlf; rw [h] at hlf; cases hlf
      rw [beq_eq_false_iff_ne]; omega
    have HLF := hide hlf; clear hlf
    go_enter Tryd.func3, Tryd.ntmps3
    go_wp2_with (first
      | (go_at_call 9; refine HFEW.out.mono ?_; rintro e w1 ⟨A1, c1, rfl, hown1, hb1⟩; have HF1 := hide (Fs.of_own rfl hown1); clear hown1)
      | (go_at_call 10; refine (check_any A1 m c1 _ (HSg.out.below hb1) HF1.out (by omega)).mono ?_; rintro e w2 ⟨rfl, hb2⟩; have HF2 := hide (HF1.out.below hb2); have hB2 := below_trans hb1 hb2)
      | (go_at_call 11; refine (rcheck_any A1 m c1 _ HF2.out (by omega) HMK.out).mono ?_; rintro e w3 ⟨rfl, hb3⟩; have HF3 := hide (HF2.out.below hb3); have hB3 := below_trans hB2 hb3))
    go_loop [7, 8] (fun a i => a = .int .i64 0 ∧ i = .int .i64 0) (fun _ _ => 0)
    case atStart => exact ⟨rfl, rfl⟩
    case round =>
      obtain ⟨rfl, rfl⟩ := hrel
      by_cases hpos : 0 < m.length
      all_goals
        go_wp2_with (first
          | (go_at_call 13; refine (weight_any A1 m c1 _ (HSg.out.below hB3) HF3.out HMN.out (by omega)).mono ?_; rw [HW.out]; rintro e w4 ⟨rfl, hb4⟩; have hB4 := below_trans hB3 hb4)
          | (go_at_call 14; refine (awake_any _ (HSg.out.below hB4)).mono ?_; rintro e w5 ⟨rfl, hb5⟩))
        go_ret
        exact ⟨rfl, below_trans hB4 hb5⟩
  | true =>
    have HW := hide (show weightP m = weight m from by unfold weightP; rw [if_pos hlf])
    have hck := chk_of_leaf m hlf
    have HLA := hide ((leafB_iff m).1 hlf).2.1
    have hchk : ∀ A c w, Sig w → Fs Item.cells 5 w A m → Calls Tryd.prog 10 #[.slice A m.length c] w fun e w' => e = .returned (.tuple #[.int .i64 0, .int .i64 0]) ∧ Below w.heap.size w w' := fun A c w hS hF => (check_any A m c w hS hF (by omega)).mono fun e w' h => by rw [hck] at h; exact h
    have hrchk : ∀ A c w, Fs Item.cells 5 w A m → Calls Tryd.prog 11 #[.slice A m.length c] w fun e w' => e = .returned (.tuple #[.int .i64 0, .int .i64 0]) ∧ Below w.heap.size w w' := fun A c w hF => (rcheck_any A m c w hF (by omega) HMK.out).mono fun e w' h => by rw [hck] at h; exact h
    have HCK := hide hchk; have HRC := hide hrchk
    clear hck hchk hrchk hlf
    go_enter Tryd.func3, Tryd.ntmps3
    go_wp2_with (first
      | (go_at_call 9; refine HFEW.out.mono ?_; rintro e w1 ⟨A1, c1, rfl, hown1, hb1⟩; have HF1 := hide (Fs.of_own rfl hown1); clear hown1)
      | (go_at_call 10; refine (HCK.out A1 c1 _ (HSg.out.below hb1) HF1.out).mono ?_; rintro e w2 ⟨rfl, hb2⟩; have HF2 := hide (HF1.out.below hb2); have hB2 := below_trans hb1 hb2)
      | (go_at_call 11; refine (HRC.out A1 c1 _ HF2.out).mono ?_; rintro e w3 ⟨rfl, hb3⟩; have HF3 := hide (HF2.out.below hb3); have hB3 := below_trans hB2 hb3))
    go_loopw [7, 8] (fun a i wr => ∃ k : Nat, k ≤ m.length ∧ i = .int .i64 k ∧ a = .int .i64 (weight (m.take k)) ∧ weight (m.take k) ≤ k * 200 ∧ Below w3.heap.size w3 wr) (fun _ i _ => m.length - (intOf i).toNat)
    case atStart => exact ⟨0, Nat.zero_le _, rfl, rfl, by simp [weight], Below.refl _ _⟩
    case round =>
      obtain ⟨k, hk, rfl, rfl, hwt, hbel⟩ := hrel
      by_cases hlt : k < m.length
      · have hlt' : (k : Int) < m.length := by omega
        obtain ⟨b, off, rfl, hbl, hcell⟩ := HF3.out.cell (fun _ => rfl) (by omega)
        obtain ⟨c0, c1', c2, c3, c4⟩ := five hcell hbel hbl hlt
        have hbr : b < wr.heap.size := Nat.lt_of_lt_of_le hbl hbel.size
        have HWT := hide (weight_take m k hlt)
        have hn := HMN.out m[k] (List.getElem_mem hlt)
        have hi := HLA.out m[k] (List.getElem_mem hlt)
        generalize weight (m.take k) = W at hwt HWT ⊢
        generalize m[k] = x at c0 c1' c2 c3 c4 HWT hn hi
        obtain ⟨key, kind, i, s, ver⟩ := x
        obtain ⟨hn0, hn1⟩ := hn
        obtain ⟨hk1, hv, -, -, -⟩ := itemB_parts hi
        have hkl := keyB_len hk1
        have hel := encV_len hn0 hn1 hv
        have hce := fun w => renc_any kind i s hn0 hn1 hv w
        have hv' := hide hv
        generalize encV kind i s = E at HWT hel hce
        have HCE := hide hce
        clear hcell hk1 hi hv hce
        go_wp2_with fail
        go_region_held3 (fun w' => w'.cell? ⟨b, off + k * 5, none⟩ = some (.string ⟨key.toArray⟩) ∧ w'.cell? ⟨b, off + k * 5 + 1, none⟩ = some (.int .i64 kind) ∧ w'.cell? ⟨b, off + k * 5 + 2, none⟩ = some (.int .i64 i) ∧ w'.cell? ⟨b, off + k * 5 + 3, none⟩ = some (.string ⟨s.toArray⟩)) (go_keep)
          (first | (go_at_call 12; refine (HCE.out _).mono ?_; rintro e w5 ⟨rfl, hb5⟩; obtain ⟨hc, hf⟩ := bcell (below_of_drew hb5)))
        all_goals go_wp2_with fail
        clear hc hf
        have hb6 := below_of_drew hb5
        refine ⟨⟨k + 1, by omega, by go_num, ?_, ?_, hbel.trans (hb6.mono hbel.size)⟩, by simp [intOf]; omega⟩
        · rw [HWT.out]; refine int_eq ?_
          rw [IntWalk.i64_in ((key.length : Int) + E.length) (by omega), IntWalk.i64_in _ (by omega)]; omega
        · rw [HWT.out, Nat.succ_mul]; omega
      · have hk' : k = m.length := by omega
        subst hk'
        rw [List.take_length]
        have hB4 := below_trans hB3 hbel
        have HF4 := hide (HF3.out.below hbel)
        go_wp2_with (first
          | (go_at_call 13; refine (weight_any A1 m c1 _ (HSg.out.below hB4) HF4.out HMN.out (by omega)).mono ?_; rw [HW.out]; rintro e w5 ⟨rfl, hb5⟩; have hB5 := below_trans hB4 hb5)
          | (go_at_call 14; refine (awake_any _ (HSg.out.below hB5)).mono ?_; rintro e w6 ⟨rfl, hb6⟩))
        go_ret
        exact ⟨rfl, below_trans hB5 hb6⟩
end Go.Proofs.YtagdjoabpkmomaaDoor
