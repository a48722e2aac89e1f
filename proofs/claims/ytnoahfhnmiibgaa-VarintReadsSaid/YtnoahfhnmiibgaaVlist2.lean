/-
  The walks of the reference's List and CutList, of the law's 'same'.
-/
import Derived.Test.YtnoahfhnmiibgaaVlist
namespace Go.Proofs.Ytnoahfhnmiibgaa
open Go.RowKit
set_option maxRecDepth 100000
set_option linter.unusedSimpArgs false
set_option linter.unusedVariables false

theorem rtext_t (s : List UInt8) (hs : s.length ≤ 140737488351232) (w : World) : Calls Try.prog 22 #[.string ⟨s.toArray⟩] w (StrOut w (textB s)) := rtext_any s hs w

set_option maxHeartbeats 1000000 in
theorem rlist_any (A : Option Addr) (l : List (List UInt8)) (c : Nat) (w : World) (hb : Ss w A l) (hn : l.length ≤ 4096) (hs : ∀ s ∈ l, s.length ≤ 140737488351232) :
    Calls Try.prog 26 #[.slice A l.length c] w (StrOut w (listB l)) := by
  have HS0 := hide hs
  clear hs
  go_enter Try.func26, Try.ntmps26
  go_wp2_with (go_at_call 19; refine (rput_any l.length (by omega) (by omega) _).mono ?_; rintro e w1 ⟨rfl, hbel⟩)
  rw [← preB_zero]
  go_loopw [3, 4] (fun o i wr => ∃ (k : Nat), k ≤ l.length ∧ i = .int .i64 k ∧ o = .string ⟨(preB l k).toArray⟩ ∧ Below w.heap.size w wr) (fun _ i _ => l.length - (intOf i).toNat)
  case atStart => exact ⟨0, Nat.zero_le _, rfl, rfl, hbel⟩
  case round =>
    obtain ⟨k, hk, rfl, rfl, hbel'⟩ := hrel
    have hpl := preB_len l k hk (by omega) 140737488351232 (by omega) (fun s hm => HS0.out s (List.mem_of_mem_take hm))
    clear hbel
    by_cases hlt : k < l.length
    · have hlt' : (k : Int) < l.length := by omega
      have hsn := preB_succ l k hlt
      have hsk := HS0.out l[k] (List.getElem_mem hlt)
      obtain ⟨b, off, rfl, hbl, hcell⟩ := hb.cell (by omega)
      have hc := (hbel'.cell (p := ⟨b, off + k, none⟩) hbl).trans (hcell k hlt)
      clear hcell
      generalize hsE : l[k] = s at hsn hsk hc
      have HS := hide hsn; have HE := hide hsE; clear hsn hsE
      have htl := textB_len s (by omega)
      have hsum : (preB l k).length + (textB s).length ≤ 9223372036854775807 := by
        have : k * (140737488351232 + 10) ≤ 4096 * (140737488351232 + 10) := Nat.mul_le_mul_right _ (by omega)
        omega
      go_wp2_with (go_at_call 22; refine (rtext_t s hsk _).mono ?_; rintro e w2 ⟨rfl, hb2⟩)
      go_roundw
      case rel => exact ⟨k + 1, by omega, by go_num, by rw [HS.out, ← ByteArray.mk_append_mk], hbel'.trans (hb2.mono hbel'.size)⟩
      case measure => simp [intOf]; omega
    · have hk' : k = l.length := by omega
      subst hk'
      have HF := hide (preB_all l)
      go_wp2_with fail
      go_ret
      exact ⟨by rw [← HF.out]; rfl, hbel'⟩

set_option maxHeartbeats 2000000 in
theorem rcutlist_any (l : List UInt8) (most : Int) (m : Nat) (hmost : (most < 0 ∧ m = 255) ∨ (255 < most ∧ m = 255) ∨ (most = m ∧ m ≤ 255)) (w : World) (hl : l.length ≤ 34359738368) :
    Calls Try.prog 28 #[.string ⟨l.toArray⟩, .int .i64 most] w (ListOut w (cutListL l m)) := by
  have hn := cut_n l
  have hv := cut_lt l
  go_enter Try.func28, Try.ntmps28
  rcases hmost with ⟨hmo, hm⟩ | ⟨hmo, hm⟩ | ⟨rfl, hm⟩
  all_goals
    by_cases he : (cut l).2.2 = 0
    · have he' : (((cut l).2.2 : Int) != 0) = false := by rw [he]; rfl
      by_cases hv1 : m < (cut l).1
      · have hv1' : (m : Int) < ((cut l).1 : Int) := by omega
        have HF := hide (show cutListL l m = ([], 0, 8) from by unfold cutListL; rw [if_neg (by omega), if_pos hv1])
        have He := hide he; clear he
        go_wp2_with (go_at_call 16; refine (rcut_any l w hl).mono ?_; rintro e w' ⟨rfl, rfl⟩)
        go_ret3
        rw [HF.out]; exact ⟨_, _, rfl, Rd.empty _ _ _, Below.refl _ _⟩
      · have hv1' : ¬ (m : Int) < ((cut l).1 : Int) := by omega
        have HF := hide (show cutListL l m = cutTexts (cut l).1 l (cut l).2.1 from by unfold cutListL; rw [if_neg (by omega), if_neg hv1])
        have He := hide he; clear he
        go_wp2_with (go_at_call 16; refine (rcut_any l w hl).mono ?_; rintro e w' ⟨rfl, rfl⟩)
        go_loopw [8, 10] (fun at_ o wr => ∃ (a : Nat) (xs : List (List UInt8)) (A' : Option Addr) (cap' : Nat), xs.length ≤ (cut l).1 ∧ at_ = .int .i64 a ∧ a ≤ l.length ∧ o = .slice A' xs.length cap' ∧
          wr.ownsRow w.heap.size 9 1 (.slice A' xs.length cap') xs.length (xs.map cS) ∧ Below w.heap.size w wr ∧ joinT xs (cutTexts ((cut l).1 - xs.length) l a) = cutTexts (cut l).1 l (cut l).2.1)
          (fun _ o _ => (cut l).1 - lenOf o)
        case atStart => exact ⟨(cut l).2.1, [], none, 0, Nat.zero_le _, rfl, by omega, rfl, World.ownsRow_nil _ _ _ _, Below.refl _ _, joinT_nil _ _ _⟩
        case round =>
          obtain ⟨a, xs, A', cap', hk, rfl, ha, rfl, hown, hbel, hj⟩ := hrel
          have hbs := hbel.size
          by_cases hlt : xs.length < (cut l).1
          · have hlt' : (xs.length : Int) < ((cut l).1 : Int) := by omega
            have hsl := run_strCutL Try.underlying9 l a ha (a : Int) rfl wr
            have hct := rcuttext_any (l.drop a) wr (by simp; omega)
            have htn := cutText_n (l.drop a)
            rw [List.length_drop] at htn
            have hsub : (cut l).1 - xs.length = ((cut l).1 - (xs.length + 1)) + 1 := by omega
            rw [hsub] at hj
            have HT := hide hct; clear hct hsub
            by_cases het : (CutText (l.drop a)).2.2 = 0
            · have het' : (((CutText (l.drop a)).2.2 : Int) != 0) = false := by rw [het]; rfl
              rw [joinT_step _ _ _ _ het] at hj
              have HJ := hide hj; have HE := hide het; clear hj het
              go_wp2_with (first
                | (go_at_call 24; refine (unhide HT).mono ?_; rintro e w' ⟨rfl, rfl⟩)
                | (at_builtin; refine wpList_app1 _ rfl (.tmp 49) (.tmp 51) _ rfl w w.heap.size 9 _ _ 16 Try.underlying51 info_str rfl (by omega) _ _ _ (cS (CutText (l.drop a)).1) rfl rfl rfl hown hbel hbs (by omega) ?_; intro g cap w1 hown1 hbel1))
              go_roundw
              case rel =>
                refine ⟨a + (CutText (l.drop a)).2.1, xs ++ [(CutText (l.drop a)).1], some ⟨g, 0, none⟩, cap, by simp; omega, by go_num, by omega, by simp, by simpa using hown1, hbel1, by simpa using HJ.out⟩
              case measure => simp [lenOf]; omega
            · have het' : (((CutText (l.drop a)).2.2 : Int) != 0) = true := by rw [bne_iff_ne]; omega
              rw [joinT_err _ _ _ _ het] at hj
              have HJ := hide hj; have HE := hide het; clear hj het
              go_wp2_with (go_at_call 24; refine (unhide HT).mono ?_; rintro e w' ⟨rfl, rfl⟩)
              go_ret3
              rw [HF.out, ← HJ.out]; exact ⟨_, _, rfl, Rd.empty _ _ _, hbel⟩
          · have hk' : (cut l).1 - xs.length = 0 := by omega
            rw [hk'] at hj
            have HJ := hide (show cutTexts (cut l).1 l (cut l).2.1 = (xs, a, 0) from by rw [← hj]; simp [joinT, cutTexts])
            clear hj hk'
            go_wp2_with fail
            go_ret3
            rw [HF.out, HJ.out]
            exact ⟨_, _, rfl, Rd.of_own hown, hbel⟩
    · have he' : (((cut l).2.2 : Int) != 0) = true := by rw [bne_iff_ne]; omega
      have HF := hide (show cutListL l m = ([], 0, (cut l).2.2) from by unfold cutListL; rw [if_pos he])
      go_wp2_with (go_at_call 16; refine (rcut_any l w hl).mono ?_; rintro e w' ⟨rfl, rfl⟩)
      go_ret3
      rw [HF.out]; exact ⟨_, _, rfl, Rd.empty _ _ _, Below.refl _ _⟩

set_option maxHeartbeats 1000000 in
/-- two lists that are the same -/
theorem same_any (A B : Option Addr) (l : List (List UInt8)) (c d : Nat) (w : World) (ha : Ss w A l) (hb : Ss w B l) (hl : l.length ≤ 34359738368) :
    Calls Try.prog 30 #[.slice A l.length c, .slice B l.length d] w fun e w' => e = .returned (.bool true) ∧ Gr w w' := by
  go_enter Try.func30, Try.ntmps30
  go_wp2_with fail
  go_loopw [5] (fun i wr => ∃ (k : Nat), k ≤ l.length ∧ i = .int .i64 k ∧ Gr w wr) (fun i _ => l.length - (intOf i).toNat)
  case atStart => exact ⟨0, Nat.zero_le _, rfl, Gr.refl _⟩
  case round =>
    obtain ⟨k, hk, rfl, hg⟩ := hrel
    by_cases hlt : k < l.length
    · have hlt' : (k : Int) < l.length := by omega
      have h0k : (0 : Int) ≤ k := by omega
      obtain ⟨b, off, rfl, hbl, hcell⟩ := ha.cell (by omega)
      obtain ⟨b', off', rfl, hbl', hcell'⟩ := hb.cell (by omega)
      have hc := (hg.cell (p := ⟨b, off + k, none⟩) hbl).trans (hcell k hlt)
      have hc' := (hg.cell (p := ⟨b', off' + k, none⟩) hbl').trans (hcell' k hlt)
      clear hcell hcell'
      generalize hsE : l[k] = s at hc hc'
      have HE := hide hsE; clear hsE
      go_wp2_with fail
      go_quiet (fail)
      go_wp2_with fail
      go_roundw
      case rel => exact ⟨k + 1, by omega, by go_num, hg.trans (below_drewN (Below.refl _ _) _)⟩
      case measure => simp [intOf]; omega
    · go_wp2_with fail
      go_ret
      exact ⟨rfl, hg⟩
end Go.Proofs.Ytnoahfhnmiibgaa
