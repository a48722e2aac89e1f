/-
  The walk of the law VarintLists.
-/
import Derived.Test.YtnoahfhnmiibgaaVlist2
namespace Go.Proofs.Ytnoahfhnmiibgaa
open Go.RowKit
set_option linter.unusedSimpArgs false
set_option linter.unusedVariables false

theorem cutTexts_n : ∀ (n : Nat) (l : List UInt8) (a : Nat), a ≤ l.length → (cutTexts n l a).2.2 ≤ 8 ∧ (cutTexts n l a).2.1 ≤ l.length ∧ (cutTexts n l a).1.length ≤ n
  | 0, l, a, ha => by simp [cutTexts]; exact ha
  | n + 1, l, a, ha => by
    have h1 := cutText_n (l.drop a)
    rw [List.length_drop] at h1
    have h2 := cutTexts_n n l (a + (CutText (l.drop a)).2.1) (by omega)
    rw [cutTexts]
    split
    · simp only [List.length_nil]; omega
    · split
      · simp only [List.length_nil]; omega
      · simp only [List.length_cons]; omega
theorem cutListL_n (l : List UInt8) (m : Nat) (hm : m ≤ 255) : (cutListL l m).2.2 ≤ 8 ∧ (cutListL l m).2.1 ≤ l.length ∧ (cutListL l m).1.length ≤ 255 := by
  have h := cut_n l
  unfold cutListL
  split
  · simp only [List.length_nil]; omega
  · split
    · simp
    · have := cutTexts_n (cut l).1 l (cut l).2.1 (by omega)
      omega
theorem take_snoc' {α : Type} (l : List α) (k : Nat) (h : k < l.length) : l.take (k + 1) = l.take k ++ [l[k]] := List.take_succ_eq_append_getElem h
/-- what the law wants behind k rounds -/
def wantB (L : List (List UInt8)) (k : Nat) : List UInt8 := if (L.take k).all (fun s => s.length ≤ 255) then listB L else []
theorem wantB_step (L : List (List UInt8)) (k : Nat) (h : k < L.length) : wantB L (k + 1) = if L[k].length ≤ 255 then wantB L k else [] := by
  unfold wantB
  rw [take_snoc' L k h, List.all_append]
  by_cases h1 : L[k].length ≤ 255
  · simp [h1]
  · simp [h1]
theorem wantB_all (L : List (List UInt8)) (h : L.length ≤ 255) : wantB L L.length = putListL L := by
  unfold wantB putListL
  rw [List.take_length]
  by_cases h1 : ∀ s ∈ L, s.length ≤ 255
  · rw [if_pos (by simpa using h1), if_pos ⟨h, h1⟩]
  · rw [if_neg (by simpa using h1), if_neg (fun x => h1 x.2)]

set_option maxHeartbeats 4000000 in
theorem walk_VarintLists (w : World) (A : Option Addr) (l0 : List (List UInt8)) (c : Nat) (hb0 : Ss w A l0) (hlc0 : l0.length ≤ c) (hcm : c ≤ maxLen) (hs0 : ∀ s ∈ l0, s.length ≤ 140737488351232)
    (B : Option Addr) (b0 : List UInt8) (d : Nat) (hB0 : Bs w B b0) (hbd0 : b0.length ≤ d) (hdm : d ≤ maxLen) (most : Int) (hm0 : -9223372036854775808 ≤ most) (hm1 : most < 9223372036854775808) :
    Calls Try.prog 9 #[.slice A l0.length c, .slice B b0.length d, .int .i64 most] w fun e w' => e = .returned (.bool true) ∧ Below w.heap.size w w' := by
  have hcm' : c ≤ 9223372036854775807 := by unfold maxLen at hcm; omega
  have HFew := hide (few_any B b0 d w hB0 hbd0 hdm)
  have HB := hide (hB0.take 2000)
  have hl : (b0.take 2000).length ≤ 2000 := by simp; omega
  have hlc : (b0.take 2000).length ≤ d := by simp; omega
  clear hB0 hbd0
  go_enter Try.func9, Try.ntmps9
  go_upto_if 17 with (fail)
  go_cut [0] (fun s0 wx => s0 = .slice A (l0.take 260).length c ∧ w = wx)
  case first =>
    by_cases h : 260 < l0.length
    · have h' : (260 : Int) < l0.length := by omega
      have ht : (l0.take 260).length = 260 := by simp; omega
      obtain ⟨b, off, rfl, hbl, hc⟩ := hb0.cell (by omega)
      have HT := hide ht; clear ht hc hs0
      go_wp2_with fail
      go_meet
      exact ⟨by rw [HT.out], rfl⟩
    · have h' : ¬ (260 : Int) < l0.length := by omega
      have HT := hide (List.take_of_length_le (show l0.length ≤ 260 by omega))
      clear hs0
      go_wp2_with fail
      go_meet
      exact ⟨by rw [HT.out], rfl⟩
  case rest =>
    obtain ⟨rfl, rfl⟩ := hcut
    have hS := hb0.take 260
    have hL : (l0.take 260).length ≤ 260 := by simp; omega
    have hs : ∀ s ∈ l0.take 260, s.length ≤ 140737488351232 := fun s h => hs0 s (List.mem_of_mem_take h)
    clear hb0 hlc0 hs0
    generalize l0.take 260 = L at hS hL hs ⊢
    have HL := hide (rlist_any A L c w hS (by omega) hs)
    clear hs
    go_wp2_with fail
    refine (unhide HFew).mono ?_
    rintro e w' ⟨rfl, rfl⟩
    generalize b0.take 2000 = bl at HB hl hlc ⊢
    clear HFew
    go_wp2_with fail
    refine (unhide HL).mono ?_
    rintro e w1 ⟨rfl, hb1⟩
    clear HL
    have hS1 := hS.below hb1
    have HB1 := hide ((unhide HB).below hb1)
    clear HB hS
    go_wp2_with fail
    rw [show listB L = wantB L 0 from by simp [wantB]]
    go_loopw [7, 8] (fun o i wr => ∃ (k : Nat), k ≤ L.length ∧ i = .int .i64 k ∧ o = .string ⟨(wantB L k).toArray⟩ ∧ w1 = wr ∧ ∀ s ∈ L.take k, s.length ≤ 3000) (fun _ i _ => L.length - (intOf i).toNat)
    case atStart => exact ⟨0, Nat.zero_le _, rfl, rfl, rfl, by simp⟩
    case round =>
      obtain ⟨k, hk, rfl, rfl, rfl, hall⟩ := hrel
      by_cases hlt : k < L.length
      · have hlt' : (k : Int) < L.length := by omega
        have hwb := wantB_step L k hlt
        have htake := take_snoc' L k hlt
        obtain ⟨b, off, rfl, hbl, hcell⟩ := hS1.cell (by omega)
        have hc := hcell k hlt
        clear hcell
        generalize hs : L[k] = s at hwb htake hc
        have HW := hide hwb; have HT := hide htake; have HE := hide hs; have HA := hide hall; clear hwb htake hs hall
        by_cases h3 : 3000 < s.length
        · have h3' : (3000 : Int) < s.length := by omega
          go_wp2_with (go_at_call 11; refine (awake_any _).mono ?_; rintro e w2 ⟨rfl, hb2⟩)
          go_ret
          exact ⟨rfl, Gr.trans hb1 hb2⟩
        · have h3' : ¬ (3000 : Int) < s.length := by omega
          have hall' : ∀ x ∈ L.take (k + 1), x.length ≤ 3000 := by
            intro x hx; rw [HT.out] at hx; rcases List.mem_append.1 hx with hx | hx
            · exact HA.out x hx
            · simp at hx; rw [hx]; omega
          have HA' := hide hall'; clear hall'
          by_cases h2 : 255 < s.length
          · have h2' : (255 : Int) < s.length := by omega
            go_wp2_with fail
            go_roundw
            case rel => exact ⟨k + 1, by omega, by go_num, by rw [HW.out, if_neg (by omega)], (by first | rfl | trivial), HA'.out⟩
            case measure => simp [intOf]; omega
          · have h2' : ¬ (255 : Int) < s.length := by omega
            go_wp2_with fail
            go_roundw
            case rel => exact ⟨k + 1, by omega, by go_num, by rw [HW.out, if_pos (by omega)], (by first | rfl | trivial), HA'.out⟩
            case measure => simp [intOf]; omega
      · have hk' : k = L.length := by omega
        subst hk'
        rw [List.take_length] at hall
        have hmost : ∃ m : Nat, (most < 0 ∧ m = 255) ∨ (255 < most ∧ m = 255) ∨ (most = m ∧ m ≤ 255) := by
          by_cases h0 : most < 0
          · exact ⟨255, .inl ⟨h0, rfl⟩⟩
          · by_cases h1 : 255 < most
            · exact ⟨255, .inr (.inl ⟨h1, rfl⟩)⟩
            · exact ⟨most.toNat, .inr (.inr ⟨by omega, by omega⟩)⟩
        obtain ⟨m, hmost⟩ := hmost
        have HM := hide hmost
        have hm : m ≤ 255 := by omega
        clear hmost hall
        have hcn := cutListL_n bl m hm
        have hpl : (if L.length ≤ 255 then wantB L L.length else []) = putListL L := by
          by_cases h : L.length ≤ 255
          · rw [if_pos h]; exact wantB_all L h
          · rw [if_neg h]; unfold putListL; rw [if_neg (fun x => h x.1)]
        have HPL := hide hpl
        clear hpl
        go_upto_if 45 with (fail)
        all_goals
          go_cut [7] (fun s7 wx => s7 = .string ⟨(putListL L).toArray⟩ ∧ w1 = wx)
          case first =>
            by_cases h : 255 < L.length
            · have h' : (255 : Int) < L.length := by omega
              have HP2 := hide (show putListL L = [] from by rw [← HPL.out, if_neg (by omega)])
              clear HPL
              go_wp2_with fail
              go_meet
              exact ⟨by rw [HP2.out], rfl⟩
            · have h' : ¬ (255 : Int) < L.length := by omega
              have HP2 := hide (show putListL L = wantB L L.length from by rw [← HPL.out, if_pos (by omega)])
              clear HPL
              go_wp2_with fail
              go_meet
              exact ⟨by rw [HP2.out], rfl⟩
          case rest =>
            obtain ⟨rfl, rfl⟩ := hcut
            clear HPL
            have hb := unhide HB1
            go_wp2_with fail
            refine (cutlist_any B bl d most m (unhide HM) w1 hb (by omega) hlc (by unfold maxLen at hdm; omega)).mono ?_
            rintro e w2 ⟨A2, c2, rfl, hs2, hb2⟩
            have hbb2 := hb.below hb2
            have hcv := run_str w2 B d bl hbb2
            clear hb hbb2
            go_wp2_with fail
            refine (rcutlist_any bl most m (unhide HM) w2 (by omega)).mono ?_
            rintro e w3 ⟨A3, c3, rfl, hs3, hb3⟩
            clear hcv
            go_wp2_with fail
            refine (putlist_any A L c w3 ((hS1.below hb2).below hb3)).mono ?_
            rintro e w4 ⟨A4, c4, rfl, hown4, hb4⟩
            have hcv := run_str w4 A4 c4 _ (Bs.of_own hown4)
            clear hown4
            go_wp2_with fail
            refine (same_any A2 A3 (cutListL bl m).1 c2 c3 w4 ((hs2.below hb3).below hb4) (hs3.below hb4) (by omega)).mono ?_
            rintro e w5 ⟨rfl, hb5⟩
            clear hcv
            go_wp2_with fail
            refine (awake_any _).mono ?_
            rintro e w6 ⟨rfl, hb6⟩
            go_wp2_with fail
            go_ret
            exact ⟨rfl, Gr.trans (Gr.trans (Gr.trans (Gr.trans (Gr.trans hb1 hb2) hb3) hb4) hb5) hb6⟩
end Go.Proofs.Ytnoahfhnmiibgaa
