/-
  The walk of RingVoices.
-/
import Derived.Test.YtllfdnfiicnmiaaRg13
import Derived.StillTailTactics
namespace Go.Proofs.Ytllfdnfiicnmiaa
open Go.RowKit
set_option maxRecDepth 100000
set_option linter.unusedSimpArgs false
set_option linter.unusedVariables false

theorem spokeL_pre (sp : Nat → Bool) {m : Nat} : ∀ M, m ≤ M → ∃ r, spokeL sp M = spokeL sp m ++ r
  | 0, h => ⟨[], by rw [show m = 0 from by omega]; simp⟩
  | M + 1, h => by
    by_cases hm : m = M + 1
    · exact ⟨[], by rw [hm]; simp⟩
    · obtain ⟨r, hr⟩ := spokeL_pre sp (m := m) M (by omega)
      cases hs : sp M with
      | true => exact ⟨r ++ [(M : Int)], by rw [spokeL_yes hs, hr, List.append_assoc]⟩
      | false => exact ⟨r, by rw [spokeL_no hs, hr]⟩
theorem spokeL_at {sp : Nat → Bool} {m M : Nat} (h : m < M) (hs : sp m = true) : (spokeL sp M)[(spokeL sp m).length]? = some (m : Int) := by
  obtain ⟨r, hr⟩ := spokeL_pre sp (m := m + 1) M h
  rw [hr, spokeL_yes hs]
  simp
theorem badB_range {n : Int} {bad : List Bool} {p : Int} (h : badB n bad p = true) : 0 ≤ p ∧ p < n := by
  unfold badB at h
  simp only [Bool.and_eq_true, decide_eq_true_eq] at h
  exact h.1
theorem sayL_range {n : Int} {bad : List Bool} {L : List Stm} {a : Int} {x : Stm} (h : ∀ s ∈ L, 0 ≤ s.f ∧ s.f < n) : ∀ s ∈ sayL n bad L a x, 0 ≤ s.f ∧ s.f < n := by
  unfold sayL
  by_cases h1 : (!(decide (0 ≤ a) && decide (a < n))) = true
  · rw [if_pos h1]; exact h
  · rw [if_neg h1]
    by_cases h2 : x.f ≠ a ∧ ¬ (badB n bad a = true ∧ badB n bad x.f = true)
    · rw [if_pos h2]; exact h
    · rw [if_neg h2]
      by_cases h5 : x ∈ L
      · rw [if_pos h5]; exact h
      · rw [if_neg h5]
        by_cases h6 : 65536 ≤ L.length
        · rw [if_pos h6]; exact h
        · rw [if_neg h6]
          intro s hs
          rcases List.mem_append.1 hs with hs | hs
          · exact h s hs
          · rw [List.mem_singleton.1 hs]
            by_cases h3 : x.f = a
            · rw [h3]
              by_cases h7 : 0 ≤ a
              · by_cases h8 : a < n
                · exact ⟨h7, h8⟩
                · rw [decide_eq_false h8] at h1; simp at h1
              · rw [decide_eq_false h7] at h1; simp at h1
            · have : badB n bad a = true ∧ badB n bad x.f = true := by
                by_cases h4 : badB n bad a = true ∧ badB n bad x.f = true
                · exact h4
                · exact absurd ⟨h3, h4⟩ h2
              exact badB_range this.2

theorem rv_m : mayR 7 (fewN [5, 6]) = true := by decide
theorem rv_m2 : mayR 7 [5, 6] = true := by decide
theorem rv_ring2 {w : World} {A : Option Addr} (hN : Ns w A [5, 6]) : Calls Try.prog 6 #[.int .i64 7, .slice A 2 2] w fun e w' =>
    ∃ g b, e = .returned (.tuple #[.pointer (some ⟨g, 0, none⟩), .agg #[.int .i64 7, .slice A 2 2, .slice none 0 0], .bool true]) ∧ RgIs w.heap.size w' g b none 0 7 (badsL [5, 6]) [] ∧ Below w.heap.size w w' :=
  (ring2_any (n := 7) (c := 2) hN (by simp)).mono fun e w' hx => by
    obtain ⟨g, b, h1, h2⟩ := hx.1 rv_m
    exact ⟨g, b, h1, h2, hx.2.2⟩
theorem rv_start {W0 w2 : World} {g b : Nat} {n : Int} {A1 : Option Addr} {bads : List Int} {c1 : Nat} (hR : RgIs W0.heap.size w2 g b none 0 n (badsL bads) []) (hb : Below W0.heap.size W0 w2) :
    RV W0 g b w2.heap.size n A1 bads c1 none 0 [] none 0 [] (w2.alloc (.cells #[.int .i64 n, .slice A1 bads.length c1, .slice none 0 0] 29)) :=
  ⟨hR.below (gr1 _ _), Blk.new w2 _ _, Fs.empty _ _, fun i hi => ⟨by have := hR.mine_lt i hi; omega, fun o e => by cases e⟩, fun i o e => by (cases e), below_trans hb (gr1 _ _), hb.size⟩

set_option maxHeartbeats 8000000 in
theorem ringVoices_any {w : World} (B : Option Addr) (l : List Sd) (cl : Nat) (C : Option Addr) (names : List Stm) (d : Nat) (f k v q t : Int) (hF : Fs Sd.cells 6 w B l) (hcl : l.length ≤ cl) (hok : ∀ x ∈ l, StmOk x.s) (hN : Fs Stm.cells 5 w C names) (hd : names.length ≤ d) (hnok : ∀ s ∈ names, StmOk s) :
    Calls Try.prog 3 #[.slice B l.length cl, .slice C names.length d, .agg #[.int .i64 f, .int .i64 k, .int .i64 v, .int .i64 q, .int .i64 t]] w fun e w' => e = .returned (.bool true) ∧ Below w.heap.size w w' := by
  obtain ⟨W, hW⟩ : ∃ W, W = (w.alloc (.cells #[.int .i64 f, .int .i64 k, .int .i64 v, .int .i64 q, .int .i64 t] 25)).alloc (.cells #[.int .i64 5, .int .i64 6] 3) := ⟨_, rfl⟩
  have hb0 : Below w.heap.size w W := by rw [hW]; exact below_trans (gr1 _ _) (gr1 _ _)
  have hX : Blk W w.heap.size 25 #[.int .i64 f, .int .i64 k, .int .i64 v, .int .i64 q, .int .i64 t] := by rw [hW]; exact (Blk.new w _ _).alloc _
  have hNS : Ns W (some ⟨w.heap.size + 1, 0, none⟩) [5, 6] := by
    rw [hW]
    exact rd_newN (w.alloc (.cells #[.int .i64 f, .int .i64 k, .int .i64 v, .int .i64 q, .int .i64 t] 25)) (w.heap.size + 1) 1 2 3 #[.int .i64 5, .int .i64 6] rfl (by simp)
  have hFW : Fs Sd.cells 6 W B (l.take 120) := (hF.below hb0).take (fun _ => rfl) 120
  have hCW : Fs Stm.cells 5 W C (names.take 100) := (hN.below hb0).take (fun _ => rfl) 100
  have HB0 := hide hb0
  have HOK := hide (show ∀ x ∈ l.take 120, StmOk x.s from fun x hx => hok x (List.mem_of_mem_take hx))
  have HNOK := hide (show ∀ x ∈ names.take 100, StmOk x from fun x hx => hnok x (List.mem_of_mem_take hx))
  have HM := hide (show (l.take 120).length ≤ 120 from by rw [List.length_take]; omega)
  have HNM := hide (show (names.take 100).length ≤ 100 from by rw [List.length_take]; omega)
  have HFEW := hide (fun w => few_any B l cl w hcl)
  have HR2 := hide (rv_ring2 hNS)
  have HX := hide hX; have HF := hide hFW; have HC := hide hCW; have HNS := hide hNS
  clear hX hFW hCW hok hnok hF hN hb0 hcl hNS
  generalize hm : l.take 120 = m at HOK HM HFEW HF
  clear hm
  by_cases hn : 100 < names.length
  all_goals
    first
    | have hn' : (100 : Int) < names.length := by omega
      have hx := fun w => run_cutH Try.underlying23 size_stm C names.length d (names.take 100).length (by rw [List.length_take]; omega) 100 (by rw [List.length_take, Nat.min_eq_left (by omega)]; rfl) w
      generalize names.take 100 = nm at HNOK HNM HC hx
      clear hn
    | have hn' : ¬ (100 : Int) < names.length := by omega
      rw [List.take_of_length_le (by omega)] at HNOK HNM HC
      have hd2 := hd
      clear hn
      obtain ⟨nm, rfl⟩ : ∃ nm, nm = names := ⟨_, rfl⟩
    clear hd
    go_enter Try.func3, Try.ntmps3
    go_wp2_with fail
    rw [← hW]
    clear hW
    go_wp2_with (first
      | (go_at_call 7; refine (HFEW.out _).mono ?_; rintro e w3 ⟨rfl, rfl⟩)
      | (go_at_call 6; refine HR2.out.mono ?_; rintro e w2 ⟨g, b, rfl, hR2, hb2⟩; have HRV0 := hide (rv_start (A1 := some ⟨w.heap.size + 1, 0, none⟩) (bads := [5, 6]) (c1 := 2) hR2 hb2); clear hR2 hb2))
    (try clear hx)
    (try clear hn')
    go_loopw [10] (fun i wr => ∃ (j : Nat) (L : List Stm) (A' : Option Addr) (c' : Nat) (A2 : Option Addr) (c2 : Nat), j ≤ m.length ∧ i = .int .i64 j ∧ RV W g b w2.heap.size 7 (some ⟨w.heap.size + 1, 0, none⟩) [5, 6] 2 A' c' L A2 c2 L wr ∧ L.length ≤ j ∧ (∀ s ∈ L, 0 ≤ s.f ∧ s.f < 7)) (fun i _ => m.length - (intOf i).toNat)
    case atStart => exact ⟨0, [], none, 0, none, 0, Nat.zero_le _, rfl, HRV0.out, Nat.le_refl _, by simp⟩
    case round =>
      obtain ⟨j, L, A', c', A2, c2, hj, rfl, hrv, hL, hrange⟩ := hrel
      have HRV := hide hrv; have HRG := hide hrange
      clear hrv hrange
      by_cases hlt : j < m.length
      · have hlt' : (j : Int) < m.length := by omega
        have hml : m.length ≤ 120 := HM.out
        obtain ⟨b1, off, rfl, hbl, hcell⟩ := HF.out.cell sd6 (by omega)
        obtain ⟨c0, c1, c2', c3, c4, c5⟩ := sixS hcell HRV.out.below hbl hlt
        have HC6 := hide (fun (wr : World) (hb : Below W.heap.size W wr) => sixS hcell hb hbl hlt)
        clear hcell
        have HOKJ := hide (HOK.out _ (List.getElem_mem hlt))
        have HLEN := hide (Nat.le_trans (sayL_len 7 (badsL [5, 6]) L m[j].a m[j].s) (Nat.succ_le_succ hL))
        have HRNG := hide (sayL_range (bad := badsL [5, 6]) (a := m[j].a) (x := m[j].s) HRG.out)
        have HSAY := hide (rv_say HRV.out.drew m[j].a m[j].s HOKJ.out)
        have HREF := hide (fun (A' : Option Addr) (c' : Nat) (Lr : List Stm) (w' : World) (h : RV W g b w2.heap.size 7 (some ⟨w.heap.size + 1, 0, none⟩) [5, 6] 2 A' c' Lr A2 c2 L w') => rv_ref h.drew m[j].a m[j].s HNS.out (by simp) (by omega) rv_m2)
        generalize m[j] = x at c0 c1 c2' c3 c4 c5 HOKJ HLEN HRNG HSAY HREF HC6
        obtain ⟨xa, xf, xk, xv, xq, xt⟩ := x
        generalize sayE 7 (badsL [5, 6]) L (Sd.a ⟨xa, xf, xk, xv, xq, xt⟩) (Sd.s ⟨xa, xf, xk, xv, xq, xt⟩) = r at HSAY HREF
        generalize sayL 7 (badsL [5, 6]) L (Sd.a ⟨xa, xf, xk, xv, xq, xt⟩) (Sd.s ⟨xa, xf, xk, xv, xq, xt⟩) = L2 at HSAY HLEN HRNG HREF
        go_wp2_with fail
        go_still_tail 11, (by kernel_rfl)
        go_wp2_with (go_at_call 8; refine HSAY.out.mono ?_; rintro e w4 ⟨rfl, Ar, cr, hRV4⟩; have HRV4 := hide hRV4; clear hRV4 c0 c1 c2' c3 c4 c5)
        obtain ⟨d0, d1, d2, d3, d4, d5⟩ := HC6.out w4 HRV4.out.below
        obtain ⟨r0, r1, r2, rf0, rf1, rf2⟩ := HRV4.out.cells
        go_region_with (go_at_call 9; refine (HREF.out _ _ _ _ HRV4.out).mono ?_; rintro e w5 ⟨A3, c3, rfl, hRV5, q0, q1, q2, qf0, qf1, qf2⟩; have HRV5 := hide hRV5; clear hRV5 d0 d1 d2 d3 d4 d5 r0 r1 r2 rf0 rf1 rf2)
        all_goals go_wp2_with fail
        all_goals exact ⟨⟨j + 1, L2, Ar, cr, A3, c3, by omega, by go_num, HRV5.out, HLEN.out, HRNG.out⟩, by simp [intOf]; omega⟩
      · have hlt' : ¬ (j : Int) < m.length := by omega
        have hL2 : L.length ≤ 120 := by have := HM.out; omega
        obtain ⟨e0, e1, e2, e3, e4⟩ := box5 HX.out HRV.out.below
        have HVO := hide (voices_any HRV.out.ring (fun s hs => by have := HRG.out s hs; omega) C nm d (HC.out.below HRV.out.below) (by have := HNM.out; omega) HNOK.out f k v q t)
        have HVR := hide (fun (p : Nat) (w' : World) (h : Below wr.heap.size wr w') => rvoice_any 7 (.slice (some ⟨w.heap.size + 1, 0, none⟩) 2 2) A2 L c2 C nm d f k v q t p w' (HRV.out.fs.below h) (by omega) (HC.out.below (below_trans HRV.out.below h)) (by have := HNM.out; omega) ⟨_, _, _, rfl⟩)
        obtain ⟨sp, hsp⟩ : ∃ sp : Nat → Bool, sp = fun (i : Nat) => voiceB L nm k v q t i := ⟨_, rfl⟩
        have HVR2 := hide (show ∀ (p : Nat) (w' : World), Below wr.heap.size wr w' → Calls Try.prog 11 #[.agg #[.int .i64 7, .slice (some ⟨w.heap.size + 1, 0, none⟩) 2 2, .slice A2 L.length c2], .slice C nm.length d, .agg #[.int .i64 f, .int .i64 k, .int .i64 v, .int .i64 q, .int .i64 t], .int .i64 p] w' fun e w'' => e = .returned (.bool (sp p)) ∧ Below w'.heap.size w' w'' from by
          intro p w' h; rw [hsp]; exact HVR.out p w' h)
        rw [← hsp] at HVO
        clear hsp HVR
        generalize hgot : spokeL sp 64 = got at HVO
        have HAT := hide (fun p (hp : p < 64) (hs : sp p = true) => hgot ▸ spokeL_at (M := 64) hp hs)
        have HGL := hide (show got.length = (spokeL sp 64).length from by rw [hgot])
        clear hgot
        go_wp2_with (go_at_call 10; refine HVO.out.mono ?_; rintro e w6 ⟨Ag, cg, rfl, hown6, hb6⟩; have HG := hide (show Ns w6 Ag got from Rd.of_own hown6); have HB6 := hide hb6; clear hown6 hb6 e0 e1 e2 e3 e4)
        have hgl64 : got.length ≤ 64 := by rw [HGL.out]; exact spokeL_len sp 64
        go_loopw [12, 13] (fun kk pp wr => ∃ p : Nat, p ≤ 64 ∧ pp = .int .i64 p ∧ kk = .int .i64 (spokeL sp p).length ∧ Below w6.heap.size w6 wr) (fun _ pp _ => 64 - (intOf pp).toNat)
        case atStart => exact ⟨0, Nat.zero_le _, rfl, rfl, Below.refl _ _⟩
        case round =>
          obtain ⟨p, hp, rfl, rfl, hbl2⟩ := hrel
          rename World => wl
          have HBL := hide hbl2
          have HB2 := hide (below_trans HB6.out hbl2)
          clear hbl2
          by_cases hlt2 : p < 64
          · have hlt2' : (p : Int) < 64 := by omega
            obtain ⟨r0, r1, r2, rf0, rf1, rf2⟩ := (HRV.out.step HB2.out).cells
            obtain ⟨e0, e1, e2, e3, e4⟩ := box5 HX.out (below_trans HRV.out.below HB2.out)
            have hv := HVR2.out p wl HB2.out
            cases hs : sp p with
            | true =>
              have HSY := hide (show (spokeL sp (p + 1)).length = (spokeL sp p).length + 1 from by rw [spokeL_yes hs]; simp)
              have hat := HAT.out p hlt2 hs
              rw [hs] at hv
              have HV := hide hv
              clear hv hs
              generalize (spokeL sp p).length = kk at hat HSY
              obtain ⟨hkl, hke⟩ := List.getElem?_eq_some_iff.1 hat
              have HKL := hide hkl
              have hkl' : (kk : Int) < got.length := by omega
              have hdg : decide ((got.length : Int) ≤ (kk : Int)) = false := decide_eq_false (by omega)
              obtain ⟨bg, og, rfl, hbg, hcg⟩ := HG.out.cell (by omega)
              have hc0 := hcg kk hkl
              rw [hke] at hc0
              have HC0 := hide hc0
              clear hc0 hcg hke hat
              go_wp2_with (go_at_call 11; refine HV.out.mono ?_; rintro e w7 ⟨rfl, hb7⟩; have HB7 := hide (below_trans HBL.out hb7); have hc7 := (HB7.out.cell (p := ⟨bg, og + kk, none⟩) hbg).trans HC0.out; clear hb7 r0 r1 r2 rf0 rf1 rf2 e0 e1 e2 e3 e4)
              exact ⟨⟨p + 1, by omega, by go_num, by rw [HSY.out]; go_num, HB7.out⟩, by simp [intOf]; omega⟩
            | false =>
              have HSN := hide (show (spokeL sp (p + 1)).length = (spokeL sp p).length from by rw [spokeL_no hs])
              rw [hs] at hv
              have HV := hide hv
              clear hv hs
              generalize (spokeL sp p).length = kk at HSN
              go_wp2_with (go_at_call 11; refine HV.out.mono ?_; rintro e w7 ⟨rfl, hb7⟩; have HB7 := hide (below_trans HBL.out hb7); clear hb7 r0 r1 r2 rf0 rf1 rf2 e0 e1 e2 e3 e4)
              exact ⟨⟨p + 1, by omega, by go_num, by rw [HSN.out], HB7.out⟩, by simp [intOf]; omega⟩
          · have hlt2' : ¬ (p : Int) < 64 := by omega
            have hpe : p = 64 := by omega
            have hkk : (spokeL sp p).length = got.length := by rw [hpe, HGL.out]
            rw [hkk]
            clear hpe hkk
            go_wp2_with (go_at_call 12; refine (awake_any _).mono ?_; rintro e w7 ⟨rfl, hb7⟩)
            go_ret
            exact ⟨rfl, below_trans HB0.out (below_trans HRV.out.below (below_trans HB2.out hb7))⟩
theorem walk_RingVoices (w : World) (B : Option Addr) (l : List Sd) (cl : Nat) (hF : Fs Sd.cells 6 w B l) (hcl : l.length ≤ cl) (_ : cl ≤ maxLen) (hok : ∀ x ∈ l, StmOk x.s) (C : Option Addr) (names : List Stm) (d : Nat) (hN : Fs Stm.cells 5 w C names) (hd : names.length ≤ d) (_ : d ≤ maxLen) (hnok : ∀ s ∈ names, StmOk s) (f k v q t : Int) (_ : StmOk ⟨f, k, v, q, t⟩) :
    Calls Try.prog 3 #[.slice B l.length cl, .slice C names.length d, .agg #[.int .i64 f, .int .i64 k, .int .i64 v, .int .i64 q, .int .i64 t]] w fun e w' => e = .returned (.bool true) ∧ Below w.heap.size w w' :=
  ringVoices_any B l cl C names d f k v q t hF hcl hok hN hd hnok
end Go.Proofs.Ytllfdnfiicnmiaa
