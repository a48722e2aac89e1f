/-
  The walk of RingTrue.
-/
import Derived.Test.YtllfdnfiicnmiaaRg11
import Derived.StillTailTactics
namespace Go.Proofs.Ytllfdnfiicnmiaa
open Go.RowKit
set_option maxRecDepth 100000
set_option linter.unusedSimpArgs false
set_option linter.unusedVariables false

theorem sixS {w wr : World} {b off : Nat} {l : List Sd} {k : Nat} (hcell : ∀ i (hi : i < l.length) j u, j < 6 → (Sd.cells l[i])[j]? = some u → w.cell? ⟨b, off + i * 6 + j, none⟩ = some u) (hbel : Below w.heap.size w wr) (hbl : b < w.heap.size) (hk : k < l.length) :
    wr.cell? ⟨b, off + k * 6, none⟩ = some (.int .i64 l[k].a) ∧ wr.cell? ⟨b, off + k * 6 + 1, none⟩ = some (.int .i64 l[k].s.f) ∧ wr.cell? ⟨b, off + k * 6 + 2, none⟩ = some (.int .i64 l[k].s.k) ∧
    wr.cell? ⟨b, off + k * 6 + 3, none⟩ = some (.int .i64 l[k].s.v) ∧ wr.cell? ⟨b, off + k * 6 + 4, none⟩ = some (.int .i64 l[k].s.q) ∧ wr.cell? ⟨b, off + k * 6 + 5, none⟩ = some (.int .i64 l[k].s.t) :=
  ⟨(hbel.cell (p := ⟨b, off + k * 6, none⟩) hbl).trans (hcell k hk 0 _ (by omega) rfl), (hbel.cell (p := ⟨b, off + k * 6 + 1, none⟩) hbl).trans (hcell k hk 1 _ (by omega) rfl),
   (hbel.cell (p := ⟨b, off + k * 6 + 2, none⟩) hbl).trans (hcell k hk 2 _ (by omega) rfl), (hbel.cell (p := ⟨b, off + k * 6 + 3, none⟩) hbl).trans (hcell k hk 3 _ (by omega) rfl),
   (hbel.cell (p := ⟨b, off + k * 6 + 4, none⟩) hbl).trans (hcell k hk 4 _ (by omega) rfl), (hbel.cell (p := ⟨b, off + k * 6 + 5, none⟩) hbl).trans (hcell k hk 5 _ (by omega) rfl)⟩

theorem sayL_len (n : Int) (bad : List Bool) (L : List Stm) (a : Int) (s : Stm) : (sayL n bad L a s).length ≤ L.length + 1 := by
  unfold sayL
  repeat' split
  all_goals simp

/-- one said: what the law's own word is behind it -/
def saidB (sd : Bool) (e : Nat) (xa : Int) (xs s : Stm) : Bool := if e = 0 then sd || (decide (xa = s.f) && decide (xs = s)) else sd
theorem true_step {n : Int} {bad : List Bool} {L : List Stm} {sd : Bool} {xa : Int} {xs s : Stm} (hl : L.length < 65536) (hb : badB n bad s.f = false) (h : decide (s ∈ L) = sd) :
    decide (s ∈ sayL n bad L xa xs) = saidB sd (sayE n bad L xa xs) xa xs s := by
  subst h
  unfold sayL sayE saidB
  by_cases h1 : (!(decide (0 ≤ xa) && decide (xa < n))) = true
  · simp only [h1, if_true]; rfl
  · simp only [h1]
    by_cases h2 : xs.f ≠ xa ∧ ¬ (badB n bad xa = true ∧ badB n bad xs.f = true)
    · simp [h2]
    · by_cases h3 : xs ∈ L
      · simp only [h2, h3, if_true, if_false, Bool.false_eq_true]
        by_cases h4 : xs = s
        · subst h4; simp [h3]
        · simp [h4]
      · simp only [h2, h3, if_false, show ¬ 65536 ≤ L.length from by omega, if_true, Bool.false_eq_true]
        by_cases h4 : xs = s
        · subst h4
          have : xa = xs.f := by
            by_cases h5 : xs.f = xa
            · exact h5.symm
            · exact absurd ⟨h5, fun h6 => by rw [hb] at h6; exact absurd h6.2 (by simp)⟩ h2
          simp [this]
        · have h4' : ¬ s = xs := fun e => h4 e.symm
          simp [h4, h4']

theorem RgIs.drew {base : Nat} {w : World} {g b : Nat} {A : Option Addr} {c : Nat} {n : Int} {bad : List Bool} {L : List Stm} (h : RgIs base w g b A c n bad L) : RgIs base w.drew g b A c n bad L :=
  ⟨h.blk, h.row, h.mp, h.ok, h.len, h.n1, h.n64, h.hg, h.hb⟩
theorem RgIs.drewN {base : Nat} {w : World} {g b : Nat} {A : Option Addr} {c : Nat} {n : Int} {bad : List Bool} {L : List Stm} (h : RgIs base w g b A c n bad L) (k : Nat) : RgIs base (w.drewN k) g b A c n bad L :=
  ⟨h.blk, h.row, h.mp, h.ok, h.len, h.n1, h.n64, h.hg, h.hb⟩
theorem box5 {W wr : World} {x : Nat} {f k v q t : Int} (hX : Blk W x 25 #[.int .i64 f, .int .i64 k, .int .i64 v, .int .i64 q, .int .i64 t]) (hb : Below W.heap.size W wr) :
    wr.cell? ⟨x, 0, none⟩ = some (.int .i64 f) ∧ wr.cell? ⟨x, 1, none⟩ = some (.int .i64 k) ∧ wr.cell? ⟨x, 2, none⟩ = some (.int .i64 v) ∧ wr.cell? ⟨x, 3, none⟩ = some (.int .i64 q) ∧ wr.cell? ⟨x, 4, none⟩ = some (.int .i64 t) := by
  have h : Blk wr x 25 #[.int .i64 f, .int .i64 k, .int .i64 v, .int .i64 q, .int .i64 t] := (hb.block _ hX.lt).trans hX
  exact ⟨by rw [h.cell]; rfl, by rw [h.cell]; rfl, by rw [h.cell]; rfl, by rw [h.cell]; rfl, by rw [h.cell]; rfl⟩
set_option maxHeartbeats 8000000 in
theorem ringTrue_any {w : World} (A : Option Addr) (bads : List Int) (cb : Nat) (B : Option Addr) (l : List Sd) (cl : Nat) (f k v q t : Int) (hN : Ns w A bads) (hcb : bads.length ≤ cb) (hF : Fs Sd.cells 6 w B l) (hcl : l.length ≤ cl) (hok : ∀ x ∈ l, StmOk x.s) (hs : StmOk ⟨f, k, v, q, t⟩) :
    Calls Try.prog 4 #[.slice A bads.length cb, .slice B l.length cl, .agg #[.int .i64 f, .int .i64 k, .int .i64 v, .int .i64 q, .int .i64 t]] w fun e w' => e = .returned (.bool true) ∧ Below w.heap.size w w' := by
  obtain ⟨W, hW⟩ : ∃ W, W = w.alloc (.cells #[.int .i64 f, .int .i64 k, .int .i64 v, .int .i64 q, .int .i64 t] 25) := ⟨_, rfl⟩
  have hb0 : Below w.heap.size w W := by rw [hW]; exact gr1 _ _
  have hNW := hN.below hb0
  have hFW : Fs Sd.cells 6 W B (l.take 120) := (hF.below hb0).take (fun _ => rfl) 120
  have hX : Blk W w.heap.size 25 #[.int .i64 f, .int .i64 k, .int .i64 v, .int .i64 q, .int .i64 t] := by rw [hW]; exact Blk.new w _ _
  have HB0 := hide hb0
  have HOK := hide (show ∀ x ∈ l.take 120, StmOk x.s from fun x hx => hok x (List.mem_of_mem_take hx))
  have hr2 := ring2_any (n := 7) hNW hcb
  have HM := hide (show (l.take 120).length ≤ 120 from by rw [List.length_take]; omega)
  have HFEW := hide (fun w => few_any B l cl w hcl)
  have HS := hide hs
  have hMAY := fun w' (h : Below W.heap.size W w') => rmay_any A (fewN bads) cb 7 w' ((hNW.take 80).below h) (by unfold fewN; rw [List.length_take]; omega)
  have HMAY := hide hMAY
  have HR2 := hide hr2; have HX := hide hX; have HF := hide hFW
  clear hr2 hMAY hX hFW hok hs hF hN hNW hb0 hcl hcb
  generalize hm : l.take 120 = m at HOK HM HFEW HF
  clear hm
  cases hmay : mayR 7 (fewN bads) with
  | false =>
    have HMY := hide hmay
    clear hmay
    go_enter Try.func4, Try.ntmps4
    go_wp2_with fail
    rw [← hW]
    clear hW
    go_wp2_with (first
      | (go_at_call 12; refine (awake_any _).mono ?_; rintro e w3 ⟨rfl, hb3⟩)
      | (go_at_call 13; refine (HMAY.out _ HBA.out).mono ?_; rintro e w2a ⟨hh, hw⟩; rw [HMY.out] at hh; obtain rfl := hh; subst hw)
      | (go_at_call 6; refine HR2.out.mono ?_; intro e w2 HX2; obtain rfl := HX2.2.1 HMY.out; have HB2 := hide HX2.2.2; have HBA := hide (below_trans HB2.out (gr1 w2 (.cells #[.int .i64 7, .slice A (fewN bads).length cb, .slice none 0 0] 29))); clear HX2))
    go_ret
    exact ⟨rfl, below_trans HB0.out (below_trans HBA.out hb3)⟩
  | true =>
    have HMY := hide hmay
    clear hmay
    go_enter Try.func4, Try.ntmps4
    go_wp2_with fail
    rw [← hW]
    clear hW
    go_wp2_with (first
      | (go_at_call 7; refine (HFEW.out _).mono ?_; rintro e w3 ⟨rfl, rfl⟩)
      | (go_at_call 6; refine HR2.out.mono ?_; intro e w2 HX2; obtain ⟨g, b, rfl, hR2⟩ := HX2.1 HMY.out; have HB2 := hide HX2.2.2; have HRG := hide hR2; clear HX2 hR2))
    have hbA := HB2.out
    go_loopw [10, 11] (fun sv i wr => ∃ (j : Nat) (sd : Bool) (L : List Stm) (A' : Option Addr) (c' : Nat), j ≤ m.length ∧ i = .int .i64 j ∧ sv = .bool sd ∧ RgIs W.heap.size wr g b A' c' 7 (badsL (fewN bads)) L ∧ L.length ≤ j ∧
      (badB 7 (badsL (fewN bads)) f = false → decide ((⟨f, k, v, q, t⟩ : Stm) ∈ L) = sd) ∧ Below W.heap.size W wr) (fun _ i _ => m.length - (intOf i).toNat)
    case atStart => exact ⟨0, false, [], none, 0, Nat.zero_le _, rfl, rfl, HRG.out.below (gr1 _ _), Nat.le_refl _, fun _ => by simp, below_trans HB2.out (gr1 _ _)⟩
    case round =>
      obtain ⟨j, sd, L, A', c', hj, rfl, rfl, hR, hL, htr, hbel⟩ := hrel
      have HR := hide hR; have HTR := hide htr; have HB := hide hbel
      obtain ⟨e0, e1, e2, e3, e4⟩ := box5 HX.out hbel
      clear hR htr hbel hbA
      by_cases hlt : j < m.length
      · have hlt' : (j : Int) < m.length := by omega
        have hml : m.length ≤ 120 := HM.out
        obtain ⟨b1, off, rfl, hbl, hcell⟩ := HF.out.cell sd6 (by omega)
        obtain ⟨c0, c1, c2, c3, c4, c5⟩ := sixS hcell HB.out hbl hlt
        have HC6 := hide (fun (wr : World) (hb : Below W.heap.size W wr) => sixS hcell hb hbl hlt)
        clear hcell
        have HOKJ := hide (HOK.out _ (List.getElem_mem hlt))
        have HSTEP := hide (fun h => true_step (xa := m[j].a) (xs := m[j].s) (s := ⟨f, k, v, q, t⟩) (by omega) h (HTR.out h))
        have HLEN := hide (Nat.le_trans (sayL_len 7 (badsL (fewN bads)) L m[j].a m[j].s) (Nat.succ_le_succ hL))
        have HSAY := hide (say_in m[j].a m[j].s _ _ HR.out.drew HB.out.drew HB.out.size (Nat.le_refl _) HOKJ.out rfl rfl)
        generalize m[j] = x at c0 c1 c2 c3 c4 c5 HOKJ HSTEP HLEN HSAY HC6
        obtain ⟨xa, xf, xk, xv, xq, xt⟩ := x
        generalize sayE 7 (badsL (fewN bads)) L (Sd.a ⟨xa, xf, xk, xv, xq, xt⟩) (Sd.s ⟨xa, xf, xk, xv, xq, xt⟩) = r at HSAY HSTEP
        generalize sayL 7 (badsL (fewN bads)) L (Sd.a ⟨xa, xf, xk, xv, xq, xt⟩) (Sd.s ⟨xa, xf, xk, xv, xq, xt⟩) = L2 at HSAY HSTEP HLEN
        cases r with
        | succ r =>
          have hr0 : ((r : Int) + 1 == 0) = false := beq_eq_false_iff_ne.2 (by omega)
          go_wp2_with fail
          go_still_tail 11, (by kernel_rfl)
          go_wp2_with (go_at_call 8; refine HSAY.out.mono ?_; rintro e w2 ⟨rfl, ⟨Ar, cr, hR2⟩, hb2, hs2⟩; have HR2 := hide hR2; have HB2 := hide hb2; clear hR2 hb2 hs2 c0 c1 c2 c3 c4 c5 e0 e1 e2 e3 e4)
          go_wp2_with fail
          exact ⟨⟨j + 1, sd, L2, Ar, cr, by omega, by go_num, rfl, HR2.out, HLEN.out, fun h => by rw [HSTEP.out h]; rfl, HB2.out⟩, by simp [intOf]; omega⟩
        | zero =>
          cases sd with
          | true =>
            go_wp2_with fail
            go_still_tail 11, (by kernel_rfl)
            go_wp2_with (go_at_call 8; refine HSAY.out.mono ?_; rintro e w2 ⟨rfl, ⟨Ar, cr, hR2⟩, hb2, hs2⟩; have HR2 := hide hR2; have HB2 := hide hb2; clear hR2 hb2 hs2 c0 c1 c2 c3 c4 c5 e0 e1 e2 e3 e4)
            go_wp2_with fail
            go_big_quiet (fail)
            go_wp2_with fail
            exact ⟨⟨j + 1, true, L2, Ar, cr, by omega, by go_num, rfl, HR2.out.drewN _, HLEN.out, fun h => by rw [HSTEP.out h]; rfl, below_drewN HB2.out _⟩, by simp [intOf]; omega⟩
          | false =>
            have HQ := hide (fun w => run_eq_stm w xf xk xv xq xt f k v q t)
            have HD := hide (show saidB false 0 xa ⟨xf, xk, xv, xq, xt⟩ ⟨f, k, v, q, t⟩ = (decide (xa = f) && decide ((⟨xf, xk, xv, xq, xt⟩ : Stm) = ⟨f, k, v, q, t⟩)) from rfl)
            generalize decide ((⟨xf, xk, xv, xq, xt⟩ : Stm) = ⟨f, k, v, q, t⟩) = bq at HQ HD
            by_cases hxa : xa = f
            · have hxb : (xa == f) = true := beq_iff_eq.2 hxa
              have HXA := hide hxa
              clear hxa
              go_wp2_with fail
              go_still_tail 11, (by kernel_rfl)
              go_wp2_with (go_at_call 8; refine HSAY.out.mono ?_; rintro e w2 ⟨rfl, ⟨Ar, cr, hR2⟩, hb2, hs2⟩; have HR2 := hide hR2; have HB2 := hide hb2; obtain ⟨d0, d1, d2, d3, d4, d5⟩ := HC6.out w2 hb2; obtain ⟨f0, f1, f2, f3, f4⟩ := box5 HX.out hb2; clear hR2 hb2 hs2 c0 c1 c2 c3 c4 c5 e0 e1 e2 e3 e4)
              have hq := HQ.out
              go_wp2_with fail
              go_big_quiet (fail)
              go_wp2_with fail
              exact ⟨⟨j + 1, bq, L2, Ar, cr, by omega, by go_num, rfl, HR2.out.drewN _, HLEN.out, fun h => by rw [HSTEP.out h]; rw [show _ = _ from HD.out, decide_eq_true HXA.out]; rfl, below_drewN HB2.out _⟩, by simp [intOf]; omega⟩
            · have hxb : (xa == f) = false := beq_eq_false_iff_ne.2 hxa
              have HXA := hide hxa
              clear hxa
              go_wp2_with fail
              go_still_tail 11, (by kernel_rfl)
              go_wp2_with (go_at_call 8; refine HSAY.out.mono ?_; rintro e w2 ⟨rfl, ⟨Ar, cr, hR2⟩, hb2, hs2⟩; have HR2 := hide hR2; have HB2 := hide hb2; obtain ⟨d0, d1, d2, d3, d4, d5⟩ := HC6.out w2 hb2; obtain ⟨f0, f1, f2, f3, f4⟩ := box5 HX.out hb2; clear hR2 hb2 hs2 c0 c1 c2 c3 c4 c5 e0 e1 e2 e3 e4)
              have hq := HQ.out
              go_wp2_with fail
              go_big_quiet (fail)
              go_wp2_with fail
              exact ⟨⟨j + 1, false, L2, Ar, cr, by omega, by go_num, rfl, HR2.out.drewN _, HLEN.out, fun h => by rw [HSTEP.out h]; rw [show _ = _ from HD.out, decide_eq_false HXA.out]; rfl, below_drewN HB2.out _⟩, by simp [intOf]; omega⟩
      · have hke : j = m.length := by omega
        have hlt' : ¬ (j : Int) < m.length := by omega
        clear hke
        have HBAD := hide (bad_any g 7 (badsL (fewN bads)) _ _ f wr HR.out.blk (by omega))
        have HHAS := hide (has_any HR.out HS.out)
        cases hbb : badB 7 (badsL (fewN bads)) f with
        | true =>
          rw [hbb] at HBAD
          clear hbb
          go_wp2_with (first
            | (go_at_call 12; refine (awake_any _).mono ?_; rintro e w3 ⟨rfl, hb3⟩)
            | (go_at_call 14; refine HBAD.out.mono ?_; rintro e w3 ⟨rfl, rfl⟩))
          go_ret
          exact ⟨rfl, below_trans HB0.out (below_trans HB.out hb3)⟩
        | false =>
          rw [hbb] at HBAD
          rw [HTR.out hbb] at HHAS
          clear hbb
          cases sd
          all_goals
            go_wp2_with (first
              | (go_at_call 12; refine (awake_any _).mono ?_; rintro e w3 ⟨rfl, hb3⟩)
              | (go_at_call 15; refine HHAS.out.mono ?_; rintro e w3 ⟨rfl, hb4⟩)
              | (go_at_call 14; refine HBAD.out.mono ?_; rintro e w3 ⟨rfl, rfl⟩))
            go_ret
            exact ⟨rfl, below_trans HB0.out (below_trans HB.out (below_trans hb4 hb3))⟩
theorem walk_RingTrue (w : World) (A : Option Addr) (bads : List Int) (cb : Nat) (hN : Ns w A bads) (hcb : bads.length ≤ cb) (_ : cb ≤ maxLen) (B : Option Addr) (l : List Sd) (cl : Nat) (hF : Fs Sd.cells 6 w B l) (hcl : l.length ≤ cl) (_ : cl ≤ maxLen) (hok : ∀ x ∈ l, StmOk x.s) (f k v q t : Int) (hs : StmOk ⟨f, k, v, q, t⟩) :
    Calls Try.prog 4 #[.slice A bads.length cb, .slice B l.length cl, .agg #[.int .i64 f, .int .i64 k, .int .i64 v, .int .i64 q, .int .i64 t]] w fun e w' => e = .returned (.bool true) ∧ Below w.heap.size w w' :=
  ringTrue_any A bads cb B l cl f k v q t hN hcb hF hcl hok hs
end Go.Proofs.Ytllfdnfiicnmiaa
