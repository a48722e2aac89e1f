/-
  The walk of RingPlays.
-/
import Derived.Test.YtllfdnfiicnmiaaRg14
import Derived.Deep.RegionHeld3
namespace Go.Proofs.Ytllfdnfiicnmiaa
open Go.RowKit
set_option maxRecDepth 100000
set_option linter.unusedSimpArgs false
set_option linter.unusedVariables false

/-- the document's ring is laid anew: whatever has been made since -/
theorem rv_put {W0 : World} {g b X : Nat} {n : Int} {A1 : Option Addr} {bads : List Int} {c1 : Nat} {A : Option Addr} {c : Nat} {Lr : List Stm} {A2 : Option Addr} {c2 : Nat} {Lm : List Stm} {w w' : World} (h : RV W0 g b X n A1 bads c1 A c Lr A2 c2 Lm w) {A3 : Option Addr} {c3 : Nat} {L' : List Stm}
    (hb : Below w.heap.size w w') (hF : Fs Stm.cells 5 w' A3 L') (hA : A3 = A2 ∨ ∃ i, A3 = some ⟨i, 0, none⟩ ∧ w.heap.size ≤ i ∧ i < w'.heap.size) :
    RV W0 g b X n A1 bads c1 A c Lr A3 c3 L' (((w'.setCell ⟨X, 0, none⟩ (.int .i64 n)).setCell ⟨X, 1, none⟩ (.slice A1 bads.length c1)).setCell ⟨X, 2, none⟩ (.slice A3 L'.length c3)) := by
  have h2 := h.step hb
  refine ⟨h2.ring.kept (keptBut_set3 _ _ _ _ _) (fun i hi e => (h.dis i hi).1 e), ?_, rd_keptBut hF (keptBut_set3 _ _ _ _ _) (fun i o e hi => ?_), fun i hi => ⟨(h.dis i hi).1, fun o e => ?_⟩, fun i o e => ?_, ?_, h.hX⟩
  · have h3 := ((h2.blk.set_ 0 (.int .i64 n)).set_ 1 (.slice A1 bads.length c1)).set_ 2 (.slice A3 L'.length c3)
    exact h3
  · rcases hA with rfl | ⟨i', e', hi', _⟩
    · exact (h.old i o e).2 hi
    · rw [e'] at e; injection e with e; injection e with e
      have := h.blk.lt
      omega
  · rcases hA with rfl | ⟨i', e', hi', _⟩
    · exact (h.dis i hi).2 o e
    · rw [e'] at e; injection e with e; injection e with e
      have := h.ring.mine_lt i hi
      omega
  · rcases hA with rfl | ⟨i', e', hi', hi2⟩
    · exact ⟨by simpa [World.setCell] using (h2.old i o e).1, (h.old i o e).2⟩
    · rw [e'] at e; injection e with e; injection e with e
      have := h.blk.lt
      refine ⟨by simp [World.setCell]; omega, by omega⟩
  · exact ((h2.below.setCell h.hX _).setCell h.hX _).setCell h.hX _

/-- the same, where the new box was made ahead of the call -/
theorem rv_put2 {W0 : World} {g b X : Nat} {n : Int} {A1 : Option Addr} {bads : List Int} {c1 : Nat} {A : Option Addr} {c : Nat} {Lr : List Stm} {A2 : Option Addr} {c2 : Nat} {Lm : List Stm} {w w5 : World} {o : Obj} (h : RV W0 g b X n A1 bads c1 A c Lr A2 c2 Lm w) {A3 : Option Addr} {cz : Nat} {L' : List Stm} {u0 u1 u2 : Value}
    (h0 : Below w.heap.size w (w.drew.alloc o)) (hb : Below (w.drew.alloc o).heap.size (w.drew.alloc o) w5) (hF : Fs Stm.cells 5 w5 A3 L') (hA : A3 = A2 ∨ ∃ i, A3 = some ⟨i, 0, none⟩ ∧ (w.drew.alloc o).heap.size ≤ i ∧ i < w5.heap.size) :
    RV W0 g b X n A1 bads c1 A c Lr A3 cz L' ((((((w5.setCell ⟨w.heap.size, 0, none⟩ u0).setCell ⟨w.heap.size, 1, none⟩ u1).setCell ⟨w.heap.size, 2, none⟩ u2).setCell ⟨X, 0, none⟩ (.int .i64 n)).setCell ⟨X, 1, none⟩ (.slice A1 bads.length c1)).setCell ⟨X, 2, none⟩ (.slice A3 L'.length cz)) := by
  have hs : (w.drew.alloc o).heap.size = w.heap.size + 1 := by show (w.heap.push o).size = _; simp
  refine rv_put h ((((below_trans h0 hb).setCell (Nat.le_refl _) u0).setCell (Nat.le_refl _) u1).setCell (Nat.le_refl _) u2) (rd_keptBut hF (keptBut_set3 _ _ _ _ _) (fun i o2 e hi => ?_)) ?_
  · rcases hA with rfl | ⟨i', e', hi', _⟩
    · have := (h.old i o2 e).1; omega
    · rw [e'] at e; injection e with e; injection e with e; omega
  · rcases hA with rfl | ⟨i', e', hi', hi2⟩
    · exact .inl rfl
    · exact .inr ⟨i', e', by omega, by simpa [World.setCell] using hi2⟩

set_option maxHeartbeats 8000000 in
theorem ringPlays_any {w : World} (n : Int) (A : Option Addr) (bads : List Int) (cb : Nat) (B : Option Addr) (l : List Sd) (cl : Nat) (hN : Ns w A bads) (hcb : bads.length ≤ cb) (hF : Fs Sd.cells 6 w B l) (hcl : l.length ≤ cl) (hok : ∀ x ∈ l, StmOk x.s) :
    Calls Try.prog 5 #[.int .i64 n, .slice A bads.length cb, .slice B l.length cl] w fun e w' => e = .returned (.bool true) ∧ Below w.heap.size w w' := by
  have hNW := hN.take 80
  have hFW : Fs Sd.cells 6 w B (l.take 120) := hF.take (fun _ => rfl) 120
  have HOK := hide (show ∀ x ∈ l.take 120, StmOk x.s from fun x hx => hok x (List.mem_of_mem_take hx))
  have hr2 := ring2_any (n := n) hN hcb
  have HM := hide (show (l.take 120).length ≤ 120 from by rw [List.length_take]; omega)
  have HFEW := hide (fun w => few_any B l cl w hcl)
  have hl80 : (fewN bads).length ≤ 80 := by unfold fewN; rw [List.length_take]; omega
  have HMAY := hide (fun w' (h : Below w.heap.size w w') => rmay_any A (fewN bads) cb n w' (hNW.below h) (by omega))
  have HNEW := hide (fun w' (h : Below w.heap.size w w') => new_any A (fewN bads) cb n w' (hNW.below h) (by omega))
  have HNS := hide (show Ns w A (fewN bads) from hNW)
  have HL80 := hide hl80
  have HR2 := hide hr2; have HF := hide hFW
  clear hr2 hFW hok hF hN hNW hcl hcb hl80
  generalize hm : l.take 120 = m at HOK HM HFEW HF
  clear hm
  cases hmay : mayR n (fewN bads) with
  | false =>
    have HMY := hide hmay
    clear hmay
    go_enter Try.func5, Try.ntmps5
    go_wp2_with (first
      | (go_at_call 12; refine (awake_any _).mono ?_; rintro e w4 ⟨rfl, hb4⟩)
      | (go_at_call 16; refine (HNEW.out _ HBA.out).mono ?_; intro e w3 HX3; obtain rfl := HX3.2.1 HMY.out; have HB3 := hide (below_trans HBA.out HX3.2.2); clear HX3)
      | (go_at_call 13; refine (HMAY.out _ HBA.out).mono ?_; rintro e w2a ⟨hh, hw⟩; rw [HMY.out] at hh; obtain rfl := hh; subst hw)
      | (go_at_call 6; refine HR2.out.mono ?_; intro e w2 HX2; obtain rfl := HX2.2.1 HMY.out; have HB2 := hide HX2.2.2; have HBA := hide (below_trans HB2.out (gr1 w2 (.cells #[.int .i64 n, .slice A (fewN bads).length cb, .slice none 0 0] 29))); clear HX2))
    go_ret
    exact ⟨rfl, below_trans HB3.out hb4⟩
  | true =>
    have HMY := hide hmay
    clear hmay
    go_enter Try.func5, Try.ntmps5
    go_wp2_with (first
      | (go_at_call 7; refine (HFEW.out _).mono ?_; rintro e w3 ⟨rfl, rfl⟩)
      | (go_at_call 13; refine (HMAY.out _ HBA.out).mono ?_; rintro e w2a ⟨hh, hw⟩; rw [HMY.out] at hh; obtain rfl := hh; subst hw)
      | (go_at_call 6; refine HR2.out.mono ?_; intro e w2 HX2; obtain ⟨g, b, rfl, hR2⟩ := HX2.1 HMY.out; have HRV0 := hide (rv_start (A1 := A) (c1 := cb) hR2 HX2.2.2); have HBA := hide HRV0.out.below; clear HX2 hR2))
    go_loopw [12] (fun i wr => ∃ (j : Nat) (L : List Stm) (A' : Option Addr) (c' : Nat) (A2 : Option Addr) (c2 : Nat), j ≤ m.length ∧ i = .int .i64 j ∧ RV w g b w2.heap.size n A (fewN bads) cb A' c' L A2 c2 L wr ∧ L.length ≤ j) (fun i _ => m.length - (intOf i).toNat)
    case atStart => exact ⟨0, [], none, 0, none, 0, Nat.zero_le _, rfl, HRV0.out, Nat.le_refl _⟩
    case round =>
      obtain ⟨j, L, A', c', A2, c2, hj, rfl, hrv, hL⟩ := hrel
      have HRV := hide hrv
      clear hrv
      by_cases hlt : j < m.length
      · have hlt' : (j : Int) < m.length := by omega
        have hml : m.length ≤ 120 := HM.out
        obtain ⟨b1, off, rfl, hbl, hcell⟩ := HF.out.cell sd6 (by omega)
        obtain ⟨c0, c1, c2', c3, c4, c5⟩ := sixS hcell HRV.out.below hbl hlt
        have HC6 := hide (fun (wr : World) (hb : Below w.heap.size w wr) => sixS hcell hb hbl hlt)
        clear hcell
        obtain ⟨r0, r1, r2, rf0, rf1, rf2⟩ := HRV.out.cells
        have HOKJ := hide (HOK.out _ (List.getElem_mem hlt))
        have HLEN := hide (Nat.le_trans (sayL_len n (badsL (fewN bads)) L m[j].a m[j].s) (Nat.succ_le_succ hL))
        have HREF := hide (fun (w' : World) (h : Below wr.heap.size wr w') => show RSays w' n A (fewN bads) cb A2 L c2 m[j].a m[j].s from rsay_any m[j].a m[j].s (HNS.out.below (below_trans HRV.out.below h)) (by have := HL80.out; omega) (HRV.out.fs.below h) (by omega) HMY.out)
        unfold RSays at HREF
        have HSAY := hide (fun (A2 : Option Addr) (c2 : Nat) (Lm : List Stm) (w' : World) (h : RV w g b w2.heap.size n A (fewN bads) cb A' c' L A2 c2 Lm w') => rv_say h m[j].a m[j].s HOKJ.out)
        generalize m[j] = x at c0 c1 c2' c3 c4 c5 HOKJ HLEN HSAY HREF HC6
        obtain ⟨xa, xf, xk, xv, xq, xt⟩ := x
        generalize sayE n (badsL (fewN bads)) L (Sd.a ⟨xa, xf, xk, xv, xq, xt⟩) (Sd.s ⟨xa, xf, xk, xv, xq, xt⟩) = r at HSAY HREF
        generalize sayL n (badsL (fewN bads)) L (Sd.a ⟨xa, xf, xk, xv, xq, xt⟩) (Sd.s ⟨xa, xf, xk, xv, xq, xt⟩) = L2 at HSAY HLEN HREF
        have hbd : Below wr.heap.size wr wr.drew := (Below.refl wr.heap.size wr).drew
        have hbda : Below wr.heap.size wr (wr.drew.alloc (.cells #[.int .i64 0, .slice none 0 0, .slice none 0 0] 29)) := hbd.alloc (Nat.le_refl _) _
        have hxl := HRV.out.blk.lt
        have hwl := HRV.out.below.size
        have hn1 : ¬ w2.heap.size = wr.heap.size := by omega
        have hn2 : ¬ wr.heap.size = w2.heap.size := by omega
        have hn3 : ¬ b1 = wr.heap.size := by omega
        have hn4 : ¬ wr.heap.size = b1 := by omega
        have HBD := hide hbd; have HBDA := hide hbda
        clear hbd hbda
        go_wp2_with fail
        go_region_held3 (fun w' => w'.cell? ⟨w2.heap.size, 0, none⟩ = some (.int .i64 n) ∧ w'.cell? ⟨w2.heap.size, 1, none⟩ = some (.slice A (fewN bads).length cb) ∧ w'.cell? ⟨w2.heap.size, 2, none⟩ = some (.slice A2 L.length c2) ∧ w'.cell? ⟨b1, off + j * 6, none⟩ = some (.int .i64 xa) ∧ w'.cell? ⟨b1, off + j * 6 + 1, none⟩ = some (.int .i64 xf) ∧ w'.cell? ⟨b1, off + j * 6 + 2, none⟩ = some (.int .i64 xk) ∧ w'.cell? ⟨b1, off + j * 6 + 3, none⟩ = some (.int .i64 xv) ∧ w'.cell? ⟨b1, off + j * 6 + 4, none⟩ = some (.int .i64 xq) ∧ w'.cell? ⟨b1, off + j * 6 + 5, none⟩ = some (.int .i64 xt)) (go_keep) (first
          | (go_at_call 9; refine (HREF.out _ HBD.out).mono ?_; rintro e w5 ⟨Az, cz, rfl, hF5, hA5, hb5⟩; have HP5 := hide (And.intro hF5 (And.intro hA5 hb5)); obtain ⟨q0, q1, q2, qf0, qf1, qf2⟩ := (HRV.out.drew.step hb5).cells; have hz5 : w2.heap.size < w5.heap.size := (HRV.out.drew.step hb5).blk.lt; obtain ⟨d0, d1, d2, d3, d4, d5⟩ := HC6.out w5 (HRV.out.drew.step hb5).below; clear hF5 hA5 hb5 r0 r1 r2 rf0 rf1 rf2 c0 c1 c2' c3 c4 c5)
          | (go_at_call 9; refine (HREF.out _ HBDA.out).mono ?_; rintro e w5 ⟨Az, cz, rfl, hF5, hA5, hb5⟩; have HP5 := hide (And.intro hF5 (And.intro hA5 hb5)); obtain ⟨q0, q1, q2, qf0, qf1, qf2⟩ := (HRV.out.step (below_trans HBDA.out hb5)).cells; have hz5 : w2.heap.size < w5.heap.size := (HRV.out.step (below_trans HBDA.out hb5)).blk.lt; obtain ⟨d0, d1, d2, d3, d4, d5⟩ := HC6.out w5 (HRV.out.step (below_trans HBDA.out hb5)).below; obtain ⟨z0, z1, z2, zf0, zf1, zf2, hz6, hbw⟩ := r2_cells (w := wr.drew) hb5; have x0 : w5.cell? ⟨wr.heap.size, 0, none⟩ = some (.int .i64 0) := z0; have x1 : w5.cell? ⟨wr.heap.size, 1, none⟩ = some (.slice none 0 0) := z1; have x2 : w5.cell? ⟨wr.heap.size, 2, none⟩ = some (.slice none 0 0) := z2; have y0 : w5.frozen? ⟨wr.heap.size, 0, none⟩ = false := zf0; have y1 : w5.frozen? ⟨wr.heap.size, 1, none⟩ = false := zf1; have y2 : w5.frozen? ⟨wr.heap.size, 2, none⟩ = false := zf2; have hz7 : wr.heap.size < w5.heap.size := hz6; clear z0 z1 z2 zf0 zf1 zf2 hz6 hbw hF5 hA5 hb5 r0 r1 r2 rf0 rf1 rf2 c0 c1 c2' c3 c4 c5))
        all_goals go_wp2_with fail
        · have HRV6 := hide ((rv_put (c3 := cz) HRV.out (below_trans HBD.out HP5.out.2.2) HP5.out.1 HP5.out.2.1).step (gr1 _ (.cells #[.int .i64 n, .slice A (fewN bads).length cb, .slice Az L2.length cz] 29)))
          generalize ((((w5.setCell ⟨w2.heap.size, 0, none⟩ (.int .i64 n)).setCell ⟨w2.heap.size, 1, none⟩ (.slice A (fewN bads).length cb)).setCell ⟨w2.heap.size, 2, none⟩ (.slice Az L2.length cz)).alloc (.cells #[.int .i64 n, .slice A (fewN bads).length cb, .slice Az L2.length cz] 29)) = w6 at HRV6 ⊢
          obtain ⟨g0, g1, g2, gf0, gf1, gf2⟩ := HRV6.out.cells
          obtain ⟨p0, p1, p2, p3, p4, p5⟩ := HC6.out w6 HRV6.out.below
          have hl2 : L2.length ≤ 65536 := by have := HLEN.out; omega
          have hb80 := HL80.out
          have HBB := hide (badB_list HMY.out xa)
          go_region_held3 (fun w' => w'.cell? ⟨w2.heap.size, 0, none⟩ = some (.int .i64 n) ∧ w'.cell? ⟨w2.heap.size, 1, none⟩ = some (.slice A (fewN bads).length cb) ∧ w'.cell? ⟨w2.heap.size, 2, none⟩ = some (.slice Az L2.length cz) ∧ w'.cell? ⟨b1, off + j * 6, none⟩ = some (.int .i64 xa) ∧ w'.cell? ⟨b1, off + j * 6 + 1, none⟩ = some (.int .i64 xf) ∧ w'.cell? ⟨b1, off + j * 6 + 2, none⟩ = some (.int .i64 xk) ∧ w'.cell? ⟨b1, off + j * 6 + 3, none⟩ = some (.int .i64 xv) ∧ w'.cell? ⟨b1, off + j * 6 + 4, none⟩ = some (.int .i64 xq) ∧ w'.cell? ⟨b1, off + j * 6 + 5, none⟩ = some (.int .i64 xt)) (go_keep) (first
            | (go_at_call 18; refine (rbad_any n A (fewN bads) cb _ xa _ (HNS.out.below HRV9.out.below) (by omega) ⟨_, _, _, rfl⟩).mono ?_; rintro e w10 ⟨rfl, hb10⟩; have HRV10 := hide (HRV9.out.step hb10); clear hb10; obtain ⟨s0, s1, s2, sf0, sf1, sf2⟩ := HRV10.out.cells; obtain ⟨t0, t1, t2, t3, t4, t5⟩ := HC6.out w10 HRV10.out.below)
            | (go_at_call 14; refine (bad_any g n (badsL (fewN bads)) _ _ xa _ HRV9.out.ring.blk HRV9.out.ring.n64).mono ?_; rintro e w9b ⟨he, hw⟩; rw [HBB.out] at he; obtain rfl := he; subst hw)
            | (go_at_call 17; refine (rhas_any n _ Az L2 cz xf xk xv xq xt _ HRV8.out.fs (by omega) ⟨_, _, _, rfl⟩).mono ?_; rintro e w9 ⟨rfl, hb9⟩; have HRV9 := hide (HRV8.out.step hb9); clear hb9; obtain ⟨s0, s1, s2, sf0, sf1, sf2⟩ := HRV9.out.cells; obtain ⟨t0, t1, t2, t3, t4, t5⟩ := HC6.out w9 HRV9.out.below)
            | (go_at_call 15; refine (has_any HRV7.out.ring HOKJ.out).mono ?_; rintro e w8 ⟨rfl, hb8⟩; have HRV8 := hide (HRV7.out.step hb8); clear hb8; obtain ⟨s0, s1, s2, sf0, sf1, sf2⟩ := HRV8.out.cells; obtain ⟨t0, t1, t2, t3, t4, t5⟩ := HC6.out w8 HRV8.out.below)
            | (go_at_call 8; refine (HSAY.out _ _ _ _ HRV6.out.drew).mono ?_; rintro e w7 ⟨rfl, Ar, cr, hRV7⟩; have HRV7 := hide hRV7; clear hRV7; obtain ⟨s0, s1, s2, sf0, sf1, sf2⟩ := HRV7.out.cells; obtain ⟨t0, t1, t2, t3, t4, t5⟩ := HC6.out w7 HRV7.out.below))
          go_wp2_with fail
          exact ⟨⟨j + 1, L2, Ar, cr, Az, cz, by omega, by go_num, HRV10.out, HLEN.out⟩, by simp [intOf]; omega⟩
        · have HRV6 := hide (rv_put2 (cz := cz) (u0 := .int .i64 n) (u1 := .slice A (fewN bads).length cb) (u2 := .slice Az L2.length cz) HRV.out HBDA.out HP5.out.2.2 HP5.out.1 HP5.out.2.1)
          generalize ((((((w5.setCell ⟨wr.heap.size, 0, none⟩ (.int .i64 n)).setCell ⟨wr.heap.size, 1, none⟩ (.slice A (fewN bads).length cb)).setCell ⟨wr.heap.size, 2, none⟩ (.slice Az L2.length cz)).setCell ⟨w2.heap.size, 0, none⟩ (.int .i64 n)).setCell ⟨w2.heap.size, 1, none⟩ (.slice A (fewN bads).length cb)).setCell ⟨w2.heap.size, 2, none⟩ (.slice Az L2.length cz)) = w6 at HRV6 ⊢
          obtain ⟨g0, g1, g2, gf0, gf1, gf2⟩ := HRV6.out.cells
          obtain ⟨p0, p1, p2, p3, p4, p5⟩ := HC6.out w6 HRV6.out.below
          have hl2 : L2.length ≤ 65536 := by have := HLEN.out; omega
          have hb80 := HL80.out
          have HBB := hide (badB_list HMY.out xa)
          go_region_held3 (fun w' => w'.cell? ⟨w2.heap.size, 0, none⟩ = some (.int .i64 n) ∧ w'.cell? ⟨w2.heap.size, 1, none⟩ = some (.slice A (fewN bads).length cb) ∧ w'.cell? ⟨w2.heap.size, 2, none⟩ = some (.slice Az L2.length cz) ∧ w'.cell? ⟨b1, off + j * 6, none⟩ = some (.int .i64 xa) ∧ w'.cell? ⟨b1, off + j * 6 + 1, none⟩ = some (.int .i64 xf) ∧ w'.cell? ⟨b1, off + j * 6 + 2, none⟩ = some (.int .i64 xk) ∧ w'.cell? ⟨b1, off + j * 6 + 3, none⟩ = some (.int .i64 xv) ∧ w'.cell? ⟨b1, off + j * 6 + 4, none⟩ = some (.int .i64 xq) ∧ w'.cell? ⟨b1, off + j * 6 + 5, none⟩ = some (.int .i64 xt)) (go_keep) (first
            | (go_at_call 18; refine (rbad_any n A (fewN bads) cb _ xa _ (HNS.out.below HRV9.out.below) (by omega) ⟨_, _, _, rfl⟩).mono ?_; rintro e w10 ⟨rfl, hb10⟩; have HRV10 := hide (HRV9.out.step hb10); clear hb10; obtain ⟨s0, s1, s2, sf0, sf1, sf2⟩ := HRV10.out.cells; obtain ⟨t0, t1, t2, t3, t4, t5⟩ := HC6.out w10 HRV10.out.below)
            | (go_at_call 14; refine (bad_any g n (badsL (fewN bads)) _ _ xa _ HRV9.out.ring.blk HRV9.out.ring.n64).mono ?_; rintro e w9b ⟨he, hw⟩; rw [HBB.out] at he; obtain rfl := he; subst hw)
            | (go_at_call 17; refine (rhas_any n _ Az L2 cz xf xk xv xq xt _ HRV8.out.fs (by omega) ⟨_, _, _, rfl⟩).mono ?_; rintro e w9 ⟨rfl, hb9⟩; have HRV9 := hide (HRV8.out.step hb9); clear hb9; obtain ⟨s0, s1, s2, sf0, sf1, sf2⟩ := HRV9.out.cells; obtain ⟨t0, t1, t2, t3, t4, t5⟩ := HC6.out w9 HRV9.out.below)
            | (go_at_call 15; refine (has_any HRV7.out.ring HOKJ.out).mono ?_; rintro e w8 ⟨rfl, hb8⟩; have HRV8 := hide (HRV7.out.step hb8); clear hb8; obtain ⟨s0, s1, s2, sf0, sf1, sf2⟩ := HRV8.out.cells; obtain ⟨t0, t1, t2, t3, t4, t5⟩ := HC6.out w8 HRV8.out.below)
            | (go_at_call 8; refine (HSAY.out _ _ _ _ HRV6.out.drew).mono ?_; rintro e w7 ⟨rfl, Ar, cr, hRV7⟩; have HRV7 := hide hRV7; clear hRV7; obtain ⟨s0, s1, s2, sf0, sf1, sf2⟩ := HRV7.out.cells; obtain ⟨t0, t1, t2, t3, t4, t5⟩ := HC6.out w7 HRV7.out.below))
          go_wp2_with fail
          exact ⟨⟨j + 1, L2, Ar, cr, Az, cz, by omega, by go_num, HRV10.out, HLEN.out⟩, by simp [intOf]; omega⟩
      · have hlt' : ¬ (j : Int) < m.length := by omega
        have hL2 : L.length ≤ 120 := by have := HM.out; omega
        have HALL := hide (all_any HRV.out.ring)
        go_wp2_with (go_at_call 19; refine HALL.out.mono ?_; rintro e w6 ⟨Ag, cg, rfl, hown6, hb6⟩; have HG := hide (show Fs Stm.cells 5 w6 Ag L from Rd.of_own hown6); have HB6 := hide hb6; clear hown6 hb6)
        obtain ⟨r0, r1, r2, rf0, rf1, rf2⟩ := (HRV.out.step HB6.out).cells
        go_wp2_with fail
        have HCNT := hide (fun k => count_any ((HRV.out.step HB6.out).ring.drewN k))
        go_big_quiet ((go_at_call 20; refine Calls.quiet_of_same ((HCNT.out _).mono fun _ _ x => ⟨x.1, x.2.symm⟩)))
        all_goals go_wp2_with fail
        have HB7 := hide (below_drewN (Below.refl w6.heap.size w6) nq)
        generalize w6.drewN nq = w7 at HB7 ⊢
        clear r0 r1 r2 rf0 rf1 rf2
        go_loopw [16] (fun i wl => ∃ p : Nat, p ≤ L.length ∧ i = .int .i64 p ∧ Below w6.heap.size w6 wl) (fun i _ => L.length - (intOf i).toNat)
        case atStart => exact ⟨0, Nat.zero_le _, rfl, HB7.out⟩
        case round =>
          obtain ⟨p, hp, rfl, hbl⟩ := hrel
          rename World => wl
          have HBL := hide hbl
          clear hbl
          by_cases hlt2 : p < L.length
          · have hlt2' : (p : Int) < L.length := by omega
            have HRV2 := hide (HRV.out.step (below_trans HB6.out HBL.out))
            obtain ⟨r0, r1, r2, rf0, rf1, rf2⟩ := HRV2.out.cells
            obtain ⟨bx, ox, rfl, hbx, hcx⟩ := (HG.out.below HBL.out).cell (fun _ => rfl) (by omega)
            obtain ⟨c0, c1, c2', c3, c4⟩ := fiveS hcx (Below.refl _ _) hbx hlt2
            obtain ⟨by_, oy, rfl, hby, hcy⟩ := HRV2.out.fs.cell (fun _ => rfl) (by omega)
            obtain ⟨e0, e1, e2, e3, e4⟩ := fiveS hcy (Below.refl _ _) hby hlt2
            clear hcx hcy
            generalize L[p] = x at c0 c1 c2' c3 c4 e0 e1 e2 e3 e4
            obtain ⟨xf, xk, xv, xq, xt⟩ := x
            dsimp only at c0 c1 c2' c3 c4 e0 e1 e2 e3 e4
            have hneq := fun w => run_neq_stm w xf xk xv xq xt xf xk xv xq xt
            simp only [and_self, decide_true, Bool.not_true, ne_eq, not_true_eq_false, decide_false] at hneq
            go_wp2_with fail
            go_big_quiet (fail)
            all_goals go_wp2_with fail
            exact ⟨⟨p + 1, by omega, by go_num, below_drewN HBL.out nq⟩, by simp [intOf]; omega⟩
          · have hlt2' : ¬ (p : Int) < L.length := by omega
            go_wp2_with (go_at_call 12; refine (awake_any _).mono ?_; rintro e w8 ⟨rfl, hb8⟩)
            go_ret
            exact ⟨rfl, below_trans HRV.out.below (below_trans HB6.out (below_trans HBL.out hb8))⟩
theorem walk_RingPlays (w : World) (n : Int) (_ : -9223372036854775808 ≤ n) (_ : n < 9223372036854775808) (A : Option Addr) (bads : List Int) (cb : Nat) (hN : Ns w A bads) (hcb : bads.length ≤ cb) (_ : cb ≤ maxLen) (B : Option Addr) (l : List Sd) (cl : Nat) (hF : Fs Sd.cells 6 w B l) (hcl : l.length ≤ cl) (_ : cl ≤ maxLen) (hok : ∀ x ∈ l, StmOk x.s) :
    Calls Try.prog 5 #[.int .i64 n, .slice A bads.length cb, .slice B l.length cl] w fun e w' => e = .returned (.bool true) ∧ Below w.heap.size w w' :=
  ringPlays_any n A bads cb B l cl hN hcb hF hcl hok
end Go.Proofs.Ytllfdnfiicnmiaa
