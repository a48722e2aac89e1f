/-
  The reference's Say, joined; few; ring2.
-/
import Derived.Test.YtllfdnfiicnmiaaRg8
namespace Go.Proofs.Ytllfdnfiicnmiaa
open Go.RowKit
set_option maxRecDepth 100000
set_option linter.unusedSimpArgs false
set_option linter.unusedVariables false

theorem rsay_any {w : World} {n : Int} {A1 : Option Addr} {bads : List Int} {c1 : Nat} {A2 : Option Addr} {L : List Stm} {c2 : Nat} (a : Int) (s : Stm) (hN : Ns w A1 bads) (hbl : bads.length ≤ 34359738368) (hF : Fs Stm.cells 5 w A2 L) (hll : L.length ≤ 65536) (hm : mayR n bads = true) : RSays w n A1 bads c1 A2 L c2 a s := by
  obtain ⟨f, k, v, q, t⟩ := s
  by_cases h0 : 0 ≤ a
  · by_cases hn : a < n
    · have h : (decide (0 ≤ a) && decide (a < n)) = true := by rw [decide_eq_true h0, decide_eq_true hn]; rfl
      by_cases hne : f = a
      · by_cases hin : (⟨f, k, v, q, t⟩ : Stm) ∈ L
        · exact rsay_has_e hN hbl hF hll hm h hne hin
        · by_cases hfull : 65536 ≤ L.length
          · exact rsay_full_e hN hbl hF hll hm h hne hin hfull
          · exact rsay_new_e hN hbl hF hll hm h hne hin hfull
      · cases h1 : badB n (badsL bads) a with
        | false => exact rsay_forged1 hN hbl hF hll hm h hne h1
        | true =>
          cases h2 : badB n (badsL bads) f with
          | false => exact rsay_forged2 hN hbl hF hll hm h hne h1 h2
          | true =>
            by_cases hin : (⟨f, k, v, q, t⟩ : Stm) ∈ L
            · exact rsay_has_b hN hbl hF hll hm h hne h1 h2 hin
            · by_cases hfull : 65536 ≤ L.length
              · exact rsay_full_b hN hbl hF hll hm h hne h1 h2 hin hfull
              · exact rsay_new_b hN hbl hF hll hm h hne h1 h2 hin hfull
    · exact rsay_big hN hbl hF hll hm h0 (by omega)
  · exact rsay_neg hN hbl hF hll hm (by omega)

/-! ## Said -/
structure Sd where
  a : Int
  s : Stm
def Sd.cells (x : Sd) : List Value := [.int .i64 x.a, .int .i64 x.s.f, .int .i64 x.s.k, .int .i64 x.s.v, .int .i64 x.s.q, .int .i64 x.s.t]
theorem sd6 (x : Sd) : (Sd.cells x).length = 6 := rfl
theorem size_sd : (Try.prog.info? 36).map (·.size) = some 6 := by kernel_rfl

theorem few_any (A : Option Addr) (l : List Sd) (c : Nat) (w : World) (hc : l.length ≤ c) :
    Calls Try.prog 7 #[.slice A l.length c] w fun e w' => e = .returned (.slice A (l.take 120).length c) ∧ w = w' := by
  by_cases h : 120 < l.length
  · have h' : (120 : Int) < l.length := by omega
    have hx := fun w => run_cutH Try.underlying22 size_sd A l.length c 120 (by omega) 120 rfl w
    go_enter Try.func7, Try.ntmps7
    go_wp2_with fail
    go_ret
    rw [List.length_take, Nat.min_eq_left (by omega)]
    exact ⟨rfl, rfl⟩
  · have h' : ¬ (120 : Int) < l.length := by omega
    rw [List.take_of_length_le (by omega)]
    go_enter Try.func7, Try.ntmps7
    go_wp2_with fail
    go_ret
    exact ⟨rfl, rfl⟩

/-! ## ring2 -/
def fewN (l : List Int) : List Int := l.take 80
def Ring2Out (w : World) (n : Int) (A : Option Addr) (bads : List Int) (c : Nat) (e : Ending) (w' : World) : Prop :=
  (mayR n (fewN bads) = true → ∃ g b, e = .returned (.tuple #[.pointer (some ⟨g, 0, none⟩), .agg #[.int .i64 n, .slice A (fewN bads).length c, .slice none 0 0], .bool true]) ∧ RgIs w.heap.size w' g b none 0 n (badsL (fewN bads)) []) ∧
  (mayR n (fewN bads) = false → e = .returned (.tuple #[.pointer none, .agg #[.int .i64 n, .slice A (fewN bads).length c, .slice none 0 0], .bool false])) ∧ Below w.heap.size w w'
theorem Ns.take {w : World} {A : Option Addr} {l : List Int} (h : Ns w A l) (k : Nat) : Ns w A (l.take k) := by
  refine ⟨?_, fun hn => ?_⟩
  · simp
  · have hn' : 0 < l.length := by simp at hn; omega
    obtain ⟨b, off, e, hb, hcell⟩ := h.cell hn'
    refine ⟨b, off, e, hb, fun j u hu => ?_⟩
    rw [List.getElem?_map] at hu
    cases hj : (l.take k)[j]? with
    | none => rw [hj] at hu; cases hu
    | some y =>
      rw [hj] at hu
      injection hu with hu
      subst hu
      have h1 := List.getElem?_eq_some_iff.1 hj
      obtain ⟨h2, h3⟩ := h1
      have h4 : j < l.length := by simp at h2; omega
      rw [hcell j h4]
      rw [List.getElem_take] at h3
      rw [h3]; rfl
theorem size_n : (Try.prog.info? 3).map (·.size) = some 1 := by kernel_rfl
theorem ring2_yes {w w2 : World} {n : Int} {A : Option Addr} {bads : List Int} {c g b : Nat} (hm : mayR n (fewN bads) = true) (hR : RgIs w.heap.size w2 g b none 0 n (badsL (fewN bads)) []) (hb : Below w.heap.size w w2) :
    Ring2Out w n A bads c (.returned (.tuple #[.pointer (some ⟨g, 0, none⟩), .agg #[.int .i64 n, .slice A (fewN bads).length c, .slice none 0 0], .bool true])) w2 :=
  ⟨fun _ => ⟨g, b, rfl, hR⟩, fun h => absurd hm (by rw [h]; simp), hb⟩
theorem ring2_no {w w2 : World} {n : Int} {A : Option Addr} {bads : List Int} {c : Nat} (hm : mayR n (fewN bads) = false) (hb : Below w.heap.size w w2) :
    Ring2Out w n A bads c (.returned (.tuple #[.pointer none, .agg #[.int .i64 n, .slice A (fewN bads).length c, .slice none 0 0], .bool false])) w2 :=
  ⟨fun h => absurd hm (by rw [h]; simp), fun _ => rfl, hb⟩
theorem own_lower {w : World} {B B' e size n : Nat} {v : Value} {xs : List Value} (h : w.ownsRow B e size v n xs) (hB : B' ≤ B) : w.ownsRow B' e size v n xs := by
  refine ⟨h.1, ?_⟩
  rcases h.2 with hn | ⟨g, cap, cur, rfl, hg, rest⟩
  · exact .inl hn
  · exact .inr ⟨g, cap, cur, rfl, Nat.le_trans hB hg, rest⟩
theorem RgIs.lower {B B' : Nat} {w : World} {g b : Nat} {A : Option Addr} {c : Nat} {n : Int} {bad : List Bool} {L : List Stm} (h : RgIs B w g b A c n bad L) (hB : B' ≤ B) : RgIs B' w g b A c n bad L :=
  ⟨h.blk, own_lower h.row hB, h.mp, h.ok, h.len, h.n1, h.n64, Nat.le_trans hB h.hg, Nat.le_trans hB h.hb⟩
theorem RgIs.kept {B : Nat} {w w' : World} {g b : Nat} {A : Option Addr} {c : Nat} {n : Int} {bad : List Bool} {L : List Stm} {S : Nat → Prop} (h : RgIs B w g b A c n bad L) (k : KeptBut w w' S) (hS : ∀ i, Mine g b A i → ¬ S i) : RgIs B w' g b A c n bad L := by
  refine ⟨⟨h.blk.1, (k.block g h.blk.lt (hS g (.inl rfl))).trans h.blk.2⟩, ⟨h.row.1, ?_⟩, ?_, h.ok, h.len, h.n1, h.n64, h.hg, h.hb⟩
  · rcases h.row.2 with hn | ⟨i, cap, cur, e, hg, hh, rest⟩
    · exact .inl hn
    · have e' := e
      injection e' with e1 _ _
      exact .inr ⟨i, cap, cur, e, hg, (k.block i (Array.getElem?_eq_some_iff.1 hh).1 (hS i (.inr (.inr e1)))).trans hh, rest⟩
  · have hlt := h.mp.lt
    obtain ⟨es, clock, hb, F, hs, hD⟩ := h.mp
    exact ⟨es, clock, (k.block b hlt (hS b (.inr (.inl rfl)))).trans hb, F, hs, hD⟩
theorem keptBut_set (w : World) (a : Addr) (u : Value) : KeptBut w (w.setCell a u) (fun i => i = a.block) :=
  ⟨rfl, rfl, rfl, by simp [World.setCell], fun k _ hne => Below.heap_setCell _ _ _ _ hne⟩
theorem keptBut_set3 (w : World) (x : Nat) (u0 u1 u2 : Value) : KeptBut w (((w.setCell ⟨x, 0, none⟩ u0).setCell ⟨x, 1, none⟩ u1).setCell ⟨x, 2, none⟩ u2) (fun i => i = x) :=
  ((keptBut_set w ⟨x, 0, none⟩ u0).trans (keptBut_set _ ⟨x, 1, none⟩ u1)).trans (keptBut_set _ ⟨x, 2, none⟩ u2)
theorem r2_cells {w w2 : World} (hb : Below (w.alloc (.cells #[.int .i64 0, .slice none 0 0, .slice none 0 0] 29)).heap.size (w.alloc (.cells #[.int .i64 0, .slice none 0 0, .slice none 0 0] 29)) w2) :
    w2.cell? ⟨w.heap.size, 0, none⟩ = some (.int .i64 0) ∧ w2.cell? ⟨w.heap.size, 1, none⟩ = some (.slice none 0 0) ∧ w2.cell? ⟨w.heap.size, 2, none⟩ = some (.slice none 0 0) ∧ w2.frozen? ⟨w.heap.size, 0, none⟩ = false ∧ w2.frozen? ⟨w.heap.size, 1, none⟩ = false ∧ w2.frozen? ⟨w.heap.size, 2, none⟩ = false ∧ w.heap.size < w2.heap.size ∧ Below w.heap.size w w2 := by
  have h1 := Blk.new w 29 #[.int .i64 0, .slice none 0 0, .slice none 0 0]
  have hX : Blk w2 w.heap.size 29 #[.int .i64 0, .slice none 0 0, .slice none 0 0] := (hb.block w.heap.size h1.lt).trans h1
  exact ⟨by rw [hX.cell]; rfl, by rw [hX.cell]; rfl, by rw [hX.cell]; rfl, hX.free 0, hX.free 1, hX.free 2, hX.lt, below_trans (gr1 _ _) hb⟩
theorem set3r {w w1 : World} (h : Below w.heap.size w w1) (u0 u1 u2 : Value) : Below w.heap.size w (((w1.setCell ⟨w.heap.size, 0, none⟩ u0).setCell ⟨w.heap.size, 1, none⟩ u1).setCell ⟨w.heap.size, 2, none⟩ u2) := ((h.setCell (Nat.le_refl _) u0).setCell (Nat.le_refl _) u1).setCell (Nat.le_refl _) u2
section
variable {A : Option Addr} {bads : List Int} {c : Nat} {n : Int} {w : World}
theorem ring2_new (hF : Ns w A bads) (w' : World) (h : Below w.heap.size w w') : Calls Try.prog 16 #[.int .i64 n, .slice A (fewN bads).length c] w' (NewOut w' n (fewN bads)) :=
  new_any A (fewN bads) c n w' ((hF.take 80).below h) (by unfold fewN; rw [List.length_take]; omega)
set_option maxHeartbeats 2000000 in
theorem ring2_yb (hF : Ns w A bads) (hc : bads.length ≤ c) (h : 80 < bads.length) (hm : mayR n (fewN bads) = true) :
    Calls Try.prog 6 #[.int .i64 n, .slice A bads.length c] w (Ring2Out w n A bads c) := by
  have HNEW := hide (ring2_new (c := c) (n := n) hF)
  have HM := hide hm
  have HB0 := hide (gr1 w (.cells #[.int .i64 0, .slice none 0 0, .slice none 0 0] 29))
  clear hF hm
  have h' : (80 : Int) < bads.length := by omega
  have hx := fun w => run_cutH Try.underlying27 size_n A bads.length c (fewN bads).length (by unfold fewN; rw [List.length_take]; omega) 80 (by unfold fewN; rw [List.length_take, Nat.min_eq_left (by omega)]; rfl) w
  clear h
  go_enter Try.func6, Try.ntmps6
  go_wp2_with (go_at_call 16; refine (HNEW.out _ HB0.out).mono ?_; intro e w2 HX; obtain ⟨g, b, rfl, hR⟩ := HX.1 HM.out; have HR := hide hR; have HB := hide HX.2.2; clear hR HX; obtain ⟨z0, z1, z2, f0, f1, f2, hz, hbw⟩ := r2_cells HB.out; have HBW := hide hbw; clear hbw)
  exact bodyPost_ret (v := .tuple #[.pointer (some ⟨g, 0, none⟩), .agg #[.int .i64 n, .slice A (fewN bads).length c, .slice none 0 0], .bool true]) (by simp [results, Try.results6, go_sem, *]) rfl (ring2_yes HM.out ((HR.out.lower HB0.out.size).kept (keptBut_set3 _ _ _ _ _) (fun i hi e => by
    have h1 := HR.out.hg; have h2 := HR.out.hb; simp at h1 h2
    rcases hi with h | h | h
    · omega
    · omega
    · cases h)) (set3r HBW.out _ _ _))
set_option maxHeartbeats 2000000 in
theorem ring2_ys (hF : Ns w A bads) (hc : bads.length ≤ c) (h : ¬ 80 < bads.length) (hm : mayR n (fewN bads) = true) :
    Calls Try.prog 6 #[.int .i64 n, .slice A bads.length c] w (Ring2Out w n A bads c) := by
  have HNEW := hide (ring2_new (c := c) (n := n) hF)
  have HM := hide hm
  have HB0 := hide (gr1 w (.cells #[.int .i64 0, .slice none 0 0, .slice none 0 0] 29))
  clear hF hm
  have h' : ¬ (80 : Int) < bads.length := by omega
  have he : bads.length = (fewN bads).length := by unfold fewN; rw [List.take_of_length_le (by omega)]
  rw [he] at h' ⊢
  clear h he hc
  go_enter Try.func6, Try.ntmps6
  go_wp2_with (go_at_call 16; refine (HNEW.out _ HB0.out).mono ?_; intro e w2 HX; obtain ⟨g, b, rfl, hR⟩ := HX.1 HM.out; have HR := hide hR; have HB := hide HX.2.2; clear hR HX; obtain ⟨z0, z1, z2, f0, f1, f2, hz, hbw⟩ := r2_cells HB.out; have HBW := hide hbw; clear hbw)
  exact bodyPost_ret (v := .tuple #[.pointer (some ⟨g, 0, none⟩), .agg #[.int .i64 n, .slice A (fewN bads).length c, .slice none 0 0], .bool true]) (by simp [results, Try.results6, go_sem, *]) rfl (ring2_yes HM.out ((HR.out.lower HB0.out.size).kept (keptBut_set3 _ _ _ _ _) (fun i hi e => by
    have h1 := HR.out.hg; have h2 := HR.out.hb; simp at h1 h2
    rcases hi with h | h | h
    · omega
    · omega
    · cases h)) (set3r HBW.out _ _ _))
set_option maxHeartbeats 2000000 in
theorem ring2_nb (hF : Ns w A bads) (hc : bads.length ≤ c) (h : 80 < bads.length) (hm : mayR n (fewN bads) = false) :
    Calls Try.prog 6 #[.int .i64 n, .slice A bads.length c] w (Ring2Out w n A bads c) := by
  have HNEW := hide (ring2_new (c := c) (n := n) hF)
  have HM := hide hm
  have HB0 := hide (gr1 w (.cells #[.int .i64 0, .slice none 0 0, .slice none 0 0] 29))
  clear hF hm
  have h' : (80 : Int) < bads.length := by omega
  have hx := fun w => run_cutH Try.underlying27 size_n A bads.length c (fewN bads).length (by unfold fewN; rw [List.length_take]; omega) 80 (by unfold fewN; rw [List.length_take, Nat.min_eq_left (by omega)]; rfl) w
  clear h
  go_enter Try.func6, Try.ntmps6
  go_wp2_with (go_at_call 16; refine (HNEW.out _ HB0.out).mono ?_; intro e w2 HX; obtain rfl := HX.2.1 HM.out; have HB := hide HX.2.2; clear HX; obtain ⟨z0, z1, z2, f0, f1, f2, hz, hbw⟩ := r2_cells HB.out; have HBW := hide hbw; clear hbw)
  exact bodyPost_ret (v := .tuple #[.pointer none, .agg #[.int .i64 n, .slice A (fewN bads).length c, .slice none 0 0], .bool false]) (by simp [results, Try.results6, go_sem, *]) rfl (ring2_no HM.out (set3r HBW.out _ _ _))
set_option maxHeartbeats 2000000 in
theorem ring2_ns (hF : Ns w A bads) (hc : bads.length ≤ c) (h : ¬ 80 < bads.length) (hm : mayR n (fewN bads) = false) :
    Calls Try.prog 6 #[.int .i64 n, .slice A bads.length c] w (Ring2Out w n A bads c) := by
  have HNEW := hide (ring2_new (c := c) (n := n) hF)
  have HM := hide hm
  have HB0 := hide (gr1 w (.cells #[.int .i64 0, .slice none 0 0, .slice none 0 0] 29))
  clear hF hm
  have h' : ¬ (80 : Int) < bads.length := by omega
  have he : bads.length = (fewN bads).length := by unfold fewN; rw [List.take_of_length_le (by omega)]
  rw [he] at h' ⊢
  clear h he hc
  go_enter Try.func6, Try.ntmps6
  go_wp2_with (go_at_call 16; refine (HNEW.out _ HB0.out).mono ?_; intro e w2 HX; obtain rfl := HX.2.1 HM.out; have HB := hide HX.2.2; clear HX; obtain ⟨z0, z1, z2, f0, f1, f2, hz, hbw⟩ := r2_cells HB.out; have HBW := hide hbw; clear hbw)
  exact bodyPost_ret (v := .tuple #[.pointer none, .agg #[.int .i64 n, .slice A (fewN bads).length c, .slice none 0 0], .bool false]) (by simp [results, Try.results6, go_sem, *]) rfl (ring2_no HM.out (set3r HBW.out _ _ _))
theorem ring2_any (hF : Ns w A bads) (hc : bads.length ≤ c) :
    Calls Try.prog 6 #[.int .i64 n, .slice A bads.length c] w (Ring2Out w n A bads c) := by
  cases hm : mayR n (fewN bads) with
  | true =>
    by_cases h : 80 < bads.length
    · exact ring2_yb hF hc h hm
    · exact ring2_ys hF hc h hm
  | false =>
    by_cases h : 80 < bads.length
    · exact ring2_nb hF hc h hm
    · exact ring2_ns hF hc h hm
end
end Go.Proofs.Ytllfdnfiicnmiaa
