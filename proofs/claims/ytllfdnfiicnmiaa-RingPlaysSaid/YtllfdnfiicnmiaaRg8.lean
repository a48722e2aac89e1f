/-
  The walk of the reference's Say.
-/
import Derived.Test.YtllfdnfiicnmiaaRg7
namespace Go.Proofs.Ytllfdnfiicnmiaa
open Go.RowKit
set_option maxRecDepth 100000
set_option linter.unusedSimpArgs false
set_option linter.unusedVariables false

theorem step_appG {P : Program} (w : World) {ops : Array Oper} {o : Oper} {a : Act} {K : Act → World → Prop} {Q : Exit → Act → World → Prop} {E : Prop} (hgd : o.guard = none) (s x : Operand) (t : TypeId)
    (ho : o.op = .call { callee := .builtin .append, args := #[s, x], argTypes := #[t, t] })
    (w0 : World) (base : Nat) (e : TypeId) (z : Value) (size bytes : Nat) (ht : P.underlying t = some (.slice e)) (hi : (P.info? e).map (fun i => (i.zero, i.size, i.bytes)) = some (some z, size, bytes))
    (hzs : z.cells.size = size) (hsz : 0 < size) (hby : bytes ≤ 4096)
    (v : Value) (n : Nat) (xs : List Value) (hs : a.eval s = v) (hown : w.ownsRow base e size v n xs) (hbel : Below base w0 w)
    (A : Option Addr) (m c : Nat) (news : List Value) (hx : a.eval x = .slice A m c) (hr : Rd w A size m news) (h1 : ∀ u ∈ news, u.oneCell' = true) (hroom : n + m ≤ 34359738368) (hbase : base ≤ w.heap.size)
    (h : ∀ A' cap' w', w'.ownsRow base e size (.slice A' (n + m) cap') (n + m) (xs ++ news) → Below base w0 w' → w.grownBy w' v.ownBlock → K (a.put o.dst (.slice A' (n + m) cap')) w') :
    if Region.wanted o (yielded ops a.tmps) = true then Oper.wp P o a w K Q else E := by
  have hw : Region.wanted o (yielded ops a.tmps) = true := by simp [Region.wanted, hgd]
  rw [if_pos hw]
  obtain ⟨A', cap', w', hrun, h2, h3⟩ := run_append_rd w base t o.type e z size bytes ht hi hzs hsz hby v n xs hown A m c news hr h1 hroom hbase
  unfold Oper.wp execOp
  simp only [ho, resolve, invoke, builtin, Sem.run_bind, Sem.run_pure, Result.andThen_ok, List.map_toArray, List.map_cons, List.map_nil, hs, hx, hrun]
  exact h A' cap' w' h2 (hbel.grown h3 hbase fun k hk => (hown.lt k hk).1) h3
theorem own_newH (w : World) (base H : Nat) (hH : w.heap.size = H) (hb : base ≤ w.heap.size) : (w.alloc (.cells #[] 25)).ownsRow base 25 5 (.slice (some ⟨H, 0, none⟩) 0 0) 0 [] := by
  subst hH
  exact ⟨rfl, .inr ⟨w.heap.size, 0, #[], rfl, hb, heap_alloc_new w _, Nat.le_refl _, by simp [maxLen], rfl, rfl⟩⟩
theorem rd_kept {w w' : World} {g : Nat} {size n : Nat} {xs : List Value} {row : Option Nat} (h : Rd w (some ⟨g, 0, none⟩) size n xs) (hg : w.grownBy w' row) (hne : some g ≠ row) : Rd w' (some ⟨g, 0, none⟩) size n xs := by
  refine ⟨h.1, fun hn => ?_⟩
  obtain ⟨b, off, e, hb, hc⟩ := h.2 hn
  injection e with e
  injection e with e1 e2
  subst e1 e2
  exact ⟨g, 0, rfl, Nat.lt_of_lt_of_le hb hg.size, fun j u hu => by
    have h1 := hc j u hu
    have h2 := hg.block g hb hne
    unfold World.cell? at h1 ⊢
    simp only at h1 ⊢
    rw [h2]; exact h1⟩
/-- the ring that comes, the error's number -/
def RSayOut (w : World) (n : Int) (A1 : Option Addr) (m1 c1 : Nat) (A2 : Option Addr) (L' : List Stm) (r : Nat) (e : Ending) (w' : World) : Prop :=
  ∃ A' c', e = .returned (.tuple #[.agg #[.int .i64 n, .slice A1 m1 c1, .slice A' L'.length c'], .int .i64 r]) ∧ Fs Stm.cells 5 w' A' L' ∧ (A' = A2 ∨ ∃ i, A' = some ⟨i, 0, none⟩ ∧ w.heap.size ≤ i ∧ i < w'.heap.size) ∧ Below w.heap.size w w'
theorem rsayOut_same {w w' : World} {n : Int} {A1 : Option Addr} {m1 c1 : Nat} {A2 : Option Addr} {c2 : Nat} {L : List Stm} {r : Nat} (hF : Fs Stm.cells 5 w A2 L) (hb : Below w.heap.size w w') : RSayOut w n A1 m1 c1 A2 L r (.returned (.tuple #[.agg #[.int .i64 n, .slice A1 m1 c1, .slice A2 L.length c2], .int .i64 r])) w' :=
  ⟨A2, c2, rfl, hF.below hb, .inl rfl, hb⟩
theorem rsayOut_new {w w50 : World} {n : Int} {A1 : Option Addr} {m1 c1 : Nat} {A2 A50 : Option Addr} {c50 B : Nat} {L : List Stm} {s : Stm} {u u0 u1 u2 : Value} (ho : w50.ownsRow B 25 5 (.slice A50 (L.length + 1) c50) (L.length + 1) (L.flatMap Stm.cells ++ s.cells))
    (h0 : w.heap.size < B) (h2 : w.heap.size + 1 + 1 < B) (hb : Below w.heap.size w w50) :
    RSayOut w n A1 m1 c1 A2 (L ++ [s]) 0 (.returned (.tuple #[.agg #[.int .i64 n, .slice A1 m1 c1, .slice A50 (L.length + 1) c50], .int .i64 0]))
      ((((w50.setCell ⟨w.heap.size, 2, none⟩ u).setCell ⟨w.heap.size + 1 + 1, 0, none⟩ u0).setCell ⟨w.heap.size + 1 + 1, 1, none⟩ u1).setCell ⟨w.heap.size + 1 + 1, 2, none⟩ u2) := by
  have hlen : (L ++ [s]).length = L.length + 1 := by simp
  have h4 := ownsRow_setCell_below (ownsRow_setCell_below (ownsRow_setCell_below (ownsRow_setCell_below ho (a := ⟨w.heap.size, 2, none⟩) h0 u) (a := ⟨w.heap.size + 1 + 1, 0, none⟩) h2 u0) (a := ⟨w.heap.size + 1 + 1, 1, none⟩) h2 u1) (a := ⟨w.heap.size + 1 + 1, 2, none⟩) h2 u2
  obtain ⟨g, cap, e, hg, _⟩ := ho.form (by omega)
  injection e with e1 _ _
  have hfs : Fs Stm.cells 5 ((((w50.setCell ⟨w.heap.size, 2, none⟩ u).setCell ⟨w.heap.size + 1 + 1, 0, none⟩ u0).setCell ⟨w.heap.size + 1 + 1, 1, none⟩ u1).setCell ⟨w.heap.size + 1 + 1, 2, none⟩ u2) A50 (L ++ [s]) := Fs.of_own hlen.symm (by rw [List.flatMap_append, show [s].flatMap Stm.cells = s.cells from by simp]; exact h4)
  obtain ⟨b1, o1, e2, hb1, _⟩ := hfs.2 (by omega)
  have hgb : g = b1 := by rw [e1] at e2; injection e2 with e2; injection e2
  refine ⟨A50, c50, by rw [hlen]; rfl, hfs, .inr ⟨g, e1, by omega, hgb ▸ hb1⟩, ?_⟩
  exact (((hb.setCell (Nat.le_refl _) u).setCell (by show w.heap.size ≤ w.heap.size + 1 + 1; omega) u0).setCell (by show w.heap.size ≤ w.heap.size + 1 + 1; omega) u1).setCell (by show w.heap.size ≤ w.heap.size + 1 + 1; omega) u2
theorem set3z {w w1 : World} (h : Below w.heap.size w w1) (b : Nat) (hb : w.heap.size ≤ b) (u0 u1 u2 : Value) : Below w.heap.size w (((w1.setCell ⟨b, 0, none⟩ u0).setCell ⟨b, 1, none⟩ u1).setCell ⟨b, 2, none⟩ u2) := ((h.setCell hb u0).setCell hb u1).setCell hb u2

section
variable {w : World} {n : Int} {A1 : Option Addr} {bads : List Int} {c1 : Nat} {A2 : Option Addr} {L : List Stm} {c2 : Nat} {a f k v q t : Int}
theorem rs_cells {W1 : World} (hb : Below (((w.alloc (.cells #[.int .i64 n, .slice A1 bads.length c1, .slice A2 L.length c2] 29)).alloc (.cells #[.int .i64 f, .int .i64 k, .int .i64 v, .int .i64 q, .int .i64 t] 25)).alloc (.cells #[.int .i64 0, .slice none 0 0, .slice none 0 0] 29)).heap.size (((w.alloc (.cells #[.int .i64 n, .slice A1 bads.length c1, .slice A2 L.length c2] 29)).alloc (.cells #[.int .i64 f, .int .i64 k, .int .i64 v, .int .i64 q, .int .i64 t] 25)).alloc (.cells #[.int .i64 0, .slice none 0 0, .slice none 0 0] 29)) W1) :
    W1.cell? ⟨w.heap.size, 0, none⟩ = some (.int .i64 n) ∧ W1.cell? ⟨w.heap.size, 1, none⟩ = some (.slice A1 bads.length c1) ∧ W1.cell? ⟨w.heap.size, 2, none⟩ = some (.slice A2 L.length c2) ∧
    W1.cell? ⟨w.heap.size + 1, 0, none⟩ = some (.int .i64 f) ∧ W1.cell? ⟨w.heap.size + 1, 1, none⟩ = some (.int .i64 k) ∧ W1.cell? ⟨w.heap.size + 1, 2, none⟩ = some (.int .i64 v) ∧ W1.cell? ⟨w.heap.size + 1, 3, none⟩ = some (.int .i64 q) ∧ W1.cell? ⟨w.heap.size + 1, 4, none⟩ = some (.int .i64 t) ∧
    W1.cell? ⟨w.heap.size + 1 + 1, 0, none⟩ = some (.int .i64 0) ∧ W1.cell? ⟨w.heap.size + 1 + 1, 1, none⟩ = some (.slice none 0 0) ∧ W1.cell? ⟨w.heap.size + 1 + 1, 2, none⟩ = some (.slice none 0 0) ∧
    (∀ j, W1.frozen? ⟨w.heap.size + 1 + 1, j, none⟩ = false) ∧ (∀ j, W1.frozen? ⟨w.heap.size, j, none⟩ = false) ∧ w.heap.size + 1 + 1 < W1.heap.size ∧ Below w.heap.size w W1 := by
  have hB : Below w.heap.size w W1 := below_trans (below_trans (below_trans (gr1 _ _) (gr1 _ _)) (gr1 _ _)) hb
  have hs := hb.size
  simp at hs
  have B0 : Blk W1 w.heap.size 29 #[.int .i64 n, .slice A1 bads.length c1, .slice A2 L.length c2] := by
    have h := ((Blk.new w 29 #[.int .i64 n, .slice A1 bads.length c1, .slice A2 L.length c2]).alloc (.cells #[.int .i64 f, .int .i64 k, .int .i64 v, .int .i64 q, .int .i64 t] 25)).alloc (.cells #[.int .i64 0, .slice none 0 0, .slice none 0 0] 29)
    exact (hb.block _ h.lt).trans h
  have B1 : Blk W1 (w.heap.size + 1) 25 #[.int .i64 f, .int .i64 k, .int .i64 v, .int .i64 q, .int .i64 t] := by
    have h := (Blk.new (w.alloc (.cells #[.int .i64 n, .slice A1 bads.length c1, .slice A2 L.length c2] 29)) 25 #[.int .i64 f, .int .i64 k, .int .i64 v, .int .i64 q, .int .i64 t]).alloc (.cells #[.int .i64 0, .slice none 0 0, .slice none 0 0] 29)
    rw [show (w.alloc (.cells #[.int .i64 n, .slice A1 bads.length c1, .slice A2 L.length c2] 29)).heap.size = w.heap.size + 1 from by simp] at h
    exact (hb.block _ h.lt).trans h
  have B2 : Blk W1 (w.heap.size + 1 + 1) 29 #[.int .i64 0, .slice none 0 0, .slice none 0 0] := by
    have h := Blk.new ((w.alloc (.cells #[.int .i64 n, .slice A1 bads.length c1, .slice A2 L.length c2] 29)).alloc (.cells #[.int .i64 f, .int .i64 k, .int .i64 v, .int .i64 q, .int .i64 t] 25)) 29 #[.int .i64 0, .slice none 0 0, .slice none 0 0]
    rw [show ((w.alloc (.cells #[.int .i64 n, .slice A1 bads.length c1, .slice A2 L.length c2] 29)).alloc (.cells #[.int .i64 f, .int .i64 k, .int .i64 v, .int .i64 q, .int .i64 t] 25)).heap.size = w.heap.size + 1 + 1 from by simp] at h
    exact (hb.block _ h.lt).trans h
  exact ⟨by rw [B0.cell]; rfl, by rw [B0.cell]; rfl, by rw [B0.cell]; rfl, by rw [B1.cell]; rfl, by rw [B1.cell]; rfl, by rw [B1.cell]; rfl, by rw [B1.cell]; rfl, by rw [B1.cell]; rfl, by rw [B2.cell]; rfl, by rw [B2.cell]; rfl, by rw [B2.cell]; rfl, B2.free, B0.free, B2.lt, hB⟩
theorem rs_some {W1 : World} (hb : Below (((w.alloc (.cells #[.int .i64 n, .slice A1 bads.length c1, .slice A2 L.length c2] 29)).alloc (.cells #[.int .i64 f, .int .i64 k, .int .i64 v, .int .i64 q, .int .i64 t] 25)).alloc (.cells #[.int .i64 0, .slice none 0 0, .slice none 0 0] 29)).heap.size (((w.alloc (.cells #[.int .i64 n, .slice A1 bads.length c1, .slice A2 L.length c2] 29)).alloc (.cells #[.int .i64 f, .int .i64 k, .int .i64 v, .int .i64 q, .int .i64 t] 25)).alloc (.cells #[.int .i64 0, .slice none 0 0, .slice none 0 0] 29)) W1) :
    W1.cell? ⟨w.heap.size + 1, 0, none⟩ = some (.int .i64 f) ∧ W1.cell? ⟨w.heap.size + 1, 1, none⟩ = some (.int .i64 k) ∧ W1.cell? ⟨w.heap.size + 1, 2, none⟩ = some (.int .i64 v) ∧ W1.cell? ⟨w.heap.size + 1, 3, none⟩ = some (.int .i64 q) ∧ W1.cell? ⟨w.heap.size + 1, 4, none⟩ = some (.int .i64 t) ∧
    W1.cell? ⟨w.heap.size, 2, none⟩ = some (.slice A2 L.length c2) ∧ W1.frozen? ⟨w.heap.size, 2, none⟩ = false ∧ w.heap.size < W1.heap.size ∧ w.heap.size + 1 < W1.heap.size := by
  obtain ⟨r0, r1, r2, s0, s1, s2, s3, s4, z0, z1, z2, zf, rf, zs, hb50w⟩ := rs_cells hb
  exact ⟨s0, s1, s2, s3, s4, r2, rf 2, by omega, by omega⟩
def RSays (w : World) (n : Int) (A1 : Option Addr) (bads : List Int) (c1 : Nat) (A2 : Option Addr) (L : List Stm) (c2 : Nat) (a : Int) (s : Stm) : Prop :=
  Calls Try.prog 9 #[.agg #[.int .i64 n, .slice A1 bads.length c1, .slice A2 L.length c2], .int .i64 a, .agg #[.int .i64 s.f, .int .i64 s.k, .int .i64 s.v, .int .i64 s.q, .int .i64 s.t]] w (RSayOut w n A1 bads.length c1 A2 (sayL n (badsL bads) L a s) (sayE n (badsL bads) L a s))

set_option maxHeartbeats 4000000 in
theorem rsay_neg (hN : Ns w A1 bads) (hbl : bads.length ≤ 34359738368) (hF : Fs Stm.cells 5 w A2 L) (hll : L.length ≤ 65536) (hm : mayR n bads = true) (h0 : a < 0) : RSays w n A1 bads c1 A2 L c2 a ⟨f, k, v, q, t⟩ := by
  obtain ⟨W, hW⟩ : ∃ W, W = ((w.alloc (.cells #[.int .i64 n, .slice A1 bads.length c1, .slice A2 L.length c2] 29)).alloc (.cells #[.int .i64 f, .int .i64 k, .int .i64 v, .int .i64 q, .int .i64 t] 25)).alloc (.cells #[.int .i64 0, .slice none 0 0, .slice none 0 0] 29) := ⟨_, rfl⟩
  have hFW : Fs Stm.cells 5 W A2 L := by rw [hW]; exact ((hF.alloc _).alloc _).alloc _
  have hNW : Ns W A1 bads := by rw [hW]; exact Ns.below hN (below_trans (below_trans (gr1 _ _) (gr1 _ _)) (gr1 _ _))
  have hB1 : ∀ w', Below W.heap.size W w' → Calls Try.prog 18 #[.agg #[.int .i64 n, .slice A1 bads.length c1, .slice A2 L.length c2], .int .i64 a] w' fun e w'' => e = .returned (.bool (badB n (badsL bads) a)) ∧ Below w'.heap.size w' w'' := fun w' h => by rw [badB_list hm]; exact rbad_any n A1 bads c1 _ a w' (Ns.below hNW h) hbl ⟨_, _, _, rfl⟩
  have hB2 : ∀ w', Below W.heap.size W w' → Calls Try.prog 18 #[.agg #[.int .i64 n, .slice A1 bads.length c1, .slice A2 L.length c2], .int .i64 f] w' fun e w'' => e = .returned (.bool (badB n (badsL bads) f)) ∧ Below w'.heap.size w' w'' := fun w' h => by rw [badB_list hm]; exact rbad_any n A1 bads c1 _ f w' (Ns.below hNW h) hbl ⟨_, _, _, rfl⟩
  have hH : ∀ w', Below W.heap.size W w' → Calls Try.prog 17 #[.agg #[.int .i64 n, .slice A1 bads.length c1, .slice A2 L.length c2], .agg #[.int .i64 f, .int .i64 k, .int .i64 v, .int .i64 q, .int .i64 t]] w' fun e w'' => e = .returned (.bool (decide ((⟨f, k, v, q, t⟩ : Stm) ∈ L))) ∧ Below w'.heap.size w' w'' := fun w' h => rhas_any n _ A2 L c2 f k v q t w' (hFW.below h) (by omega) ⟨_, _, _, rfl⟩
  have HF0 := hide hF
  have HE := hide (show sayE n (badsL bads) L a ⟨f, k, v, q, t⟩ = 4 from by unfold sayE; rw [show decide (0 ≤ a) = false from decide_eq_false (by omega)]; rfl)
  have HL := hide (show sayL n (badsL bads) L a ⟨f, k, v, q, t⟩ = L from by unfold sayL; rw [show decide (0 ≤ a) = false from decide_eq_false (by omega)]; rfl)
  have HB1 := hide hB1; have HB2 := hide hB2; have HHAS := hide hH
  subst hW
  have HB0 := hide (Below.refl (((w.alloc (.cells #[.int .i64 n, .slice A1 bads.length c1, .slice A2 L.length c2] 29)).alloc (.cells #[.int .i64 f, .int .i64 k, .int .i64 v, .int .i64 q, .int .i64 t] 25)).alloc (.cells #[.int .i64 0, .slice none 0 0, .slice none 0 0] 29)).heap.size (((w.alloc (.cells #[.int .i64 n, .slice A1 bads.length c1, .slice A2 L.length c2] 29)).alloc (.cells #[.int .i64 f, .int .i64 k, .int .i64 v, .int .i64 q, .int .i64 t] 25)).alloc (.cells #[.int .i64 0, .slice none 0 0, .slice none 0 0] 29)))
  unfold RSays
  rw [HE.out, HL.out]
  clear hB1 hB2 hH hF hN hFW hNW hm hbl hll
  go_enter Try.func9, Try.ntmps9
  go_wp2_with fail
  exact bodyPost_ret (v := .tuple #[.agg #[.int .i64 n, .slice A1 bads.length c1, .slice A2 L.length c2], .int .i64 4]) (by simp [results, Try.results9, go_sem, *]) rfl (rsayOut_same HF0.out (below_trans (below_trans (gr1 _ _) (gr1 _ _)) (gr1 _ _)))
set_option maxHeartbeats 4000000 in
theorem rsay_big (hN : Ns w A1 bads) (hbl : bads.length ≤ 34359738368) (hF : Fs Stm.cells 5 w A2 L) (hll : L.length ≤ 65536) (hm : mayR n bads = true) (h0 : 0 ≤ a) (h1 : n ≤ a) : RSays w n A1 bads c1 A2 L c2 a ⟨f, k, v, q, t⟩ := by
  obtain ⟨W, hW⟩ : ∃ W, W = ((w.alloc (.cells #[.int .i64 n, .slice A1 bads.length c1, .slice A2 L.length c2] 29)).alloc (.cells #[.int .i64 f, .int .i64 k, .int .i64 v, .int .i64 q, .int .i64 t] 25)).alloc (.cells #[.int .i64 0, .slice none 0 0, .slice none 0 0] 29) := ⟨_, rfl⟩
  have hFW : Fs Stm.cells 5 W A2 L := by rw [hW]; exact ((hF.alloc _).alloc _).alloc _
  have hNW : Ns W A1 bads := by rw [hW]; exact Ns.below hN (below_trans (below_trans (gr1 _ _) (gr1 _ _)) (gr1 _ _))
  have hB1 : ∀ w', Below W.heap.size W w' → Calls Try.prog 18 #[.agg #[.int .i64 n, .slice A1 bads.length c1, .slice A2 L.length c2], .int .i64 a] w' fun e w'' => e = .returned (.bool (badB n (badsL bads) a)) ∧ Below w'.heap.size w' w'' := fun w' h => by rw [badB_list hm]; exact rbad_any n A1 bads c1 _ a w' (Ns.below hNW h) hbl ⟨_, _, _, rfl⟩
  have hB2 : ∀ w', Below W.heap.size W w' → Calls Try.prog 18 #[.agg #[.int .i64 n, .slice A1 bads.length c1, .slice A2 L.length c2], .int .i64 f] w' fun e w'' => e = .returned (.bool (badB n (badsL bads) f)) ∧ Below w'.heap.size w' w'' := fun w' h => by rw [badB_list hm]; exact rbad_any n A1 bads c1 _ f w' (Ns.below hNW h) hbl ⟨_, _, _, rfl⟩
  have hH : ∀ w', Below W.heap.size W w' → Calls Try.prog 17 #[.agg #[.int .i64 n, .slice A1 bads.length c1, .slice A2 L.length c2], .agg #[.int .i64 f, .int .i64 k, .int .i64 v, .int .i64 q, .int .i64 t]] w' fun e w'' => e = .returned (.bool (decide ((⟨f, k, v, q, t⟩ : Stm) ∈ L))) ∧ Below w'.heap.size w' w'' := fun w' h => rhas_any n _ A2 L c2 f k v q t w' (hFW.below h) (by omega) ⟨_, _, _, rfl⟩
  have HF0 := hide hF
  have HE := hide (show sayE n (badsL bads) L a ⟨f, k, v, q, t⟩ = 4 from by unfold sayE; rw [show decide (a < n) = false from decide_eq_false (by omega), Bool.and_false]; exact rfl)
  have HL := hide (show sayL n (badsL bads) L a ⟨f, k, v, q, t⟩ = L from by unfold sayL; rw [show decide (a < n) = false from decide_eq_false (by omega), Bool.and_false]; exact rfl)
  have HB1 := hide hB1; have HB2 := hide hB2; have HHAS := hide hH
  subst hW
  have HB0 := hide (Below.refl (((w.alloc (.cells #[.int .i64 n, .slice A1 bads.length c1, .slice A2 L.length c2] 29)).alloc (.cells #[.int .i64 f, .int .i64 k, .int .i64 v, .int .i64 q, .int .i64 t] 25)).alloc (.cells #[.int .i64 0, .slice none 0 0, .slice none 0 0] 29)).heap.size (((w.alloc (.cells #[.int .i64 n, .slice A1 bads.length c1, .slice A2 L.length c2] 29)).alloc (.cells #[.int .i64 f, .int .i64 k, .int .i64 v, .int .i64 q, .int .i64 t] 25)).alloc (.cells #[.int .i64 0, .slice none 0 0, .slice none 0 0] 29)))
  unfold RSays
  rw [HE.out, HL.out]
  have h0' : ¬ a < 0 := by omega
  clear hB1 hB2 hH hF hN hFW hNW hm hbl hll
  go_enter Try.func9, Try.ntmps9
  go_wp2_with fail
  exact bodyPost_ret (v := .tuple #[.agg #[.int .i64 n, .slice A1 bads.length c1, .slice A2 L.length c2], .int .i64 4]) (by simp [results, Try.results9, go_sem, *]) rfl (rsayOut_same HF0.out (below_trans (below_trans (gr1 _ _) (gr1 _ _)) (gr1 _ _)))
set_option maxHeartbeats 4000000 in
theorem rsay_forged1 (hN : Ns w A1 bads) (hbl : bads.length ≤ 34359738368) (hF : Fs Stm.cells 5 w A2 L) (hll : L.length ≤ 65536) (hm : mayR n bads = true) (h : (decide (0 ≤ a) && decide (a < n)) = true) (hne : f ≠ a) (h1 : badB n (badsL bads) a = false) : RSays w n A1 bads c1 A2 L c2 a ⟨f, k, v, q, t⟩ := by
  have hcond : f ≠ a ∧ ¬ (badB n (badsL bads) a = true ∧ badB n (badsL bads) f = true) := ⟨hne, by rw [h1]; simp⟩
  obtain ⟨W, hW⟩ : ∃ W, W = ((w.alloc (.cells #[.int .i64 n, .slice A1 bads.length c1, .slice A2 L.length c2] 29)).alloc (.cells #[.int .i64 f, .int .i64 k, .int .i64 v, .int .i64 q, .int .i64 t] 25)).alloc (.cells #[.int .i64 0, .slice none 0 0, .slice none 0 0] 29) := ⟨_, rfl⟩
  have hFW : Fs Stm.cells 5 W A2 L := by rw [hW]; exact ((hF.alloc _).alloc _).alloc _
  have hNW : Ns W A1 bads := by rw [hW]; exact Ns.below hN (below_trans (below_trans (gr1 _ _) (gr1 _ _)) (gr1 _ _))
  have hB1 : ∀ w', Below W.heap.size W w' → Calls Try.prog 18 #[.agg #[.int .i64 n, .slice A1 bads.length c1, .slice A2 L.length c2], .int .i64 a] w' fun e w'' => e = .returned (.bool (badB n (badsL bads) a)) ∧ Below w'.heap.size w' w'' := fun w' h => by rw [badB_list hm]; exact rbad_any n A1 bads c1 _ a w' (Ns.below hNW h) hbl ⟨_, _, _, rfl⟩
  have hB2 : ∀ w', Below W.heap.size W w' → Calls Try.prog 18 #[.agg #[.int .i64 n, .slice A1 bads.length c1, .slice A2 L.length c2], .int .i64 f] w' fun e w'' => e = .returned (.bool (badB n (badsL bads) f)) ∧ Below w'.heap.size w' w'' := fun w' h => by rw [badB_list hm]; exact rbad_any n A1 bads c1 _ f w' (Ns.below hNW h) hbl ⟨_, _, _, rfl⟩
  have hH : ∀ w', Below W.heap.size W w' → Calls Try.prog 17 #[.agg #[.int .i64 n, .slice A1 bads.length c1, .slice A2 L.length c2], .agg #[.int .i64 f, .int .i64 k, .int .i64 v, .int .i64 q, .int .i64 t]] w' fun e w'' => e = .returned (.bool (decide ((⟨f, k, v, q, t⟩ : Stm) ∈ L))) ∧ Below w'.heap.size w' w'' := fun w' h => rhas_any n _ A2 L c2 f k v q t w' (hFW.below h) (by omega) ⟨_, _, _, rfl⟩
  have HF0 := hide hF
  have HE := hide (show sayE n (badsL bads) L a ⟨f, k, v, q, t⟩ = 19 from by unfold sayE; rw [h]; exact if_pos hcond)
  have HL := hide (show sayL n (badsL bads) L a ⟨f, k, v, q, t⟩ = L from by unfold sayL; rw [h]; exact if_pos hcond)
  rw [h1] at hB1
  have hne' : (f != a) = true := by rw [bne_iff_ne]; exact hne
  have ha0 : ¬ a < 0 := by have := h; simp at this; omega
  have ha1 : ¬ n ≤ a := by have := h; simp at this; omega
  have HB1 := hide hB1; have HB2 := hide hB2; have HHAS := hide hH
  subst hW
  have HB0 := hide (Below.refl (((w.alloc (.cells #[.int .i64 n, .slice A1 bads.length c1, .slice A2 L.length c2] 29)).alloc (.cells #[.int .i64 f, .int .i64 k, .int .i64 v, .int .i64 q, .int .i64 t] 25)).alloc (.cells #[.int .i64 0, .slice none 0 0, .slice none 0 0] 29)).heap.size (((w.alloc (.cells #[.int .i64 n, .slice A1 bads.length c1, .slice A2 L.length c2] 29)).alloc (.cells #[.int .i64 f, .int .i64 k, .int .i64 v, .int .i64 q, .int .i64 t] 25)).alloc (.cells #[.int .i64 0, .slice none 0 0, .slice none 0 0] 29)))
  unfold RSays
  rw [HE.out, HL.out]
  clear hB1 hB2 hH hF hN hFW hNW hm hbl hll h hcond hne
  go_enter Try.func9, Try.ntmps9
  go_wp2_with (go_at_call_of 18 (Value.int .i64 a); refine (HB1.out _ HB0.out).mono ?_; rintro e w3 ⟨rfl, hb3⟩; obtain ⟨r0, r1, r2, s0, s1, s2, s3, s4, z0, z1, z2, zf, rf, zs, hb3w⟩ := rs_cells hb3)
  exact bodyPost_ret (v := .tuple #[.agg #[.int .i64 n, .slice A1 bads.length c1, .slice A2 L.length c2], .int .i64 19]) (by simp [results, Try.results9, go_sem, *]) rfl (rsayOut_same HF0.out (set3z hb3w _ (by omega) _ _ _))
set_option maxHeartbeats 4000000 in
theorem rsay_forged2 (hN : Ns w A1 bads) (hbl : bads.length ≤ 34359738368) (hF : Fs Stm.cells 5 w A2 L) (hll : L.length ≤ 65536) (hm : mayR n bads = true) (h : (decide (0 ≤ a) && decide (a < n)) = true) (hne : f ≠ a) (h1 : badB n (badsL bads) a = true) (h2 : badB n (badsL bads) f = false) : RSays w n A1 bads c1 A2 L c2 a ⟨f, k, v, q, t⟩ := by
  have hcond : f ≠ a ∧ ¬ (badB n (badsL bads) a = true ∧ badB n (badsL bads) f = true) := ⟨hne, by rw [h1, h2]; simp⟩
  obtain ⟨W, hW⟩ : ∃ W, W = ((w.alloc (.cells #[.int .i64 n, .slice A1 bads.length c1, .slice A2 L.length c2] 29)).alloc (.cells #[.int .i64 f, .int .i64 k, .int .i64 v, .int .i64 q, .int .i64 t] 25)).alloc (.cells #[.int .i64 0, .slice none 0 0, .slice none 0 0] 29) := ⟨_, rfl⟩
  have hFW : Fs Stm.cells 5 W A2 L := by rw [hW]; exact ((hF.alloc _).alloc _).alloc _
  have hNW : Ns W A1 bads := by rw [hW]; exact Ns.below hN (below_trans (below_trans (gr1 _ _) (gr1 _ _)) (gr1 _ _))
  have hB1 : ∀ w', Below W.heap.size W w' → Calls Try.prog 18 #[.agg #[.int .i64 n, .slice A1 bads.length c1, .slice A2 L.length c2], .int .i64 a] w' fun e w'' => e = .returned (.bool (badB n (badsL bads) a)) ∧ Below w'.heap.size w' w'' := fun w' h => by rw [badB_list hm]; exact rbad_any n A1 bads c1 _ a w' (Ns.below hNW h) hbl ⟨_, _, _, rfl⟩
  have hB2 : ∀ w', Below W.heap.size W w' → Calls Try.prog 18 #[.agg #[.int .i64 n, .slice A1 bads.length c1, .slice A2 L.length c2], .int .i64 f] w' fun e w'' => e = .returned (.bool (badB n (badsL bads) f)) ∧ Below w'.heap.size w' w'' := fun w' h => by rw [badB_list hm]; exact rbad_any n A1 bads c1 _ f w' (Ns.below hNW h) hbl ⟨_, _, _, rfl⟩
  have hH : ∀ w', Below W.heap.size W w' → Calls Try.prog 17 #[.agg #[.int .i64 n, .slice A1 bads.length c1, .slice A2 L.length c2], .agg #[.int .i64 f, .int .i64 k, .int .i64 v, .int .i64 q, .int .i64 t]] w' fun e w'' => e = .returned (.bool (decide ((⟨f, k, v, q, t⟩ : Stm) ∈ L))) ∧ Below w'.heap.size w' w'' := fun w' h => rhas_any n _ A2 L c2 f k v q t w' (hFW.below h) (by omega) ⟨_, _, _, rfl⟩
  have HF0 := hide hF
  have HE := hide (show sayE n (badsL bads) L a ⟨f, k, v, q, t⟩ = 19 from by unfold sayE; rw [h]; exact if_pos hcond)
  have HL := hide (show sayL n (badsL bads) L a ⟨f, k, v, q, t⟩ = L from by unfold sayL; rw [h]; exact if_pos hcond)
  rw [h1] at hB1
  rw [h2] at hB2
  have hne' : (f != a) = true := by rw [bne_iff_ne]; exact hne
  have ha0 : ¬ a < 0 := by have := h; simp at this; omega
  have ha1 : ¬ n ≤ a := by have := h; simp at this; omega
  have HB1 := hide hB1; have HB2 := hide hB2; have HHAS := hide hH
  subst hW
  have HB0 := hide (Below.refl (((w.alloc (.cells #[.int .i64 n, .slice A1 bads.length c1, .slice A2 L.length c2] 29)).alloc (.cells #[.int .i64 f, .int .i64 k, .int .i64 v, .int .i64 q, .int .i64 t] 25)).alloc (.cells #[.int .i64 0, .slice none 0 0, .slice none 0 0] 29)).heap.size (((w.alloc (.cells #[.int .i64 n, .slice A1 bads.length c1, .slice A2 L.length c2] 29)).alloc (.cells #[.int .i64 f, .int .i64 k, .int .i64 v, .int .i64 q, .int .i64 t] 25)).alloc (.cells #[.int .i64 0, .slice none 0 0, .slice none 0 0] 29)))
  unfold RSays
  rw [HE.out, HL.out]
  clear hB1 hB2 hH hF hN hFW hNW hm hbl hll h hcond hne
  go_enter Try.func9, Try.ntmps9
  go_wp2_with (first
    | (go_at_call_of 18 (Value.int .i64 f); refine (HB2.out _ hb3).mono ?_; rintro e w4 ⟨rfl, hb4'⟩; have hb4 := below_trans hb3 hb4'; obtain ⟨r0, r1, r2, s0, s1, s2, s3, s4, z0, z1, z2, zf, rf, zs, hb4w⟩ := rs_cells hb4)
    | (go_at_call_of 18 (Value.int .i64 a); refine (HB1.out _ HB0.out).mono ?_; rintro e w3 ⟨rfl, hb3⟩; obtain ⟨r0, r1, r2, s0, s1, s2, s3, s4, z0, z1, z2, zf, rf, zs, hb3w⟩ := rs_cells hb3))
  exact bodyPost_ret (v := .tuple #[.agg #[.int .i64 n, .slice A1 bads.length c1, .slice A2 L.length c2], .int .i64 19]) (by simp [results, Try.results9, go_sem, *]) rfl (rsayOut_same HF0.out (set3z hb4w _ (by omega) _ _ _))
set_option maxHeartbeats 4000000 in
theorem rsay_has_e (hN : Ns w A1 bads) (hbl : bads.length ≤ 34359738368) (hF : Fs Stm.cells 5 w A2 L) (hll : L.length ≤ 65536) (hm : mayR n bads = true) (h : (decide (0 ≤ a) && decide (a < n)) = true) (hne : f = a) (hin : (⟨f, k, v, q, t⟩ : Stm) ∈ L) : RSays w n A1 bads c1 A2 L c2 a ⟨f, k, v, q, t⟩ := by
  have hcond : ¬ (f ≠ a ∧ ¬ (badB n (badsL bads) a = true ∧ badB n (badsL bads) f = true)) := by first | exact fun hh => hh.1 hne | exact fun hh => hh.2 ⟨h1, h2⟩
  obtain ⟨W, hW⟩ : ∃ W, W = ((w.alloc (.cells #[.int .i64 n, .slice A1 bads.length c1, .slice A2 L.length c2] 29)).alloc (.cells #[.int .i64 f, .int .i64 k, .int .i64 v, .int .i64 q, .int .i64 t] 25)).alloc (.cells #[.int .i64 0, .slice none 0 0, .slice none 0 0] 29) := ⟨_, rfl⟩
  have hFW : Fs Stm.cells 5 W A2 L := by rw [hW]; exact ((hF.alloc _).alloc _).alloc _
  have hNW : Ns W A1 bads := by rw [hW]; exact Ns.below hN (below_trans (below_trans (gr1 _ _) (gr1 _ _)) (gr1 _ _))
  have hB1 : ∀ w', Below W.heap.size W w' → Calls Try.prog 18 #[.agg #[.int .i64 n, .slice A1 bads.length c1, .slice A2 L.length c2], .int .i64 a] w' fun e w'' => e = .returned (.bool (badB n (badsL bads) a)) ∧ Below w'.heap.size w' w'' := fun w' h => by rw [badB_list hm]; exact rbad_any n A1 bads c1 _ a w' (Ns.below hNW h) hbl ⟨_, _, _, rfl⟩
  have hB2 : ∀ w', Below W.heap.size W w' → Calls Try.prog 18 #[.agg #[.int .i64 n, .slice A1 bads.length c1, .slice A2 L.length c2], .int .i64 f] w' fun e w'' => e = .returned (.bool (badB n (badsL bads) f)) ∧ Below w'.heap.size w' w'' := fun w' h => by rw [badB_list hm]; exact rbad_any n A1 bads c1 _ f w' (Ns.below hNW h) hbl ⟨_, _, _, rfl⟩
  have hH : ∀ w', Below W.heap.size W w' → Calls Try.prog 17 #[.agg #[.int .i64 n, .slice A1 bads.length c1, .slice A2 L.length c2], .agg #[.int .i64 f, .int .i64 k, .int .i64 v, .int .i64 q, .int .i64 t]] w' fun e w'' => e = .returned (.bool (decide ((⟨f, k, v, q, t⟩ : Stm) ∈ L))) ∧ Below w'.heap.size w' w'' := fun w' h => rhas_any n _ A2 L c2 f k v q t w' (hFW.below h) (by omega) ⟨_, _, _, rfl⟩
  have HF0 := hide hF
  have HE := hide (show sayE n (badsL bads) L a ⟨f, k, v, q, t⟩ = 0 from by unfold sayE; rw [h]; exact (if_neg hcond).trans (if_pos hin))
  have HL := hide (show sayL n (badsL bads) L a ⟨f, k, v, q, t⟩ = L from by unfold sayL; rw [h]; exact (if_neg hcond).trans (if_pos hin))
  have hne' : (f != a) = false := by rw [hne]; simp
  rw [decide_eq_true hin] at hH
  have ha0 : ¬ a < 0 := by have := h; simp at this; omega
  have ha1 : ¬ n ≤ a := by have := h; simp at this; omega
  have HB1 := hide hB1; have HB2 := hide hB2; have HHAS := hide hH
  subst hW
  have HB0 := hide (Below.refl (((w.alloc (.cells #[.int .i64 n, .slice A1 bads.length c1, .slice A2 L.length c2] 29)).alloc (.cells #[.int .i64 f, .int .i64 k, .int .i64 v, .int .i64 q, .int .i64 t] 25)).alloc (.cells #[.int .i64 0, .slice none 0 0, .slice none 0 0] 29)).heap.size (((w.alloc (.cells #[.int .i64 n, .slice A1 bads.length c1, .slice A2 L.length c2] 29)).alloc (.cells #[.int .i64 f, .int .i64 k, .int .i64 v, .int .i64 q, .int .i64 t] 25)).alloc (.cells #[.int .i64 0, .slice none 0 0, .slice none 0 0] 29)))
  unfold RSays
  rw [HE.out, HL.out]
  clear hB1 hB2 hH hF hN hFW hNW hm hbl hll h hcond hne hin
  go_enter Try.func9, Try.ntmps9
  go_wp2_with (go_at_call 17; refine (HHAS.out _ HB0.out).mono ?_; rintro e w5 ⟨rfl, hb5⟩; obtain ⟨r0, r1, r2, s0, s1, s2, s3, s4, z0, z1, z2, zf, rf, zs, hb5w⟩ := rs_cells hb5)
  exact bodyPost_ret (v := .tuple #[.agg #[.int .i64 n, .slice A1 bads.length c1, .slice A2 L.length c2], .int .i64 0]) (by simp [results, Try.results9, go_sem, *]) rfl (rsayOut_same HF0.out (set3z hb5w _ (by omega) _ _ _))
set_option maxHeartbeats 4000000 in
theorem rsay_full_e (hN : Ns w A1 bads) (hbl : bads.length ≤ 34359738368) (hF : Fs Stm.cells 5 w A2 L) (hll : L.length ≤ 65536) (hm : mayR n bads = true) (h : (decide (0 ≤ a) && decide (a < n)) = true) (hne : f = a) (hin : ¬ (⟨f, k, v, q, t⟩ : Stm) ∈ L) (hfull : 65536 ≤ L.length) : RSays w n A1 bads c1 A2 L c2 a ⟨f, k, v, q, t⟩ := by
  have hcond : ¬ (f ≠ a ∧ ¬ (badB n (badsL bads) a = true ∧ badB n (badsL bads) f = true)) := by first | exact fun hh => hh.1 hne | exact fun hh => hh.2 ⟨h1, h2⟩
  obtain ⟨W, hW⟩ : ∃ W, W = ((w.alloc (.cells #[.int .i64 n, .slice A1 bads.length c1, .slice A2 L.length c2] 29)).alloc (.cells #[.int .i64 f, .int .i64 k, .int .i64 v, .int .i64 q, .int .i64 t] 25)).alloc (.cells #[.int .i64 0, .slice none 0 0, .slice none 0 0] 29) := ⟨_, rfl⟩
  have hFW : Fs Stm.cells 5 W A2 L := by rw [hW]; exact ((hF.alloc _).alloc _).alloc _
  have hNW : Ns W A1 bads := by rw [hW]; exact Ns.below hN (below_trans (below_trans (gr1 _ _) (gr1 _ _)) (gr1 _ _))
  have hB1 : ∀ w', Below W.heap.size W w' → Calls Try.prog 18 #[.agg #[.int .i64 n, .slice A1 bads.length c1, .slice A2 L.length c2], .int .i64 a] w' fun e w'' => e = .returned (.bool (badB n (badsL bads) a)) ∧ Below w'.heap.size w' w'' := fun w' h => by rw [badB_list hm]; exact rbad_any n A1 bads c1 _ a w' (Ns.below hNW h) hbl ⟨_, _, _, rfl⟩
  have hB2 : ∀ w', Below W.heap.size W w' → Calls Try.prog 18 #[.agg #[.int .i64 n, .slice A1 bads.length c1, .slice A2 L.length c2], .int .i64 f] w' fun e w'' => e = .returned (.bool (badB n (badsL bads) f)) ∧ Below w'.heap.size w' w'' := fun w' h => by rw [badB_list hm]; exact rbad_any n A1 bads c1 _ f w' (Ns.below hNW h) hbl ⟨_, _, _, rfl⟩
  have hH : ∀ w', Below W.heap.size W w' → Calls Try.prog 17 #[.agg #[.int .i64 n, .slice A1 bads.length c1, .slice A2 L.length c2], .agg #[.int .i64 f, .int .i64 k, .int .i64 v, .int .i64 q, .int .i64 t]] w' fun e w'' => e = .returned (.bool (decide ((⟨f, k, v, q, t⟩ : Stm) ∈ L))) ∧ Below w'.heap.size w' w'' := fun w' h => rhas_any n _ A2 L c2 f k v q t w' (hFW.below h) (by omega) ⟨_, _, _, rfl⟩
  have HF0 := hide hF
  have HE := hide (show sayE n (badsL bads) L a ⟨f, k, v, q, t⟩ = 5 from by unfold sayE; rw [h]; exact (if_neg hcond).trans ((if_neg hin).trans (if_pos hfull)))
  have HL := hide (show sayL n (badsL bads) L a ⟨f, k, v, q, t⟩ = L from by unfold sayL; rw [h]; exact (if_neg hcond).trans ((if_neg hin).trans (if_pos hfull)))
  have hne' : (f != a) = false := by rw [hne]; simp
  rw [decide_eq_false hin] at hH
  have hfull' : (65536 : Int) ≤ L.length := by omega
  have ha0 : ¬ a < 0 := by have := h; simp at this; omega
  have ha1 : ¬ n ≤ a := by have := h; simp at this; omega
  have HB1 := hide hB1; have HB2 := hide hB2; have HHAS := hide hH
  subst hW
  have HB0 := hide (Below.refl (((w.alloc (.cells #[.int .i64 n, .slice A1 bads.length c1, .slice A2 L.length c2] 29)).alloc (.cells #[.int .i64 f, .int .i64 k, .int .i64 v, .int .i64 q, .int .i64 t] 25)).alloc (.cells #[.int .i64 0, .slice none 0 0, .slice none 0 0] 29)).heap.size (((w.alloc (.cells #[.int .i64 n, .slice A1 bads.length c1, .slice A2 L.length c2] 29)).alloc (.cells #[.int .i64 f, .int .i64 k, .int .i64 v, .int .i64 q, .int .i64 t] 25)).alloc (.cells #[.int .i64 0, .slice none 0 0, .slice none 0 0] 29)))
  unfold RSays
  rw [HE.out, HL.out]
  clear hB1 hB2 hH hF hN hFW hNW hm hbl hll h hcond hne hin hfull
  go_enter Try.func9, Try.ntmps9
  go_wp2_with (go_at_call 17; refine (HHAS.out _ HB0.out).mono ?_; rintro e w5 ⟨rfl, hb5⟩; obtain ⟨r0, r1, r2, s0, s1, s2, s3, s4, z0, z1, z2, zf, rf, zs, hb5w⟩ := rs_cells hb5)
  exact bodyPost_ret (v := .tuple #[.agg #[.int .i64 n, .slice A1 bads.length c1, .slice A2 L.length c2], .int .i64 5]) (by simp [results, Try.results9, go_sem, *]) rfl (rsayOut_same HF0.out (set3z hb5w _ (by omega) _ _ _))
set_option maxHeartbeats 4000000 in
theorem rsay_new_e (hN : Ns w A1 bads) (hbl : bads.length ≤ 34359738368) (hF : Fs Stm.cells 5 w A2 L) (hll : L.length ≤ 65536) (hm : mayR n bads = true) (h : (decide (0 ≤ a) && decide (a < n)) = true) (hne : f = a) (hin : ¬ (⟨f, k, v, q, t⟩ : Stm) ∈ L) (hfull : ¬ 65536 ≤ L.length) : RSays w n A1 bads c1 A2 L c2 a ⟨f, k, v, q, t⟩ := by
  have hcond : ¬ (f ≠ a ∧ ¬ (badB n (badsL bads) a = true ∧ badB n (badsL bads) f = true)) := by first | exact fun hh => hh.1 hne | exact fun hh => hh.2 ⟨h1, h2⟩
  obtain ⟨W, hW⟩ : ∃ W, W = ((w.alloc (.cells #[.int .i64 n, .slice A1 bads.length c1, .slice A2 L.length c2] 29)).alloc (.cells #[.int .i64 f, .int .i64 k, .int .i64 v, .int .i64 q, .int .i64 t] 25)).alloc (.cells #[.int .i64 0, .slice none 0 0, .slice none 0 0] 29) := ⟨_, rfl⟩
  have hFW : Fs Stm.cells 5 W A2 L := by rw [hW]; exact ((hF.alloc _).alloc _).alloc _
  have hNW : Ns W A1 bads := by rw [hW]; exact Ns.below hN (below_trans (below_trans (gr1 _ _) (gr1 _ _)) (gr1 _ _))
  have hB1 : ∀ w', Below W.heap.size W w' → Calls Try.prog 18 #[.agg #[.int .i64 n, .slice A1 bads.length c1, .slice A2 L.length c2], .int .i64 a] w' fun e w'' => e = .returned (.bool (badB n (badsL bads) a)) ∧ Below w'.heap.size w' w'' := fun w' h => by rw [badB_list hm]; exact rbad_any n A1 bads c1 _ a w' (Ns.below hNW h) hbl ⟨_, _, _, rfl⟩
  have hB2 : ∀ w', Below W.heap.size W w' → Calls Try.prog 18 #[.agg #[.int .i64 n, .slice A1 bads.length c1, .slice A2 L.length c2], .int .i64 f] w' fun e w'' => e = .returned (.bool (badB n (badsL bads) f)) ∧ Below w'.heap.size w' w'' := fun w' h => by rw [badB_list hm]; exact rbad_any n A1 bads c1 _ f w' (Ns.below hNW h) hbl ⟨_, _, _, rfl⟩
  have hH : ∀ w', Below W.heap.size W w' → Calls Try.prog 17 #[.agg #[.int .i64 n, .slice A1 bads.length c1, .slice A2 L.length c2], .agg #[.int .i64 f, .int .i64 k, .int .i64 v, .int .i64 q, .int .i64 t]] w' fun e w'' => e = .returned (.bool (decide ((⟨f, k, v, q, t⟩ : Stm) ∈ L))) ∧ Below w'.heap.size w' w'' := fun w' h => rhas_any n _ A2 L c2 f k v q t w' (hFW.below h) (by omega) ⟨_, _, _, rfl⟩
  have HF0 := hide hF
  have HE := hide (show sayE n (badsL bads) L a ⟨f, k, v, q, t⟩ = 0 from by unfold sayE; rw [h]; exact (if_neg hcond).trans ((if_neg hin).trans (if_neg hfull)))
  have HL := hide (show sayL n (badsL bads) L a ⟨f, k, v, q, t⟩ = L ++ [⟨f, k, v, q, t⟩] from by unfold sayL; rw [h]; exact (if_neg hcond).trans ((if_neg hin).trans (if_neg hfull)))
  have hne' : (f != a) = false := by rw [hne]; simp
  rw [decide_eq_false hin] at hH
  have hfull' : ¬ (65536 : Int) ≤ L.length := by omega
  have hfd : decide ((65536 : Int) ≤ L.length) = false := decide_eq_false hfull'
  have HFUL := hide hfull; have HFW := hide (fun (w5 : World) (h : Below W.heap.size W w5) => hFW.below h)
  have ha0 : ¬ a < 0 := by have := h; simp at this; omega
  have ha1 : ¬ n ≤ a := by have := h; simp at this; omega
  have HB1 := hide hB1; have HB2 := hide hB2; have HHAS := hide hH
  subst hW
  have HB0 := hide (Below.refl (((w.alloc (.cells #[.int .i64 n, .slice A1 bads.length c1, .slice A2 L.length c2] 29)).alloc (.cells #[.int .i64 f, .int .i64 k, .int .i64 v, .int .i64 q, .int .i64 t] 25)).alloc (.cells #[.int .i64 0, .slice none 0 0, .slice none 0 0] 29)).heap.size (((w.alloc (.cells #[.int .i64 n, .slice A1 bads.length c1, .slice A2 L.length c2] 29)).alloc (.cells #[.int .i64 f, .int .i64 k, .int .i64 v, .int .i64 q, .int .i64 t] 25)).alloc (.cells #[.int .i64 0, .slice none 0 0, .slice none 0 0] 29)))
  unfold RSays
  rw [HE.out, HL.out]
  clear hB1 hB2 hH hF hN hFW hNW hm hbl hll h hcond hne hin hfull
  go_enter Try.func9, Try.ntmps9
  go_wp2_with (go_at_call 17; refine (HHAS.out _ HB0.out).mono ?_; rintro e w5 ⟨rfl, hb5⟩; obtain ⟨r0, r1, r2, s0, s1, s2, s3, s4, z0, z1, z2, zf, rf, zs, hb5w⟩ := rs_cells hb5)
  have HF5 := hide (HFW.out w5 hb5)
  have hz0 : w.heap.size < w5.heap.size := by omega
  have hz1 : w.heap.size + 1 < w5.heap.size := by omega
  have hll2 : L.length + 1 ≤ 34359738368 := by have := HFUL.out; omega
  go_region_law
    (first
      | (refine step_appG _ rfl (.tmp 47) (.tmp 49) _ (by rfl) w5 w5.heap.size 25 _ 5 40 Try.underlying23 info_stm rfl (by omega) (by omega) _ L.length (L.flatMap Stm.cells) (by rfl) hown47 hb47 _ 1 1 [.int .i64 f, .int .i64 k, .int .i64 v, .int .i64 q, .int .i64 t] (by rfl) hY (by intro u hu; simp at hu; rcases hu with rfl | rfl | rfl | rfl | rfl <;> rfl) (by omega) hb47.size ?_; intro A50 c50 w50 hown50 hb50 hg50; obtain ⟨r0, r1, r2, s0, s1, s2, s3, s4, z0, z1, z2, zf, rf, zs, hb50w⟩ := rs_cells (below_trans hb5 hb50); have HO50 := hide hown50; have HB50 := hide hb50; clear hown50 hg50)
      | (refine step_appG _ rfl (.tmp 47) (.tmp 49) _ (by rfl) w5 w5.heap.size 25 _ 5 40 Try.underlying23 info_stm rfl (by omega) (by omega) _ L.length (L.flatMap Stm.cells) (by rfl) (hown47.alloc _) (hb47.alloc hb47.size _) _ 1 1 [.int .i64 f, .int .i64 k, .int .i64 v, .int .i64 q, .int .i64 t] (by rfl) (rd_new5 w47 w47.heap.size 25 #[.int .i64 f, .int .i64 k, .int .i64 v, .int .i64 q, .int .i64 t] rfl rfl) (by intro u hu; simp at hu; rcases hu with rfl | rfl | rfl | rfl | rfl <;> rfl) (by omega) (by have := hb47.size; simp; omega) ?_; intro A50 c50 w50 hown50 hb50 hg50; obtain ⟨r0, r1, r2, s0, s1, s2, s3, s4, z0, z1, z2, zf, rf, zs, hb50w⟩ := rs_cells (below_trans hb5 hb50); have HO50 := hide hown50; have HB50 := hide hb50; clear hown50 hg50)
      | (refine step_appG _ rfl (.tmp 44) (.tmp 46) _ (by rfl) w5 w5.heap.size 25 _ 5 40 Try.underlying23 info_stm rfl (by omega) (by omega) _ 0 [] (by rfl) (own_newH w5 w5.heap.size _ rfl (Nat.le_refl _)).drew ((gr1 w5 _).drew) A2 L.length c2 (L.flatMap Stm.cells) (by rfl) ((HF5.out.alloc _).drew) (stm_one L) (by omega) (by simp <;> omega) ?_; intro A47 c47 w47 hown47 hb47 hg47; simp only [Nat.zero_add, List.nil_append] at hown47; rw [show (0 : Nat) + L.length = L.length from Nat.zero_add _]; obtain ⟨s0, s1, s2, s3, s4, rr2, rrf, zz0, zz1⟩ := rs_some (below_trans hb5 hb47))
      | (refine step_appG _ rfl (.tmp 44) (.tmp 46) _ (by rfl) w5 w5.heap.size 25 _ 5 40 Try.underlying23 info_stm rfl (by omega) (by omega) _ 0 [] (by rfl) ((own_newH w5 w5.heap.size _ rfl (Nat.le_refl _)).alloc (.cells #[.int .i64 f, .int .i64 k, .int .i64 v, .int .i64 q, .int .i64 t] 25)).drew ((below_trans (gr1 w5 _) (gr1 _ _)).drew) A2 L.length c2 (L.flatMap Stm.cells) (by rfl) (((HF5.out.alloc _).alloc _).drew) (stm_one L) (by omega) (by simp <;> omega) ?_; intro A47 c47 w47 hown47 hb47 hg47; simp only [Nat.zero_add, List.nil_append] at hown47; rw [show (0 : Nat) + L.length = L.length from Nat.zero_add _]; obtain ⟨s0, s1, s2, s3, s4, rr2, rrf, zz0, zz1⟩ := rs_some (below_trans hb5 hb47); have hY := rd_kept (rd_new5 (w5.alloc (.cells #[] 25)) (w5.heap.size + 1) 25 #[.int .i64 f, .int .i64 k, .int .i64 v, .int .i64 q, .int .i64 t] rfl (by simp)).drew hg47 (by simp [Value.ownBlock]))
      | (refine step_appG _ rfl (.tmp 44) (.tmp 46) _ (by rfl) w5 w5.heap.size 25 _ 5 40 Try.underlying23 info_stm rfl (by omega) (by omega) _ 0 [] (by rfl) (own_newH (w5.alloc (.cells #[.int .i64 f, .int .i64 k, .int .i64 v, .int .i64 q, .int .i64 t] 25)) w5.heap.size (w5.heap.size + 1) (by simp) (by simp)).drew ((below_trans (gr1 w5 _) (gr1 _ _)).drew) A2 L.length c2 (L.flatMap Stm.cells) (by rfl) (((HF5.out.alloc _).alloc _).drew) (stm_one L) (by omega) (by simp <;> omega) ?_; intro A47 c47 w47 hown47 hb47 hg47; simp only [Nat.zero_add, List.nil_append] at hown47; rw [show (0 : Nat) + L.length = L.length from Nat.zero_add _]; obtain ⟨s0, s1, s2, s3, s4, rr2, rrf, zz0, zz1⟩ := rs_some (below_trans hb5 hb47); have hY := rd_kept ((rd_new5 w5 w5.heap.size 25 #[.int .i64 f, .int .i64 k, .int .i64 v, .int .i64 q, .int .i64 t] rfl rfl).alloc (.cells #[] 25)).drew hg47 (by simp [Value.ownBlock]))
    )
  all_goals clear HF5 hb5 hb47 hg47 HFW HB0 HHAS HB1 HB2
  all_goals go_wp2_with fail
  all_goals exact bodyPost_ret (v := .tuple #[.agg #[.int .i64 n, .slice A1 bads.length c1, .slice A50 (L.length + 1) c50], .int .i64 0]) (by simp [results, Try.results9, go_sem, *]) rfl (rsayOut_new HO50.out hz0 (by omega) hb50w)
set_option maxHeartbeats 4000000 in
theorem rsay_has_b (hN : Ns w A1 bads) (hbl : bads.length ≤ 34359738368) (hF : Fs Stm.cells 5 w A2 L) (hll : L.length ≤ 65536) (hm : mayR n bads = true) (h : (decide (0 ≤ a) && decide (a < n)) = true) (hne : f ≠ a) (h1 : badB n (badsL bads) a = true) (h2 : badB n (badsL bads) f = true) (hin : (⟨f, k, v, q, t⟩ : Stm) ∈ L) : RSays w n A1 bads c1 A2 L c2 a ⟨f, k, v, q, t⟩ := by
  have hcond : ¬ (f ≠ a ∧ ¬ (badB n (badsL bads) a = true ∧ badB n (badsL bads) f = true)) := by first | exact fun hh => hh.1 hne | exact fun hh => hh.2 ⟨h1, h2⟩
  obtain ⟨W, hW⟩ : ∃ W, W = ((w.alloc (.cells #[.int .i64 n, .slice A1 bads.length c1, .slice A2 L.length c2] 29)).alloc (.cells #[.int .i64 f, .int .i64 k, .int .i64 v, .int .i64 q, .int .i64 t] 25)).alloc (.cells #[.int .i64 0, .slice none 0 0, .slice none 0 0] 29) := ⟨_, rfl⟩
  have hFW : Fs Stm.cells 5 W A2 L := by rw [hW]; exact ((hF.alloc _).alloc _).alloc _
  have hNW : Ns W A1 bads := by rw [hW]; exact Ns.below hN (below_trans (below_trans (gr1 _ _) (gr1 _ _)) (gr1 _ _))
  have hB1 : ∀ w', Below W.heap.size W w' → Calls Try.prog 18 #[.agg #[.int .i64 n, .slice A1 bads.length c1, .slice A2 L.length c2], .int .i64 a] w' fun e w'' => e = .returned (.bool (badB n (badsL bads) a)) ∧ Below w'.heap.size w' w'' := fun w' h => by rw [badB_list hm]; exact rbad_any n A1 bads c1 _ a w' (Ns.below hNW h) hbl ⟨_, _, _, rfl⟩
  have hB2 : ∀ w', Below W.heap.size W w' → Calls Try.prog 18 #[.agg #[.int .i64 n, .slice A1 bads.length c1, .slice A2 L.length c2], .int .i64 f] w' fun e w'' => e = .returned (.bool (badB n (badsL bads) f)) ∧ Below w'.heap.size w' w'' := fun w' h => by rw [badB_list hm]; exact rbad_any n A1 bads c1 _ f w' (Ns.below hNW h) hbl ⟨_, _, _, rfl⟩
  have hH : ∀ w', Below W.heap.size W w' → Calls Try.prog 17 #[.agg #[.int .i64 n, .slice A1 bads.length c1, .slice A2 L.length c2], .agg #[.int .i64 f, .int .i64 k, .int .i64 v, .int .i64 q, .int .i64 t]] w' fun e w'' => e = .returned (.bool (decide ((⟨f, k, v, q, t⟩ : Stm) ∈ L))) ∧ Below w'.heap.size w' w'' := fun w' h => rhas_any n _ A2 L c2 f k v q t w' (hFW.below h) (by omega) ⟨_, _, _, rfl⟩
  have HF0 := hide hF
  have HE := hide (show sayE n (badsL bads) L a ⟨f, k, v, q, t⟩ = 0 from by unfold sayE; rw [h]; exact (if_neg hcond).trans (if_pos hin))
  have HL := hide (show sayL n (badsL bads) L a ⟨f, k, v, q, t⟩ = L from by unfold sayL; rw [h]; exact (if_neg hcond).trans (if_pos hin))
  have hne' : (f != a) = true := by rw [bne_iff_ne]; exact hne
  rw [h1] at hB1
  rw [h2] at hB2
  rw [decide_eq_true hin] at hH
  have ha0 : ¬ a < 0 := by have := h; simp at this; omega
  have ha1 : ¬ n ≤ a := by have := h; simp at this; omega
  have HB1 := hide hB1; have HB2 := hide hB2; have HHAS := hide hH
  subst hW
  have HB0 := hide (Below.refl (((w.alloc (.cells #[.int .i64 n, .slice A1 bads.length c1, .slice A2 L.length c2] 29)).alloc (.cells #[.int .i64 f, .int .i64 k, .int .i64 v, .int .i64 q, .int .i64 t] 25)).alloc (.cells #[.int .i64 0, .slice none 0 0, .slice none 0 0] 29)).heap.size (((w.alloc (.cells #[.int .i64 n, .slice A1 bads.length c1, .slice A2 L.length c2] 29)).alloc (.cells #[.int .i64 f, .int .i64 k, .int .i64 v, .int .i64 q, .int .i64 t] 25)).alloc (.cells #[.int .i64 0, .slice none 0 0, .slice none 0 0] 29)))
  unfold RSays
  rw [HE.out, HL.out]
  clear hB1 hB2 hH hF hN hFW hNW hm hbl hll h hcond hne hin
  go_enter Try.func9, Try.ntmps9
  go_wp2_with (first
    | (go_at_call 17; refine (HHAS.out _ hb4).mono ?_; rintro e w5 ⟨rfl, hb5'⟩; have hb5 := below_trans hb4 hb5'; obtain ⟨r0, r1, r2, s0, s1, s2, s3, s4, z0, z1, z2, zf, rf, zs, hb5w⟩ := rs_cells hb5)
    | (go_at_call_of 18 (Value.int .i64 f); refine (HB2.out _ hb3).mono ?_; rintro e w4 ⟨rfl, hb4'⟩; have hb4 := below_trans hb3 hb4'; obtain ⟨r0, r1, r2, s0, s1, s2, s3, s4, z0, z1, z2, zf, rf, zs, hb4w⟩ := rs_cells hb4)
    | (go_at_call_of 18 (Value.int .i64 a); refine (HB1.out _ HB0.out).mono ?_; rintro e w3 ⟨rfl, hb3⟩; obtain ⟨r0, r1, r2, s0, s1, s2, s3, s4, z0, z1, z2, zf, rf, zs, hb3w⟩ := rs_cells hb3))
  exact bodyPost_ret (v := .tuple #[.agg #[.int .i64 n, .slice A1 bads.length c1, .slice A2 L.length c2], .int .i64 0]) (by simp [results, Try.results9, go_sem, *]) rfl (rsayOut_same HF0.out (set3z hb5w _ (by omega) _ _ _))
set_option maxHeartbeats 4000000 in
theorem rsay_full_b (hN : Ns w A1 bads) (hbl : bads.length ≤ 34359738368) (hF : Fs Stm.cells 5 w A2 L) (hll : L.length ≤ 65536) (hm : mayR n bads = true) (h : (decide (0 ≤ a) && decide (a < n)) = true) (hne : f ≠ a) (h1 : badB n (badsL bads) a = true) (h2 : badB n (badsL bads) f = true) (hin : ¬ (⟨f, k, v, q, t⟩ : Stm) ∈ L) (hfull : 65536 ≤ L.length) : RSays w n A1 bads c1 A2 L c2 a ⟨f, k, v, q, t⟩ := by
  have hcond : ¬ (f ≠ a ∧ ¬ (badB n (badsL bads) a = true ∧ badB n (badsL bads) f = true)) := by first | exact fun hh => hh.1 hne | exact fun hh => hh.2 ⟨h1, h2⟩
  obtain ⟨W, hW⟩ : ∃ W, W = ((w.alloc (.cells #[.int .i64 n, .slice A1 bads.length c1, .slice A2 L.length c2] 29)).alloc (.cells #[.int .i64 f, .int .i64 k, .int .i64 v, .int .i64 q, .int .i64 t] 25)).alloc (.cells #[.int .i64 0, .slice none 0 0, .slice none 0 0] 29) := ⟨_, rfl⟩
  have hFW : Fs Stm.cells 5 W A2 L := by rw [hW]; exact ((hF.alloc _).alloc _).alloc _
  have hNW : Ns W A1 bads := by rw [hW]; exact Ns.below hN (below_trans (below_trans (gr1 _ _) (gr1 _ _)) (gr1 _ _))
  have hB1 : ∀ w', Below W.heap.size W w' → Calls Try.prog 18 #[.agg #[.int .i64 n, .slice A1 bads.length c1, .slice A2 L.length c2], .int .i64 a] w' fun e w'' => e = .returned (.bool (badB n (badsL bads) a)) ∧ Below w'.heap.size w' w'' := fun w' h => by rw [badB_list hm]; exact rbad_any n A1 bads c1 _ a w' (Ns.below hNW h) hbl ⟨_, _, _, rfl⟩
  have hB2 : ∀ w', Below W.heap.size W w' → Calls Try.prog 18 #[.agg #[.int .i64 n, .slice A1 bads.length c1, .slice A2 L.length c2], .int .i64 f] w' fun e w'' => e = .returned (.bool (badB n (badsL bads) f)) ∧ Below w'.heap.size w' w'' := fun w' h => by rw [badB_list hm]; exact rbad_any n A1 bads c1 _ f w' (Ns.below hNW h) hbl ⟨_, _, _, rfl⟩
  have hH : ∀ w', Below W.heap.size W w' → Calls Try.prog 17 #[.agg #[.int .i64 n, .slice A1 bads.length c1, .slice A2 L.length c2], .agg #[.int .i64 f, .int .i64 k, .int .i64 v, .int .i64 q, .int .i64 t]] w' fun e w'' => e = .returned (.bool (decide ((⟨f, k, v, q, t⟩ : Stm) ∈ L))) ∧ Below w'.heap.size w' w'' := fun w' h => rhas_any n _ A2 L c2 f k v q t w' (hFW.below h) (by omega) ⟨_, _, _, rfl⟩
  have HF0 := hide hF
  have HE := hide (show sayE n (badsL bads) L a ⟨f, k, v, q, t⟩ = 5 from by unfold sayE; rw [h]; exact (if_neg hcond).trans ((if_neg hin).trans (if_pos hfull)))
  have HL := hide (show sayL n (badsL bads) L a ⟨f, k, v, q, t⟩ = L from by unfold sayL; rw [h]; exact (if_neg hcond).trans ((if_neg hin).trans (if_pos hfull)))
  have hne' : (f != a) = true := by rw [bne_iff_ne]; exact hne
  rw [h1] at hB1
  rw [h2] at hB2
  rw [decide_eq_false hin] at hH
  have hfull' : (65536 : Int) ≤ L.length := by omega
  have ha0 : ¬ a < 0 := by have := h; simp at this; omega
  have ha1 : ¬ n ≤ a := by have := h; simp at this; omega
  have HB1 := hide hB1; have HB2 := hide hB2; have HHAS := hide hH
  subst hW
  have HB0 := hide (Below.refl (((w.alloc (.cells #[.int .i64 n, .slice A1 bads.length c1, .slice A2 L.length c2] 29)).alloc (.cells #[.int .i64 f, .int .i64 k, .int .i64 v, .int .i64 q, .int .i64 t] 25)).alloc (.cells #[.int .i64 0, .slice none 0 0, .slice none 0 0] 29)).heap.size (((w.alloc (.cells #[.int .i64 n, .slice A1 bads.length c1, .slice A2 L.length c2] 29)).alloc (.cells #[.int .i64 f, .int .i64 k, .int .i64 v, .int .i64 q, .int .i64 t] 25)).alloc (.cells #[.int .i64 0, .slice none 0 0, .slice none 0 0] 29)))
  unfold RSays
  rw [HE.out, HL.out]
  clear hB1 hB2 hH hF hN hFW hNW hm hbl hll h hcond hne hin hfull
  go_enter Try.func9, Try.ntmps9
  go_wp2_with (first
    | (go_at_call 17; refine (HHAS.out _ hb4).mono ?_; rintro e w5 ⟨rfl, hb5'⟩; have hb5 := below_trans hb4 hb5'; obtain ⟨r0, r1, r2, s0, s1, s2, s3, s4, z0, z1, z2, zf, rf, zs, hb5w⟩ := rs_cells hb5)
    | (go_at_call_of 18 (Value.int .i64 f); refine (HB2.out _ hb3).mono ?_; rintro e w4 ⟨rfl, hb4'⟩; have hb4 := below_trans hb3 hb4'; obtain ⟨r0, r1, r2, s0, s1, s2, s3, s4, z0, z1, z2, zf, rf, zs, hb4w⟩ := rs_cells hb4)
    | (go_at_call_of 18 (Value.int .i64 a); refine (HB1.out _ HB0.out).mono ?_; rintro e w3 ⟨rfl, hb3⟩; obtain ⟨r0, r1, r2, s0, s1, s2, s3, s4, z0, z1, z2, zf, rf, zs, hb3w⟩ := rs_cells hb3))
  exact bodyPost_ret (v := .tuple #[.agg #[.int .i64 n, .slice A1 bads.length c1, .slice A2 L.length c2], .int .i64 5]) (by simp [results, Try.results9, go_sem, *]) rfl (rsayOut_same HF0.out (set3z hb5w _ (by omega) _ _ _))
set_option maxHeartbeats 4000000 in
theorem rsay_new_b (hN : Ns w A1 bads) (hbl : bads.length ≤ 34359738368) (hF : Fs Stm.cells 5 w A2 L) (hll : L.length ≤ 65536) (hm : mayR n bads = true) (h : (decide (0 ≤ a) && decide (a < n)) = true) (hne : f ≠ a) (h1 : badB n (badsL bads) a = true) (h2 : badB n (badsL bads) f = true) (hin : ¬ (⟨f, k, v, q, t⟩ : Stm) ∈ L) (hfull : ¬ 65536 ≤ L.length) : RSays w n A1 bads c1 A2 L c2 a ⟨f, k, v, q, t⟩ := by
  have hcond : ¬ (f ≠ a ∧ ¬ (badB n (badsL bads) a = true ∧ badB n (badsL bads) f = true)) := by first | exact fun hh => hh.1 hne | exact fun hh => hh.2 ⟨h1, h2⟩
  obtain ⟨W, hW⟩ : ∃ W, W = ((w.alloc (.cells #[.int .i64 n, .slice A1 bads.length c1, .slice A2 L.length c2] 29)).alloc (.cells #[.int .i64 f, .int .i64 k, .int .i64 v, .int .i64 q, .int .i64 t] 25)).alloc (.cells #[.int .i64 0, .slice none 0 0, .slice none 0 0] 29) := ⟨_, rfl⟩
  have hFW : Fs Stm.cells 5 W A2 L := by rw [hW]; exact ((hF.alloc _).alloc _).alloc _
  have hNW : Ns W A1 bads := by rw [hW]; exact Ns.below hN (below_trans (below_trans (gr1 _ _) (gr1 _ _)) (gr1 _ _))
  have hB1 : ∀ w', Below W.heap.size W w' → Calls Try.prog 18 #[.agg #[.int .i64 n, .slice A1 bads.length c1, .slice A2 L.length c2], .int .i64 a] w' fun e w'' => e = .returned (.bool (badB n (badsL bads) a)) ∧ Below w'.heap.size w' w'' := fun w' h => by rw [badB_list hm]; exact rbad_any n A1 bads c1 _ a w' (Ns.below hNW h) hbl ⟨_, _, _, rfl⟩
  have hB2 : ∀ w', Below W.heap.size W w' → Calls Try.prog 18 #[.agg #[.int .i64 n, .slice A1 bads.length c1, .slice A2 L.length c2], .int .i64 f] w' fun e w'' => e = .returned (.bool (badB n (badsL bads) f)) ∧ Below w'.heap.size w' w'' := fun w' h => by rw [badB_list hm]; exact rbad_any n A1 bads c1 _ f w' (Ns.below hNW h) hbl ⟨_, _, _, rfl⟩
  have hH : ∀ w', Below W.heap.size W w' → Calls Try.prog 17 #[.agg #[.int .i64 n, .slice A1 bads.length c1, .slice A2 L.length c2], .agg #[.int .i64 f, .int .i64 k, .int .i64 v, .int .i64 q, .int .i64 t]] w' fun e w'' => e = .returned (.bool (decide ((⟨f, k, v, q, t⟩ : Stm) ∈ L))) ∧ Below w'.heap.size w' w'' := fun w' h => rhas_any n _ A2 L c2 f k v q t w' (hFW.below h) (by omega) ⟨_, _, _, rfl⟩
  have HF0 := hide hF
  have HE := hide (show sayE n (badsL bads) L a ⟨f, k, v, q, t⟩ = 0 from by unfold sayE; rw [h]; exact (if_neg hcond).trans ((if_neg hin).trans (if_neg hfull)))
  have HL := hide (show sayL n (badsL bads) L a ⟨f, k, v, q, t⟩ = L ++ [⟨f, k, v, q, t⟩] from by unfold sayL; rw [h]; exact (if_neg hcond).trans ((if_neg hin).trans (if_neg hfull)))
  have hne' : (f != a) = true := by rw [bne_iff_ne]; exact hne
  rw [h1] at hB1
  rw [h2] at hB2
  rw [decide_eq_false hin] at hH
  have hfull' : ¬ (65536 : Int) ≤ L.length := by omega
  have hfd : decide ((65536 : Int) ≤ L.length) = false := decide_eq_false hfull'
  have HFUL := hide hfull; have HFW := hide (fun (w5 : World) (h : Below W.heap.size W w5) => hFW.below h)
  have ha0 : ¬ a < 0 := by have := h; simp at this; omega
  have ha1 : ¬ n ≤ a := by have := h; simp at this; omega
  have HB1 := hide hB1; have HB2 := hide hB2; have HHAS := hide hH
  subst hW
  have HB0 := hide (Below.refl (((w.alloc (.cells #[.int .i64 n, .slice A1 bads.length c1, .slice A2 L.length c2] 29)).alloc (.cells #[.int .i64 f, .int .i64 k, .int .i64 v, .int .i64 q, .int .i64 t] 25)).alloc (.cells #[.int .i64 0, .slice none 0 0, .slice none 0 0] 29)).heap.size (((w.alloc (.cells #[.int .i64 n, .slice A1 bads.length c1, .slice A2 L.length c2] 29)).alloc (.cells #[.int .i64 f, .int .i64 k, .int .i64 v, .int .i64 q, .int .i64 t] 25)).alloc (.cells #[.int .i64 0, .slice none 0 0, .slice none 0 0] 29)))
  unfold RSays
  rw [HE.out, HL.out]
  clear hB1 hB2 hH hF hN hFW hNW hm hbl hll h hcond hne hin hfull
  go_enter Try.func9, Try.ntmps9
  go_wp2_with (first
    | (go_at_call 17; refine (HHAS.out _ hb4).mono ?_; rintro e w5 ⟨rfl, hb5'⟩; have hb5 := below_trans hb4 hb5'; obtain ⟨r0, r1, r2, s0, s1, s2, s3, s4, z0, z1, z2, zf, rf, zs, hb5w⟩ := rs_cells hb5)
    | (go_at_call_of 18 (Value.int .i64 f); refine (HB2.out _ hb3).mono ?_; rintro e w4 ⟨rfl, hb4'⟩; have hb4 := below_trans hb3 hb4'; obtain ⟨r0, r1, r2, s0, s1, s2, s3, s4, z0, z1, z2, zf, rf, zs, hb4w⟩ := rs_cells hb4)
    | (go_at_call_of 18 (Value.int .i64 a); refine (HB1.out _ HB0.out).mono ?_; rintro e w3 ⟨rfl, hb3⟩; obtain ⟨r0, r1, r2, s0, s1, s2, s3, s4, z0, z1, z2, zf, rf, zs, hb3w⟩ := rs_cells hb3))
  have HF5 := hide (HFW.out w5 hb5)
  have hz0 : w.heap.size < w5.heap.size := by omega
  have hz1 : w.heap.size + 1 < w5.heap.size := by omega
  have hll2 : L.length + 1 ≤ 34359738368 := by have := HFUL.out; omega
  go_region_law
    (first
      | (refine step_appG _ rfl (.tmp 47) (.tmp 49) _ (by rfl) w5 w5.heap.size 25 _ 5 40 Try.underlying23 info_stm rfl (by omega) (by omega) _ L.length (L.flatMap Stm.cells) (by rfl) hown47 hb47 _ 1 1 [.int .i64 f, .int .i64 k, .int .i64 v, .int .i64 q, .int .i64 t] (by rfl) hY (by intro u hu; simp at hu; rcases hu with rfl | rfl | rfl | rfl | rfl <;> rfl) (by omega) hb47.size ?_; intro A50 c50 w50 hown50 hb50 hg50; obtain ⟨r0, r1, r2, s0, s1, s2, s3, s4, z0, z1, z2, zf, rf, zs, hb50w⟩ := rs_cells (below_trans hb5 hb50); have HO50 := hide hown50; have HB50 := hide hb50; clear hown50 hg50)
      | (refine step_appG _ rfl (.tmp 47) (.tmp 49) _ (by rfl) w5 w5.heap.size 25 _ 5 40 Try.underlying23 info_stm rfl (by omega) (by omega) _ L.length (L.flatMap Stm.cells) (by rfl) (hown47.alloc _) (hb47.alloc hb47.size _) _ 1 1 [.int .i64 f, .int .i64 k, .int .i64 v, .int .i64 q, .int .i64 t] (by rfl) (rd_new5 w47 w47.heap.size 25 #[.int .i64 f, .int .i64 k, .int .i64 v, .int .i64 q, .int .i64 t] rfl rfl) (by intro u hu; simp at hu; rcases hu with rfl | rfl | rfl | rfl | rfl <;> rfl) (by omega) (by have := hb47.size; simp; omega) ?_; intro A50 c50 w50 hown50 hb50 hg50; obtain ⟨r0, r1, r2, s0, s1, s2, s3, s4, z0, z1, z2, zf, rf, zs, hb50w⟩ := rs_cells (below_trans hb5 hb50); have HO50 := hide hown50; have HB50 := hide hb50; clear hown50 hg50)
      | (refine step_appG _ rfl (.tmp 44) (.tmp 46) _ (by rfl) w5 w5.heap.size 25 _ 5 40 Try.underlying23 info_stm rfl (by omega) (by omega) _ 0 [] (by rfl) (own_newH w5 w5.heap.size _ rfl (Nat.le_refl _)).drew ((gr1 w5 _).drew) A2 L.length c2 (L.flatMap Stm.cells) (by rfl) ((HF5.out.alloc _).drew) (stm_one L) (by omega) (by simp <;> omega) ?_; intro A47 c47 w47 hown47 hb47 hg47; simp only [Nat.zero_add, List.nil_append] at hown47; rw [show (0 : Nat) + L.length = L.length from Nat.zero_add _]; obtain ⟨s0, s1, s2, s3, s4, rr2, rrf, zz0, zz1⟩ := rs_some (below_trans hb5 hb47))
      | (refine step_appG _ rfl (.tmp 44) (.tmp 46) _ (by rfl) w5 w5.heap.size 25 _ 5 40 Try.underlying23 info_stm rfl (by omega) (by omega) _ 0 [] (by rfl) ((own_newH w5 w5.heap.size _ rfl (Nat.le_refl _)).alloc (.cells #[.int .i64 f, .int .i64 k, .int .i64 v, .int .i64 q, .int .i64 t] 25)).drew ((below_trans (gr1 w5 _) (gr1 _ _)).drew) A2 L.length c2 (L.flatMap Stm.cells) (by rfl) (((HF5.out.alloc _).alloc _).drew) (stm_one L) (by omega) (by simp <;> omega) ?_; intro A47 c47 w47 hown47 hb47 hg47; simp only [Nat.zero_add, List.nil_append] at hown47; rw [show (0 : Nat) + L.length = L.length from Nat.zero_add _]; obtain ⟨s0, s1, s2, s3, s4, rr2, rrf, zz0, zz1⟩ := rs_some (below_trans hb5 hb47); have hY := rd_kept (rd_new5 (w5.alloc (.cells #[] 25)) (w5.heap.size + 1) 25 #[.int .i64 f, .int .i64 k, .int .i64 v, .int .i64 q, .int .i64 t] rfl (by simp)).drew hg47 (by simp [Value.ownBlock]))
      | (refine step_appG _ rfl (.tmp 44) (.tmp 46) _ (by rfl) w5 w5.heap.size 25 _ 5 40 Try.underlying23 info_stm rfl (by omega) (by omega) _ 0 [] (by rfl) (own_newH (w5.alloc (.cells #[.int .i64 f, .int .i64 k, .int .i64 v, .int .i64 q, .int .i64 t] 25)) w5.heap.size (w5.heap.size + 1) (by simp) (by simp)).drew ((below_trans (gr1 w5 _) (gr1 _ _)).drew) A2 L.length c2 (L.flatMap Stm.cells) (by rfl) (((HF5.out.alloc _).alloc _).drew) (stm_one L) (by omega) (by simp <;> omega) ?_; intro A47 c47 w47 hown47 hb47 hg47; simp only [Nat.zero_add, List.nil_append] at hown47; rw [show (0 : Nat) + L.length = L.length from Nat.zero_add _]; obtain ⟨s0, s1, s2, s3, s4, rr2, rrf, zz0, zz1⟩ := rs_some (below_trans hb5 hb47); have hY := rd_kept ((rd_new5 w5 w5.heap.size 25 #[.int .i64 f, .int .i64 k, .int .i64 v, .int .i64 q, .int .i64 t] rfl rfl).alloc (.cells #[] 25)).drew hg47 (by simp [Value.ownBlock]))
    )
  all_goals clear HF5 hb5 hb47 hg47 HFW HB0 HHAS HB1 HB2
  all_goals go_wp2_with fail
  all_goals exact bodyPost_ret (v := .tuple #[.agg #[.int .i64 n, .slice A1 bads.length c1, .slice A50 (L.length + 1) c50], .int .i64 0]) (by simp [results, Try.results9, go_sem, *]) rfl (rsayOut_new HO50.out hz0 (by omega) hb50w)
end
end Go.Proofs.Ytllfdnfiicnmiaa
