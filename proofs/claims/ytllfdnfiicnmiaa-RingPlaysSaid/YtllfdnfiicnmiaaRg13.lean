/-
  The program's ring and the document's, side by side.
-/
import Derived.Test.YtllfdnfiicnmiaaRg12
namespace Go.Proofs.Ytllfdnfiicnmiaa
open Go.RowKit
set_option maxRecDepth 100000
set_option linter.unusedSimpArgs false
set_option linter.unusedVariables false

theorem rd_keptBut {w w' : World} {A : Option Addr} {size n : Nat} {xs : List Value} {S : Nat → Prop} (h : Rd w A size n xs) (k : KeptBut w w' S) (hd : ∀ i o, A = some ⟨i, o, none⟩ → ¬ S i) : Rd w' A size n xs := by
  refine ⟨h.1, fun hn => ?_⟩
  obtain ⟨b, off, e, hb, hc⟩ := h.2 hn
  refine ⟨b, off, e, Nat.lt_of_lt_of_le hb k.size, fun j u hu => ?_⟩
  have h1 := hc j u hu
  have h2 := k.block b hb (hd b off e)
  unfold World.cell? at h1 ⊢
  simp only at h1 ⊢
  rw [h2]; exact h1

/-- the two rings, in one world -/
structure RV (W0 : World) (g b X : Nat) (n : Int) (A1 : Option Addr) (bads : List Int) (c1 : Nat) (A : Option Addr) (c : Nat) (Lr : List Stm) (A2 : Option Addr) (c2 : Nat) (Lm : List Stm) (w : World) : Prop where
  ring : RgIs W0.heap.size w g b A c n (badsL bads) Lr
  blk : Blk w X 29 #[.int .i64 n, .slice A1 bads.length c1, .slice A2 Lm.length c2]
  fs : Fs Stm.cells 5 w A2 Lm
  dis : ∀ i, Mine g b A i → i ≠ X ∧ ∀ o, A2 ≠ some ⟨i, o, none⟩
  old : ∀ i o, A2 = some ⟨i, o, none⟩ → i < w.heap.size ∧ i ≠ X
  below : Below W0.heap.size W0 w
  hX : W0.heap.size ≤ X

section
variable {W0 : World} {g b X : Nat} {n : Int} {A1 : Option Addr} {bads : List Int} {c1 : Nat} {A : Option Addr} {c : Nat} {Lr : List Stm} {A2 : Option Addr} {c2 : Nat} {Lm : List Stm} {w : World}
theorem RV.drewN (h : RV W0 g b X n A1 bads c1 A c Lr A2 c2 Lm w) (k : Nat) : RV W0 g b X n A1 bads c1 A c Lr A2 c2 Lm (w.drewN k) :=
  ⟨h.ring.drewN k, h.blk, h.fs, h.dis, h.old, below_drewN h.below k, h.hX⟩
theorem RV.drew (h : RV W0 g b X n A1 bads c1 A c Lr A2 c2 Lm w) : RV W0 g b X n A1 bads c1 A c Lr A2 c2 Lm w.drew :=
  ⟨h.ring.drew, h.blk, h.fs, h.dis, h.old, h.below.drew, h.hX⟩
theorem RV.step {w' : World} (h : RV W0 g b X n A1 bads c1 A c Lr A2 c2 Lm w) (hb : Below w.heap.size w w') : RV W0 g b X n A1 bads c1 A c Lr A2 c2 Lm w' :=
  ⟨h.ring.below hb, (hb.block X h.blk.lt).trans h.blk, h.fs.below hb, h.dis, fun i o e => ⟨Nat.lt_of_lt_of_le (h.old i o e).1 hb.size, (h.old i o e).2⟩, below_trans h.below hb, h.hX⟩
theorem RV.cells (h : RV W0 g b X n A1 bads c1 A c Lr A2 c2 Lm w) : w.cell? ⟨X, 0, none⟩ = some (.int .i64 n) ∧ w.cell? ⟨X, 1, none⟩ = some (.slice A1 bads.length c1) ∧ w.cell? ⟨X, 2, none⟩ = some (.slice A2 Lm.length c2) ∧
    w.frozen? ⟨X, 0, none⟩ = false ∧ w.frozen? ⟨X, 1, none⟩ = false ∧ w.frozen? ⟨X, 2, none⟩ = false :=
  ⟨by rw [h.blk.cell]; rfl, by rw [h.blk.cell]; rfl, by rw [h.blk.cell]; rfl, h.blk.free 0, h.blk.free 1, h.blk.free 2⟩
theorem rv_say (h : RV W0 g b X n A1 bads c1 A c Lr A2 c2 Lm w) (a : Int) (s : Stm) (hok : StmOk s) :
    Calls Try.prog 8 #[.pointer (some ⟨g, 0, none⟩), .int .i64 a, .agg #[.int .i64 s.f, .int .i64 s.k, .int .i64 s.v, .int .i64 s.q, .int .i64 s.t]] w fun e w' =>
      e = .returned (.int .i64 (sayE n (badsL bads) Lr a s)) ∧ ∃ A' c', RV W0 g b X n A1 bads c1 A' c' (sayL n (badsL bads) Lr a s) A2 c2 Lm w' := by
  have h1 := say_any a s h.ring hok
  unfold Says at h1
  refine h1.mono fun e w' hx => ?_
  obtain ⟨he, A', c', hR, hk, hA⟩ := hx
  refine ⟨he, A', c', hR, (hk.block X h.blk.lt (fun e => (h.dis X e).1 rfl)).trans h.blk, rd_keptBut h.fs hk (fun i o e hm => (h.dis i hm).2 o e), fun i hi => ?_, fun i o e => ⟨Nat.lt_of_lt_of_le (h.old i o e).1 hk.size, (h.old i o e).2⟩,
    hk.below h.below h.below.size (fun i hi => h.ring.mine_ge i hi), h.hX⟩
  rcases hA with rfl | ⟨i', e', hi'⟩
  · exact h.dis i hi
  · rcases hi with e | e | e
    · exact h.dis i (.inl e)
    · exact h.dis i (.inr (.inl e))
    · rw [e] at e'; injection e' with e'; injection e' with e'
      subst e'
      have := h.blk.lt
      refine ⟨by omega, fun o e2 => ?_⟩
      have := (h.old i o e2).1
      omega
theorem rv_ref (h : RV W0 g b X n A1 bads c1 A c Lr A2 c2 Lm w) (a : Int) (s : Stm) (hN : Ns W0 A1 bads) (hbl : bads.length ≤ 34359738368) (hll : Lm.length ≤ 65536) (hm : mayR n bads = true) :
    Calls Try.prog 9 #[.agg #[.int .i64 n, .slice A1 bads.length c1, .slice A2 Lm.length c2], .int .i64 a, .agg #[.int .i64 s.f, .int .i64 s.k, .int .i64 s.v, .int .i64 s.q, .int .i64 s.t]] w fun e w' =>
      ∃ A3 c3, e = .returned (.tuple #[.agg #[.int .i64 n, .slice A1 bads.length c1, .slice A3 (sayL n (badsL bads) Lm a s).length c3], .int .i64 (sayE n (badsL bads) Lm a s)]) ∧
        RV W0 g b X n A1 bads c1 A c Lr A3 c3 (sayL n (badsL bads) Lm a s) (((w'.setCell ⟨X, 0, none⟩ (.int .i64 n)).setCell ⟨X, 1, none⟩ (.slice A1 bads.length c1)).setCell ⟨X, 2, none⟩ (.slice A3 (sayL n (badsL bads) Lm a s).length c3)) ∧
        (w'.cell? ⟨X, 0, none⟩ = some (.int .i64 n) ∧ w'.cell? ⟨X, 1, none⟩ = some (.slice A1 bads.length c1) ∧ w'.cell? ⟨X, 2, none⟩ = some (.slice A2 Lm.length c2) ∧
          w'.frozen? ⟨X, 0, none⟩ = false ∧ w'.frozen? ⟨X, 1, none⟩ = false ∧ w'.frozen? ⟨X, 2, none⟩ = false) := by
  have h1 := rsay_any (c1 := c1) (c2 := c2) a s (hN.below h.below) hbl h.fs hll hm
  unfold RSays at h1
  refine h1.mono fun e w' hx => ?_
  obtain ⟨A3, c3, he, hF, hA, hb⟩ := hx
  have h2 := h.step hb
  refine ⟨A3, c3, he, ⟨h2.ring.kept (keptBut_set3 _ _ _ _ _) (fun i hi e => (h.dis i hi).1 e), ?_, rd_keptBut hF (keptBut_set3 _ _ _ _ _) (fun i o e hi => ?_), fun i hi => ⟨(h.dis i hi).1, fun o e => ?_⟩, fun i o e => ?_, ?_, h.hX⟩, h2.cells⟩
  · have h3 := ((h2.blk.set_ 0 (.int .i64 n)).set_ 1 (.slice A1 bads.length c1)).set_ 2 (.slice A3 (sayL n (badsL bads) Lm a s).length c3)
    exact h3
  · rcases hA with rfl | ⟨i', e', hi', _⟩
    · exact (h.old i o e).2 hi
    · rw [e'] at e; injection e with e; injection e with e
      have := h.blk.lt
      omega
  · rcases hA with rfl | ⟨i', e', hi', _⟩
    · exact (h.dis i hi).2 o e
    · rw [e'] at e; injection e with e; injection e with e
      have := h.ring.mine_lt i hi
      omega
  · rcases hA with rfl | ⟨i', e', hi', hi2⟩
    · exact ⟨by simpa [World.setCell] using (h2.old i o e).1, (h.old i o e).2⟩
    · rw [e'] at e; injection e with e; injection e with e
      have := h.blk.lt
      refine ⟨by simp [World.setCell]; omega, by omega⟩
  · exact ((h2.below.setCell h.hX _).setCell h.hX _).setCell h.hX _
end
end Go.Proofs.Ytllfdnfiicnmiaa
