/-
  A slice of pairs of a number and an unsigned number, opened. Over any program.
-/
import Derived.Test.YtnoahfhnmiibgaaOpen
import Derived.Deep.SlicePairs
namespace Go.Proofs.Ytnoahfhnmiibgaa
open Go.ChangeShapes Go.WideShapes Go.ChangeAt Go.RowKit

/-- n pairs (int, uint64) lie behind A -/
def Ps (w : World) (A : Option Addr) (n : Nat) : Prop := 0 < n → ∃ b off, A = some ⟨b, off, none⟩ ∧ b < w.heap.size ∧
  ∀ i, i < n → ∃ (d : Int) (m : Nat), w.cell? ⟨b, off + i * 2, none⟩ = some (.int .i64 d) ∧ w.cell? ⟨b, off + i * 2 + 1, none⟩ = some (.int .u64 m) ∧ m < 18446744073709551616

section
variable {H : Type} {enc : TypeId × Value → H} {P : Program} {w : World} {sp : Nat → Bool} {held : Bool}
theorem open_pairs {r : Reach} {b0 : Nat} {t e : TypeId} {f0 f1 : Field} {v : Value} {d : DataW H} {p : List MemPlace} (ht : P.underlying t = some (.slice e)) (he : P.underlying e = some (.struct #[f0, f1]))
    (ce : P.cellsOf e = 2) (o0 : f0.offset = 0) (o1 : f1.offset = 1) (c0 : P.cellsOf f0.type = 1) (c1 : P.cellsOf f1.type = 1) (k0 : P.underlying f0.type = some (.int .i64)) (k1 : P.underlying f1.type = some (.int .u64))
    (hval : Value.okWide P w r b0 t v) (h : DataW.Trod enc P w 0 (fun _ => true) held t v d p) :
    ∃ (A : Option Addr) (n c : Nat), v = .slice A n c ∧ Ps w A n ∧ n ≤ c ∧ c ≤ maxLen := by
  obtain ⟨a0, len0, cap0, rfl⟩ := okWide_slice ht hval
  obtain ⟨fuel, hf⟩ := h
  rcases Deep.open_slice_pairs ht he ce o0 o1 c0 c1 hf with ⟨hcs, _⟩ | ⟨a, len, cap, m, n, V0, V1, D0, D1, P0, P1, hcs, _, hl, hm, hmm, _, hc⟩
  · simp [Value.cells] at hcs
    obtain ⟨rfl, rfl, rfl⟩ := hcs
    exact ⟨none, 0, 0, rfl, fun h => by omega, by simp, by simp [maxLen]⟩
  · simp [Value.cells] at hcs
    obtain ⟨rfl, rfl, rfl⟩ := hcs
    simp only [if_true] at hmm
    subst hmm
    refine ⟨some a, len0, _, rfl, fun hn => ?_, hl, hm⟩
    have hc0 := (hc 0 (by omega)).1
    obtain ⟨b, off, spot⟩ := a
    have hspot : spot = none := by simpa [Addr.add] using World.cell?_spot hc0
    subst hspot
    have hadd : ∀ j, (⟨b, off, none⟩ : Addr).add j = ⟨b, off + j, none⟩ := fun j => by unfold Addr.add; split <;> simp_all
    refine ⟨b, off, rfl, by have := World.block_lt_of_cell? _ _ hc0; rwa [hadd] at this, fun i hi => ?_⟩
    obtain ⟨h0, h1, t0, t1⟩ := hc i (by omega)
    rw [hadd] at h0 h1
    obtain ⟨x, hx, _, _⟩ := DataW.trod_int k0 t0
    obtain ⟨y, hy, _, hw⟩ := DataW.trod_int k1 t1
    have hw' : 0 ≤ y ∧ y ≤ 18446744073709551615 := by simpa [Lit.wf, IntKind.min, IntKind.max, IntKind.signed, IntKind.bits] using hw
    simp at hx hy
    exact ⟨x, y.toNat, by rw [h0, hx], by rw [← Nat.add_assoc] at h1; rw [h1, hy, Int.toNat_of_nonneg hw'.1], by omega⟩
end
end Go.Proofs.Ytnoahfhnmiibgaa
