/-
  Slices of flat structs that came in, opened; the items.
-/
import Derived.Test.YtagdjoabpkmomaaDoorOpen
import Derived.Test.YtagdjoabpkmomaaDoorFlat
import Derived.Test.YtagdjoabpkmomaaDoorLspec
import Derived.Deep.Strs
import Derived.Deep.Slices
namespace Go.Proofs.YtagdjoabpkmomaaDoor
open Go.ChangeShapes Go.WideShapes Go.ChangeAt Go.RowKit

section
variable {H : Type} {enc : TypeId × Value → H} {P : Program} {w : World} {sp : Nat → Bool} {held : Bool}

theorem add_pl (b off j : Nat) : (⟨b, off, none⟩ : Addr).add j = ⟨b, off + j, none⟩ := by
  unfold Addr.add
  split
  · rename_i h; rw [h]; rfl
  · rfl
theorem open_flat {α : Type} [Inhabited α] (f : α → List Value) (s : Nat) (hf : ∀ x, (f x).length = s) (hs0 : 0 < s) (Q : α → Prop) {r : Reach} {b0 : Nat} {t e : TypeId} {v : Value} {d : DataW H} {p : List MemPlace} (ht : P.underlying t = some (.slice e)) (hc : P.cellsOf e = s)
    (hel : ∀ n cs x, DataW.trod enc P w 0 (fun _ => true) held n e cs = some x → ∃ y : α, cs = f y ∧ Q y)
    (hval : Value.okWide P w r b0 t v) (h : DataW.Trod enc P w 0 (fun _ => true) held t v d p) :
    ∃ (A : Option Addr) (l : List α) (c : Nat), v = .slice A l.length c ∧ Fs f s w A l ∧ l.length ≤ c ∧ c ≤ maxLen ∧ ∀ y ∈ l, Q y := by
  obtain ⟨a0, len0, cap0, rfl⟩ := okWide_slice ht hval
  obtain ⟨fuel, hfu⟩ := h
  rcases Deep.open_slice ht hfu with ⟨hcs, _⟩ | ⟨a, len, cap, m, n, D, Pl, hcs, _, hl, hm, hmm, _, hx⟩
  · simp [Value.cells] at hcs
    obtain ⟨rfl, rfl, rfl⟩ := hcs
    exact ⟨none, [], 0, rfl, Fs.empty _ _, by simp, by simp [maxLen], by simp⟩
  · simp [Value.cells] at hcs
    obtain ⟨rfl, rfl, rfl⟩ := hcs
    simp only [if_true] at hmm
    subst hmm
    have hx2 : ∀ i, i < len0 → ∃ y : α, w.cells? 0 (a.add (i * s)) s = some (f y) ∧ Q y := by
      intro i hi
      obtain ⟨cs', h1, h2⟩ := hx i (by omega)
      obtain ⟨y, rfl, hq⟩ := hel _ _ _ h2
      rw [hc] at h1
      exact ⟨y, h1, hq⟩
    obtain ⟨g, hg⟩ := Deep.choose_lt hx2
    have hlen : ((List.range len0).map g).length = len0 := by simp
    refine ⟨some a, (List.range len0).map g, _, by rw [hlen], ⟨by rw [flat_length hf], fun hn => ?_⟩, by rw [hlen]; exact hl, hm, ?_⟩
    · rw [hlen] at hn
      have h0 := (hg 0 hn).1
      have hcell : ∀ i, i < len0 → ∀ j, j < s → w.cell? ((a.add (i * s)).add j) = (f (g i))[j]? := by
        intro i hi j hj
        have := (World.cells?_some (hg i hi).1)
        exact this.2.2 j hj
      have hc0 := hcell 0 hn 0 hs0
      have hsome : (f (g 0))[0]? = some ((f (g 0))[0]'(by rw [hf]; exact hs0)) := List.getElem?_eq_getElem _
      rw [hsome] at hc0
      obtain ⟨b, off, spot⟩ := a
      have hspot : spot = none := by simpa [Addr.add] using World.cell?_spot hc0
      subst hspot
      refine ⟨b, off, rfl, by have := World.block_lt_of_cell? _ _ hc0; rwa [add_pl, add_pl] at this, fun j u hu => ?_⟩
      have hjl : j < len0 * s := by
        have := (List.getElem?_eq_some_iff.1 hu).1
        rwa [flat_length hf, hlen] at this
      have hi : j / s < len0 := Nat.div_lt_of_lt_mul (by rwa [Nat.mul_comm])
      have hr : j % s < s := Nat.mod_lt _ hs0
      have hj : j = j / s * s + j % s := by rw [Nat.mul_comm]; exact (Nat.div_add_mod j s).symm
      have h1 := hcell _ hi _ hr
      rw [add_pl, add_pl, Nat.add_assoc, ← hj] at h1
      rw [h1, ← hu]
      conv => rhs; rw [hj]
      rw [flat_get hf _ _ (by rw [hlen]; exact hi) _ hr]
      simp
    · intro y hy
      obtain ⟨i, hi, rfl⟩ := List.mem_map.1 hy
      exact (hg i (List.mem_range.1 hi)).2
/-- a struct of Key string; Val struct { Kind int; I int64; S string }; Ver int -/
theorem item_trod {t tv : TypeId} {f0 f1 f2 g0 g1 g2 : Field} (ht : P.underlying t = some (.struct #[f0, f1, f2])) (htv : P.underlying f1.type = some (.struct #[g0, g1, g2]))
    (o : f0.offset = 0 ∧ f1.offset = 1 ∧ f2.offset = 4 ∧ g0.offset = 0 ∧ g1.offset = 1 ∧ g2.offset = 2) (c : P.cellsOf f0.type = 1 ∧ P.cellsOf f1.type = 3 ∧ P.cellsOf f2.type = 1 ∧ P.cellsOf g0.type = 1 ∧ P.cellsOf g1.type = 1 ∧ P.cellsOf g2.type = 1)
    (k0 : P.underlying f0.type = some .string) (k1 : P.underlying g0.type = some (.int .i64)) (k2 : P.underlying g1.type = some (.int .i64)) (k3 : P.underlying g2.type = some .string) (k4 : P.underlying f2.type = some (.int .i64)) (hc : P.cellsOf t = 5)
    (n : Nat) (cs : List Value) (x : DataW H × List MemPlace) (h : DataW.trod enc P w 0 sp held n t cs = some x) : ∃ y : Item, cs = y.cells ∧ ItemIn y := by
  obtain ⟨y0, y1, y2, m, _, hl, h0, h1, h2⟩ := Deep.trod_struct3 ht h
  rw [hc] at hl
  obtain ⟨o0, o1, o2, p0, p1, p2⟩ := o
  obtain ⟨c0, c1, c2, d0, d1, d2⟩ := c
  rw [o0, c0] at h0
  rw [o1, c1] at h1
  rw [o2, c2] at h2
  obtain ⟨z0, z1, z2, m', _, _, q0, q1, q2⟩ := Deep.trod_struct3 htv h1
  rw [p0, d0] at q0
  rw [p1, d1] at q1
  rw [p2, d2] at q2
  match cs, hl with
  | [a0, a1, a2, a3, a4], _ =>
    simp only [List.drop_zero, List.take_succ_cons, List.take_zero, List.drop_succ_cons, List.drop_nil, List.take_nil] at h0 h2 q0 q1 q2
    obtain ⟨s0, e0, _, l0⟩ := DataW.trod_string k0 h0
    obtain ⟨n1, e1, _, _⟩ := DataW.trod_int k1 q0
    obtain ⟨n2, e2, _, wf2⟩ := DataW.trod_int k2 q1
    obtain ⟨s3, e3, _, l3⟩ := DataW.trod_string k3 q2
    obtain ⟨n4, e4, _, _⟩ := DataW.trod_int k4 h2
    simp only [List.cons.injEq, and_true] at e0 e1 e2 e3 e4
    subst e0 e1 e2 e3 e4
    have hw' : -9223372036854775808 ≤ n2 ∧ n2 ≤ 9223372036854775807 := by simpa [Lit.wf, IntKind.min, IntKind.max, IntKind.signed, IntKind.bits] using wf2
    refine ⟨⟨s0.data.toList, n1, n2, s3.data.toList, n4⟩, rfl, ?_, ?_, hw'.1, by simp only; omega⟩
    · simp only [Array.length_toList]; exact l0
    · simp only [Array.length_toList]; exact l3
end
end Go.Proofs.YtagdjoabpkmomaaDoor
