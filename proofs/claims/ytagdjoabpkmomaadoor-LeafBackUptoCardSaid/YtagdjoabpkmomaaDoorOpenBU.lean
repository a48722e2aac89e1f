/-
  A slice of slices of bytes opened, where its bulk is bounded.
-/
import Derived.Test.YtagdjoabpkmomaaDoorRows
import Derived.Test.YtagdjoabpkmomaaDoorOpenB
namespace Go.Proofs.YtagdjoabpkmomaaDoor
open Go.ChangeShapes Go.WideShapes Go.ChangeAt Go.WideMaps Go.WideElems Go.RowKit
set_option maxRecDepth 100000

theorem bulk_one {H : Type} (d : DataW H) : 1 ≤ Rows.uptoBulk d := by
  cases d with
  | lit l => cases l <;> simp [Rows.uptoBulk]
  | nil => simp [Rows.uptoBulk]
  | ptr d => simp [Rows.uptoBulk]
  | slice elems spare => simp [Rows.uptoBulk]
  | agg parts => simp [Rows.uptoBulk]
  | iface t d => simp [Rows.uptoBulk]
  | map entries => simp [Rows.uptoBulk]
  | held h => simp [Rows.uptoBulk]
theorem bulk_part {H : Type} {d : DataW H} {l : List (DataW H)} (h : d ∈ l) : Rows.uptoBulk d ≤ Rows.uptoBulkAll l := by
  induction l with
  | nil => cases h
  | cons x r ih =>
    simp only [Rows.uptoBulkAll]
    cases List.mem_cons.1 h with
    | inl e => subst e; omega
    | inr e => have := ih e; omega
theorem bulk_len {H : Type} (l : List (DataW H)) : l.length ≤ Rows.uptoBulkAll l := by
  induction l with
  | nil => simp [Rows.uptoBulkAll]
  | cons x r ih => have := bulk_one x; simp only [Rows.uptoBulkAll, List.length_cons]; omega
theorem bulk_slice {H : Type} (elems spare : List (DataW H)) : Rows.uptoBulkAll elems ≤ Rows.uptoBulk (.slice elems spare) := by
  simp only [Rows.uptoBulk]; omega

section
variable {H : Type} {enc : TypeId × Value → H} {P : Program} {w : World}
theorem open_bytesU {t e : TypeId} {v : Value} {fu : Nat} {z : DataW H × List MemPlace} (ht : P.underlying t = some (.slice e)) (he : P.underlying e = some (.int .u8)) (hc : P.cellsOf e = 1)
    (hf : DataW.trod enc P w 0 (fun _ => true) true fu t [v] = some z) :
    ∃ (l : List UInt8) (A : Option Addr) (c : Nat), v = .slice A l.length c ∧ Bs w A l ∧ l.length ≤ c ∧ c ≤ maxLen ∧ l.length ≤ Rows.uptoBulk z.1 := by
  obtain ⟨A, l, c, rfl, hB, h1, h2⟩ := open_bytesT ht he hc hf
  refine ⟨l, A, c, rfl, hB, h1, h2, ?_⟩
  rcases open_ints ht he hc hf with ⟨hcs, _⟩ | ⟨x, len0, cap0, zs, hcs, _, hl, hm, hz, hx, hcell, hwz⟩
  · simp at hcs
    rw [hcs.2.1]; exact Nat.zero_le _
  · simp at hcs
    have hz' : zs.length = cap0 := by simpa using hz
    rw [hx]
    have h3 := bulk_len (lits .u8 (zs.take len0) : List (DataW H))
    have h4 := bulk_slice (lits .u8 (zs.take len0) : List (DataW H)) (lits .u8 (zs.drop len0))
    have h5 : (lits .u8 (zs.take len0) : List (DataW H)).length = len0 := by simp [lits]; omega
    simp only
    omega
end

theorem open_bssU {H : Type} {enc : TypeId × Value → H} {w : World} {r : Reach} {b0 : Nat} {v : Value} {d : DataW H} {p : List MemPlace}
    (hval : Value.okWide Tryd.prog w r b0 54 v) (h : DataW.Trod enc Tryd.prog w 0 (fun _ => true) true 54 v d p) :
    ∃ (A : Option Addr) (cs : List Bytes) (c : Nat), v = .slice A cs.length c ∧ Bss w A cs ∧ cs.length ≤ c ∧ c ≤ maxLen ∧ cs.length ≤ Rows.uptoBulk d ∧ ∀ x ∈ cs, x.length ≤ Rows.uptoBulk d := by
  obtain ⟨a0, len0, cap0, rfl⟩ := okWide_slice Tryd.underlying54 hval
  obtain ⟨fuel, hf⟩ := h
  rcases Deep.open_slice1 Tryd.underlying54 (by kernel_rfl) hf with ⟨hcs, hx⟩ | ⟨a, len, cap, m, n, V, D, Pl, hcs, _, hl, hm, hmm, hx, hall⟩
  · simp [Value.cells] at hcs
    obtain ⟨rfl, rfl, rfl⟩ := hcs
    exact ⟨none, [], 0, rfl, ⟨[], Rd.empty _ _ _, fun i h => by simp at h⟩, by simp, by simp [maxLen], by simp, by simp⟩
  · simp [Value.cells] at hcs
    obtain ⟨rfl, rfl, rfl⟩ := hcs
    simp only [if_true] at hmm
    subst hmm
    have hd : d = .slice ((List.range len0).map D) ((List.range (m - len0)).map fun j => D (len0 + j)) := congrArg Prod.fst hx
    have each : ∀ i, i < len0 → ∃ l : List UInt8, ∃ (A : Option Addr) (c : Nat), V i = .slice A l.length c ∧ Bs w A l ∧ l.length ≤ c ∧ c ≤ maxLen ∧ l.length ≤ Rows.uptoBulk (D i) := by
      intro i hi
      obtain ⟨_, h2⟩ := hall i (by omega)
      exact open_bytesU Tryd.underlying58 Tryd.underlying5 (by kernel_rfl) h2
    obtain ⟨g, hg⟩ := Deep.choose_lt each
    have hlen : ((List.range len0).map g).length = len0 := by simp
    have hbulk : Rows.uptoBulkAll ((List.range len0).map D) ≤ Rows.uptoBulk d := by rw [hd]; exact bulk_slice _ _
    refine ⟨some a, (List.range len0).map g, m, by rw [hlen], ⟨(List.range len0).map V, ⟨by simp, fun hn => ?_⟩, fun i hi => ?_⟩, by rw [hlen]; exact hl, hm, ?_, ?_⟩
    · rw [hlen] at hn
      have hc0 := (hall 0 (by omega)).1
      obtain ⟨b, off, spot⟩ := a
      have hspot : spot = none := by simpa [Addr.add] using World.cell?_spot hc0
      subst hspot
      have hadd : ∀ j, (⟨b, off, none⟩ : Addr).add j = ⟨b, off + j, none⟩ := fun j => by unfold Addr.add; split <;> simp_all
      refine ⟨b, off, rfl, by have := World.block_lt_of_cell? _ _ hc0; rwa [hadd] at this, fun j u hu => ?_⟩
      have hj : j < len0 := by
        have h1 := (List.getElem?_eq_some_iff.1 hu).1
        simpa using h1
      have hcj := (hall j (by omega)).1
      rw [hadd] at hcj
      rw [hcj, ← hu]
      simp [hj]
    · have hi' : i < len0 := by rwa [hlen] at hi
      obtain ⟨A, c, e1, e2, e3, e4, _⟩ := hg i hi'
      refine ⟨A, c, by simp [hi', e1], by simpa using e2, by simpa using e3, e4⟩
    · rw [hlen]
      have := bulk_len ((List.range len0).map D)
      simp only [List.length_map, List.length_range] at this
      omega
    · intro x hx2
      obtain ⟨i, hi, rfl⟩ := List.mem_map.1 hx2
      have hi' := List.mem_range.1 hi
      obtain ⟨_, _, _, _, _, _, e5⟩ := hg i hi'
      have := bulk_part (List.mem_map_of_mem (f := D) hi)
      omega
end Go.Proofs.YtagdjoabpkmomaaDoor
