/-
  Arguments opened into what the walks ask: bytes, texts, lists of texts. Over any program.
-/
import Derived.Test.YtllfdnfiicnmiaaBase
import Derived.ProofKit
import Derived.OpenShut
import Derived.ShutString
import Derived.ChangeOld
import Derived.SliceStrings
namespace Go.Proofs.Ytllfdnfiicnmiaa
open Go.ChangeShapes Go.WideShapes Go.ChangeAt Go.RowKit

section
variable {H : Type} {enc : TypeId × Value → H} {P : Program} {w : World} {sp : Nat → Bool} {held : Bool}

theorem trod_block_lt {fuel : Nat} {t : TypeId} {cs : List Value} {x : DataW H × List MemPlace} (h : DataW.trod enc P w 0 sp held fuel t cs = some x) : ∀ y ∈ x.2, y.block < w.heap.size := fun y hy => DataW.trod_lt fuel _ _ _ (show DataW.trod enc P w 0 sp held fuel t cs = some (x.1, x.2) from h) y hy

theorem open_bytes {r : Reach} {b0 : Nat} {t e : TypeId} {v : Value} {d : DataW H} {p : List MemPlace} (ht : P.underlying t = some (.slice e)) (he : P.underlying e = some (.int .u8)) (hc : P.cellsOf e = 1)
    (hval : Value.okWide P w r b0 t v) (h : DataW.Trod enc P w 0 (fun _ => true) held t v d p) :
    ∃ (A : Option Addr) (l : List UInt8) (c : Nat), v = .slice A l.length c ∧ Bs w A l ∧ l.length ≤ c ∧ c ≤ maxLen := by
  obtain ⟨a0, len0, cap0, rfl⟩ := okWide_slice ht hval
  obtain ⟨fuel, hf⟩ := h
  rcases open_ints ht he hc hf with ⟨hcs, _⟩ | ⟨x, l, c, zs, hcs, _, hl, hm, hz, _, hcell, hwz⟩
  · simp [Value.cells] at hcs
    obtain ⟨rfl, rfl, rfl⟩ := hcs
    exact ⟨none, [], 0, rfl, Rd.empty _ _ _, by simp, by simp [maxLen]⟩
  · simp [Value.cells] at hcs
    obtain ⟨rfl, rfl, rfl⟩ := hcs
    have hz' : zs.length = cap0 := by simpa using hz
    have hlen : ((zs.take len0).map fun n => UInt8.ofNat n.toNat).length = len0 := by simp; omega
    refine ⟨some x, (zs.take len0).map fun n => UInt8.ofNat n.toNat, cap0, by rw [hlen], ⟨by simp, fun hn => ?_⟩, by rw [hlen]; exact hl, hm⟩
    rw [hlen] at hn
    have hc0 := hcell 0 (by omega)
    obtain ⟨b, off, spot⟩ := x
    have hspot : spot = none := by simpa [Addr.add] using World.cell?_spot hc0
    subst hspot
    have hadd : ∀ j, (⟨b, off, none⟩ : Addr).add j = ⟨b, off + j, none⟩ := fun j => by unfold Addr.add; split <;> simp_all
    refine ⟨b, off, rfl, by have := World.block_lt_of_cell? _ _ hc0; rwa [hadd] at this, fun j u hu => ?_⟩
    have hj : j < len0 := by
      have h1 := (List.getElem?_eq_some_iff.1 hu).1
      simp only [List.length_map, List.length_take] at h1
      omega
    have hcj := hcell j (by omega)
    rw [hadd] at hcj
    rw [hcj]
    have hjz : j < zs.length := by omega
    have hw := hwz zs[j] (List.getElem_mem hjz)
    have hw' : 0 ≤ zs[j] ∧ zs[j] ≤ 255 := by simpa [Lit.wf, IntKind.min, IntKind.max, IntKind.signed, IntKind.bits] using hw
    simp only [List.getElem?_map, List.getElem?_take, if_pos hj, List.getElem?_eq_getElem hjz, Option.map_some, Option.some.injEq] at hu
    rw [← hu, cB_of _ (by omega)]
    simp [List.getD, List.getElem?_eq_getElem hjz]
    omega

theorem open_str {r : Reach} {b0 : Nat} {t : TypeId} {v : Value} {d : DataW H} {p : List MemPlace} (ht : P.underlying t = some .string)
    (hval : Value.okWide P w r b0 t v) (h : DataW.Trod enc P w 0 sp held t v d p) : ∃ s : List UInt8, v = .string ⟨s.toArray⟩ ∧ s.length ≤ maxLen := by
  obtain ⟨s, rfl, _, _, hs⟩ := Go.ChangeMaps.open_string ht hval h
  have e : s.data.toList.length = s.size := by rw [Array.length_toList]; rfl
  exact ⟨s.data.toList, rfl, by rw [e]; exact hs⟩

/-- a slice of texts -/
theorem open_strs {r : Reach} {b0 : Nat} {t e : TypeId} {v : Value} {d : DataW H} {p : List MemPlace} (ht : P.underlying t = some (.slice e)) (he : P.underlying e = some .string) (hc : P.cellsOf e = 1)
    (hval : Value.okWide P w r b0 t v) (h : DataW.Trod enc P w 0 (fun _ => true) held t v d p) (hsz : ∀ n ∈ d.weights P t, n ≤ reachBytes) :
    ∃ (A : Option Addr) (L : List (List UInt8)) (c : Nat), v = .slice A L.length c ∧ Ss w A L ∧ L.length ≤ c ∧ c ≤ maxLen ∧ ∀ s ∈ L, s.length ≤ 140737488351232 := by
  obtain ⟨a0, len0, cap0, rfl⟩ := okWide_slice ht hval
  obtain ⟨fuel, hf⟩ := h
  rcases open_strings ht he hc hf with ⟨hcs, _⟩ | ⟨x, l, c, ss, hcs, _, hl, hm, hz, hx, hcell, _⟩
  · simp [Value.cells] at hcs
    obtain ⟨rfl, rfl, rfl⟩ := hcs
    exact ⟨none, [], 0, rfl, Rd.empty _ _ _, by simp, by simp [maxLen], by simp⟩
  · simp [Value.cells] at hcs
    obtain ⟨rfl, rfl, rfl⟩ := hcs
    have hz' : ss.length = cap0 := by simpa using hz
    have hlen : ((ss.take len0).map fun s => s.data.toList).length = len0 := by simp; omega
    have hd : d = .slice (strs (ss.take len0)) (strs (ss.drop len0)) := congrArg Prod.fst hx
    refine ⟨some x, (ss.take len0).map fun s => s.data.toList, cap0, by rw [hlen], ⟨by simp, fun hn => ?_⟩, by rw [hlen]; exact hl, hm, ?_⟩
    · rw [hlen] at hn
      have hc0 := hcell 0 (by omega)
      obtain ⟨b, off, spot⟩ := x
      have hspot : spot = none := by simpa [Addr.add] using World.cell?_spot hc0
      subst hspot
      have hadd : ∀ j, (⟨b, off, none⟩ : Addr).add j = ⟨b, off + j, none⟩ := fun j => by unfold Addr.add; split <;> simp_all
      refine ⟨b, off, rfl, by have := World.block_lt_of_cell? _ _ hc0; rwa [hadd] at this, fun j u hu => ?_⟩
      have hj : j < len0 := by
        have h1 := (List.getElem?_eq_some_iff.1 hu).1
        simp only [List.length_map, List.length_take] at h1
        omega
      have hcj := hcell j (by omega)
      rw [hadd] at hcj
      rw [hcj]
      have hjz : j < ss.length := by omega
      simp only [List.getElem?_map, List.getElem?_take, if_pos hj, List.getElem?_eq_getElem hjz, Option.map_some, Option.some.injEq] at hu
      rw [← hu]
      simp [List.getD, List.getElem?_eq_getElem hjz, cS]
    · intro s hs
      simp only [List.mem_map] at hs
      obtain ⟨q, hq, rfl⟩ := hs
      have hmem : q.data.toList.length ∈ d.weights P t := by
        subst hd
        simp only [DataW.weights, ht, List.mem_cons, List.mem_append]
        right; left
        clear hf hx hsz hcell hz hlen hz'
        generalize ss.take len0 = L at hq ⊢
        induction L with
        | nil => cases hq
        | cons y r ih =>
          simp only [strs, List.map_cons, DataW.weightsAll, List.mem_append]
          rcases List.mem_cons.1 hq with rfl | hq
          · left; simp [DataW.weights]
          · right; exact ih hq
      have := hsz _ hmem
      unfold reachBytes at this
      omega

theorem open_i64 {r : Reach} {b0 : Nat} {t : TypeId} {v : Value} {d : DataW H} {p : List MemPlace} (ht : P.underlying t = some (.int .i64))
    (hval : Value.okWide P w r b0 t v) (h : DataW.Trod enc P w 0 sp held t v d p) : ∃ a : Int, v = .int .i64 a ∧ -9223372036854775808 ≤ a ∧ a < 9223372036854775808 := by
  obtain ⟨a, rfl, _, _, hw⟩ := open_int ht hval h
  have hw' : -9223372036854775808 ≤ a ∧ a ≤ 9223372036854775807 := by simpa [Lit.wf, IntKind.min, IntKind.max, IntKind.signed, IntKind.bits] using hw
  exact ⟨a, rfl, by omega, by omega⟩
theorem open_u64 {r : Reach} {b0 : Nat} {t : TypeId} {v : Value} {d : DataW H} {p : List MemPlace} (ht : P.underlying t = some (.int .u64))
    (hval : Value.okWide P w r b0 t v) (h : DataW.Trod enc P w 0 sp held t v d p) : ∃ a : Nat, v = .int .u64 a ∧ a < 18446744073709551616 := by
  obtain ⟨a, rfl, _, _, hw⟩ := open_int ht hval h
  have hw' : 0 ≤ a ∧ a ≤ 18446744073709551615 := by simpa [Lit.wf, IntKind.min, IntKind.max, IntKind.signed, IntKind.bits] using hw
  exact ⟨a.toNat, by rw [Int.toNat_of_nonneg hw'.1], by omega⟩
end
end Go.Proofs.Ytllfdnfiicnmiaa
