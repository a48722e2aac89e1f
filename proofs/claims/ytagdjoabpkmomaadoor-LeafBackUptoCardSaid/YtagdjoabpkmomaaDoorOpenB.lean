/-
  A slice of slices of bytes opened.
-/
import Derived.Test.YtagdjoabpkmomaaDoorOpenS
import Derived.Test.YtagdjoabpkmomaaDoorOpen
import Derived.Test.YtagdjoabpkmomaaDoorOf
namespace Go.Proofs.YtagdjoabpkmomaaDoor
open Go.ChangeShapes Go.WideShapes Go.ChangeAt Go.WideMaps Go.WideElems Go.RowKit
set_option maxRecDepth 100000

section
variable {H : Type} {enc : TypeId × Value → H} {P : Program} {w : World} {sp : Nat → Bool} {held : Bool}
theorem open_bytesT {t e : TypeId} {v : Value} {fu : Nat} {z : DataW H × List MemPlace} (ht : P.underlying t = some (.slice e)) (he : P.underlying e = some (.int .u8)) (hc : P.cellsOf e = 1)
    (hf : DataW.trod enc P w 0 (fun _ => true) held fu t [v] = some z) :
    ∃ (A : Option Addr) (l : List UInt8) (c : Nat), v = .slice A l.length c ∧ Bs w A l ∧ l.length ≤ c ∧ c ≤ maxLen := by
  rcases open_ints ht he hc hf with ⟨hcs, _⟩ | ⟨x, len0, cap0, zs, hcs, _, hl, hm, hz, _, hcell, hwz⟩
  · simp at hcs
    subst hcs
    exact ⟨none, [], 0, rfl, Rd.empty _ _ _, by simp, by simp [maxLen]⟩
  · simp at hcs
    subst hcs
    have hz' : zs.length = cap0 := by simpa using hz
    have hlen : ((zs.take len0).map fun n => UInt8.ofNat n.toNat).length = len0 := by simp; omega
    refine ⟨some x, (zs.take len0).map fun n => UInt8.ofNat n.toNat, cap0, by rw [hlen], ⟨by simp, fun hn => ?_⟩, by rw [hlen]; exact hl, hm⟩
    rw [hlen] at hn
    have hc0 := hcell 0 (by omega)
    obtain ⟨b, off, spot⟩ := x
    have hspot : spot = none := by simpa [Addr.add] using World.cell?_spot hc0
    subst hspot
    have hadd : ∀ j, (⟨b, off, none⟩ : Addr).add j = ⟨b, off + j, none⟩ := fun j => by unfold Addr.add; split <;> simp_all
    refine ⟨b, off, rfl, by have := World.block_lt_of_cell? _ _ hc0; rwa [hadd] at this, fun j u hu => ?_⟩
    have hj : j < len0 := by
      have h1 := (List.getElem?_eq_some_iff.1 hu).1
      simp only [List.length_map, List.length_take] at h1
      omega
    have hcj := hcell j (by omega)
    rw [hadd] at hcj
    rw [hcj]
    have hjz : j < zs.length := by omega
    have hw := hwz zs[j] (List.getElem_mem hjz)
    have hw' : 0 ≤ zs[j] ∧ zs[j] ≤ 255 := by simpa [Lit.wf, IntKind.min, IntKind.max, IntKind.signed, IntKind.bits] using hw
    simp only [List.getElem?_map, List.getElem?_take, if_pos hj, List.getElem?_eq_getElem hjz, Option.map_some, Option.some.injEq] at hu
    rw [← hu, cB_of _ (by omega)]
    simp [List.getD, List.getElem?_eq_getElem hjz]
    omega

def hdrV (x : Option Addr × Nat × Nat) : List Value := [.slice x.1 x.2.1 x.2.2]
theorem bss_of_hdr {A : Option Addr} {L : List (Option Addr × Nat × Nat)} (h : Fs hdrV 1 w A L) (hq : ∀ y ∈ L, ∃ l : List UInt8, l.length = y.2.1 ∧ Bs w y.1 l ∧ l.length ≤ y.2.2 ∧ y.2.2 ≤ maxLen) :
    ∃ cs : List Bytes, cs.length = L.length ∧ Bss w A cs := by
  have hx : ∀ i, i < L.length → ∃ l : List UInt8, ∀ h : i < L.length, l.length = L[i].2.1 ∧ Bs w L[i].1 l ∧ l.length ≤ L[i].2.2 ∧ L[i].2.2 ≤ maxLen := by
    intro i hi
    obtain ⟨l, hl⟩ := hq L[i] (List.getElem_mem hi)
    exact ⟨l, fun _ => hl⟩
  obtain ⟨g, hg⟩ := Deep.choose_lt hx
  have hlen : ((List.range L.length).map g).length = L.length := by simp
  refine ⟨(List.range L.length).map g, hlen, L.flatMap hdrV, ?_, ?_⟩
  · rw [hlen]; exact h
  · intro i hi
    have hi' : i < L.length := by rwa [hlen] at hi
    obtain ⟨h1, h2, h3, h4⟩ := hg i hi' hi'
    refine ⟨L[i].1, L[i].2.2, ?_, ?_, ?_, h4⟩
    · have := flat_get (f := hdrV) (s := 1) (fun _ => rfl) L i hi' 0 (by omega)
      simp only [Nat.mul_one, Nat.add_zero] at this
      rw [this]
      simp [hdrV, h1]
    · simpa using h2
    · simpa using h3
end

theorem open_bss {H : Type} {enc : TypeId × Value → H} {w : World} {r : Reach} {b0 : Nat} {v : Value} {d : DataW H} {p : List MemPlace}
    (hval : Value.okWide Tryd.prog w r b0 54 v) (h : DataW.Trod enc Tryd.prog w 0 (fun _ => true) true 54 v d p) :
    ∃ (A : Option Addr) (cs : List Bytes) (c : Nat), v = .slice A cs.length c ∧ Bss w A cs ∧ cs.length ≤ c ∧ c ≤ maxLen := by
  obtain ⟨a0, len0, cap0, rfl⟩ := okWide_slice Tryd.underlying54 hval
  obtain ⟨fuel, hf⟩ := h
  haveI : Inhabited (Option Addr × Nat × Nat) := ⟨none, 0, 0⟩
  obtain ⟨A, L, c, e, hF, hlc, hcm, hq⟩ := open_flatC hdrV 1 (fun _ => rfl) (by decide) (fun y => ∃ l : List UInt8, l.length = y.2.1 ∧ Bs w y.1 l ∧ l.length ≤ y.2.2 ∧ y.2.2 ≤ maxLen) Tryd.underlying54 (by kernel_rfl)
    (fun n cs x hx => by
      rcases open_ints Tryd.underlying58 Tryd.underlying5 (by kernel_rfl) hx with ⟨hcs, _⟩ | ⟨x, len0, cap0, zs, hcs, _⟩
      · subst hcs
        exact ⟨(none, 0, 0), rfl, [], rfl, Rd.empty _ _ _, by simp, by simp [maxLen]⟩
      · subst hcs
        obtain ⟨A, l, c, e, hB, h1, h2⟩ := open_bytesT Tryd.underlying58 Tryd.underlying5 (by kernel_rfl) hx
        injection e with e1 e2 e3
        subst e1 e2 e3
        exact ⟨(_, _, _), rfl, l, rfl, hB, h1, h2⟩) (show DataW.trod enc Tryd.prog w 0 (fun _ => true) true fuel 54 [.slice a0 len0 cap0] = some _ from hf)
  obtain ⟨cs, hl, hb⟩ := bss_of_hdr hF hq
  exact ⟨A, cs, c, by rw [hl]; exact e, hb, by omega, hcm⟩
end Go.Proofs.YtagdjoabpkmomaaDoor
