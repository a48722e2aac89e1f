/-
  A slice of flat structs in a field; the struct plenumlaw09.Scan opened.
-/
import Derived.Test.YtagdjoabpkmomaaDoorLaid9
import Derived.Lib.SmallJoins
namespace Go.Proofs.YtagdjoabpkmomaaDoor
open Go.ChangeShapes Go.WideShapes Go.ChangeAt Go.WideMaps Go.WideElems Go.RowKit
set_option maxRecDepth 100000

section
variable {H : Type} {enc : TypeId × Value → H} {P : Program} {w : World} {sp : Nat → Bool} {held : Bool}

theorem open_flatC {α : Type} [Inhabited α] (f : α → List Value) (s : Nat) (hf : ∀ x, (f x).length = s) (hs0 : 0 < s) (Q : α → Prop) {t e : TypeId} {v : Value} {fu : Nat} {z : DataW H × List MemPlace} (ht : P.underlying t = some (.slice e)) (hc : P.cellsOf e = s)
    (hel : ∀ n cs x, DataW.trod enc P w 0 (fun _ => true) held n e cs = some x → ∃ y : α, cs = f y ∧ Q y)
    (hfu : DataW.trod enc P w 0 (fun _ => true) held fu t [v] = some z) :
    ∃ (A : Option Addr) (l : List α) (c : Nat), v = .slice A l.length c ∧ Fs f s w A l ∧ l.length ≤ c ∧ c ≤ maxLen ∧ ∀ y ∈ l, Q y := by
  rcases Deep.open_slice ht hfu with ⟨hcs, _⟩ | ⟨a, len0, cap, m, n, D, Pl, hcs, _, hl, hm, hmm, _, hx⟩
  · simp at hcs
    subst hcs
    exact ⟨none, [], 0, rfl, Fs.empty _ _, by simp, by simp [maxLen], by simp⟩
  · simp at hcs
    subst hcs
    simp only [if_true] at hmm
    subst hmm
    have hx2 : ∀ i, i < len0 → ∃ y : α, w.cells? 0 (a.add (i * s)) s = some (f y) ∧ Q y := by
      intro i hi
      obtain ⟨cs', h1, h2⟩ := hx i (by omega)
      obtain ⟨y, rfl, hq⟩ := hel _ _ _ h2
      rw [hc] at h1
      exact ⟨y, h1, hq⟩
    obtain ⟨g, hg⟩ := Deep.choose_lt hx2
    have hlen : ((List.range len0).map g).length = len0 := by simp
    refine ⟨some a, (List.range len0).map g, _, by rw [hlen], ⟨by rw [flat_length hf], fun hn => ?_⟩, by rw [hlen]; exact hl, hm, ?_⟩
    · rw [hlen] at hn
      have h0 := (hg 0 hn).1
      have hcell : ∀ i, i < len0 → ∀ j, j < s → w.cell? ((a.add (i * s)).add j) = (f (g i))[j]? := by
        intro i hi j hj
        have := (World.cells?_some (hg i hi).1)
        exact this.2.2 j hj
      have hc0 := hcell 0 hn 0 hs0
      have hsome : (f (g 0))[0]? = some ((f (g 0))[0]'(by rw [hf]; exact hs0)) := List.getElem?_eq_getElem _
      rw [hsome] at hc0
      obtain ⟨b, off, spot⟩ := a
      have hspot : spot = none := by simpa [Addr.add] using World.cell?_spot hc0
      subst hspot
      refine ⟨b, off, rfl, by have := World.block_lt_of_cell? _ _ hc0; rwa [add_pl, add_pl] at this, fun j u hu => ?_⟩
      have hjl : j < len0 * s := by
        have := (List.getElem?_eq_some_iff.1 hu).1
        rwa [flat_length hf, hlen] at this
      have hi : j / s < len0 := Nat.div_lt_of_lt_mul (by rwa [Nat.mul_comm])
      have hr : j % s < s := Nat.mod_lt _ hs0
      have hj : j = j / s * s + j % s := by rw [Nat.mul_comm]; exact (Nat.div_add_mod j s).symm
      have h1 := hcell _ hi _ hr
      rw [add_pl, add_pl, Nat.add_assoc, ← hj] at h1
      rw [h1, ← hu]
      conv => rhs; rw [hj]
      rw [flat_get hf _ _ (by rw [hlen]; exact hi) _ hr]
      simp
    · intro y hy
      obtain ⟨i, hi, rfl⟩ := List.mem_map.1 hy
      exact (hg i (List.mem_range.1 hi)).2

end

theorem str_list (s : ByteArray) : (.string s : Value) = .string ⟨s.data.toList.toArray⟩ := by cases s; rfl
theorem open_scan {H : Type} {enc : TypeId × Value → H} {w : World} {r : Reach} {b0 : Nat} {v : Value} {d : DataW H} {p : List MemPlace}
    (hval : Value.okWide Tryd.prog w r b0 51 v) (h : DataW.Trod enc Tryd.prog w 0 (fun _ => true) true 51 v d p) :
    ∃ (A : Option Addr) (l : List Item) (c : Nat) (lo hi : Bytes) (most : Int), v = .agg #[.slice A l.length c, .string ⟨lo.toArray⟩, .string ⟨hi.toArray⟩, .int .i64 most] ∧ Fs Item.cells 5 w A l ∧ l.length ≤ c ∧ c ≤ maxLen ∧ (∀ y ∈ l, ItemIn y) ∧ lo.length ≤ maxLen ∧ hi.length ≤ maxLen := by
  haveI : Inhabited Item := ⟨Item.zero⟩
  obtain ⟨v0, v1, v2, v3, y0, y1, y2, y3, n, rfl, _, _, h0, h1, h2, h3⟩ := Go.Joins.open_agg4 Tryd.underlying51 (by kernel_rfl) (by kernel_rfl) hval h
  obtain ⟨A, l, c, rfl, hF, hlc, hcm, hin⟩ := open_flatC Item.cells 5 (fun _ => rfl) (by decide) ItemIn Tryd.underlying22 (by kernel_rfl)
    (fun n cs x hx => item_trod (tv := 30) Tryd.underlying32 Tryd.underlying30 ⟨rfl, rfl, rfl, rfl, rfl, rfl⟩ ⟨by kernel_rfl, by kernel_rfl, by kernel_rfl, by kernel_rfl, by kernel_rfl, by kernel_rfl⟩
      Tryd.underlying9 Tryd.underlying3 Tryd.underlying2 Tryd.underlying9 Tryd.underlying3 (by kernel_rfl) n cs x hx) (show DataW.trod enc Tryd.prog w 0 (fun _ => true) true n 22 [v0] = some y0 from h0)
  obtain ⟨s1, e1, _, l1⟩ := DataW.trod_string Tryd.underlying9 (show DataW.trod enc Tryd.prog w 0 (fun _ => true) true n 9 [v1] = some y1 from h1)
  obtain ⟨s2, e2, _, l2⟩ := DataW.trod_string Tryd.underlying9 (show DataW.trod enc Tryd.prog w 0 (fun _ => true) true n 9 [v2] = some y2 from h2)
  obtain ⟨n3, e3, _, _⟩ := DataW.trod_int Tryd.underlying3 (show DataW.trod enc Tryd.prog w 0 (fun _ => true) true n 3 [v3] = some y3 from h3)
  simp only [List.cons.injEq, and_true] at e1 e2 e3
  subst e1 e2 e3
  exact ⟨A, l, c, s1.data.toList, s2.data.toList, n3, rfl, hF, hlc, hcm, hin, by simpa using l1, by simpa using l2⟩
end Go.Proofs.YtagdjoabpkmomaaDoor
