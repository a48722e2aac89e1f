/-
  What the listed variable gives: the table of signs lies in its cells; the door's own heap meets the condition; []api.Item opened.
-/
import Derived.Test.YtagdjoabpkmomaaDoorKey
import Derived.Test.YtagdjoabpkmomaaDoorOpenI
import Derived.ProofKit
import Derived.LaidMore
import Derived.OpenShut
import Derived.Stop.Joined
namespace Go.Proofs.YtagdjoabpkmomaaDoor
open Go.ChangeShapes Go.WideShapes Go.ChangeAt Go.WideMaps Go.WideElems Go.RowKit
set_option maxRecDepth 100000

theorem gSigns : Tryd.prog.globalNamed "plenum/key.signs" = some 0 := by kernel_rfl
theorem tSigns : (Tryd.prog.globals[0]?).map (·.type) = some 109 := by kernel_rfl
theorem cells_u64 : Tryd.prog.cellsOf 69 = 1 := by kernel_rfl

/-- the door's own heap meets the condition -/
theorem door_met (os : Os) (args : Array Value) : laidMetH Tryd.prog [("plenum/key.signs", Rows.laid_plenum_key_signs)] ((World.doorLaid Tryd.prog 400 os).forCall (fun _ _ => 0) ⟨#[], args, []⟩).memory :=
  laidMetH_of_parts3 (fuel := 8) (laidMet_of_run' 8 (by kernel_rfl) (by kernel_rfl)) (by kernel_rfl) (by kernel_rfl)

theorem sig_of_laid {W : World} (h : laidMetH Tryd.prog [("plenum/key.signs", Rows.laid_plenum_key_signs)] W) : Sig W := by
  rw [MakeChecks.laidMetH_plain _ _ _ (by kernel_rfl)] at h
  obtain ⟨ps, ⟨g1, t1, cs1, f1, p1, q1, hg1, ht1, hv1, hd1, _, _⟩, _, _⟩ := h
  obtain rfl := Option.some.inj (gSigns.symm.trans hg1)
  obtain rfl := Option.some.inj (tSigns.symm.trans ht1)
  obtain ⟨xs, m1, rfl, hx1, hlen, hn3, hel⟩ := DataW.trod_array Tryd.underlying109 hd1
  have h0 := hel 0 (by decide)
  have h1 := hel 1 (by decide)
  simp only [Prod.mk.injEq] at hx1
  match xs, hn3, hx1, h0, h1 with
  | [x0, x1], _, hx1, h0, h1 =>
    have hx2 : [x0, x1].map (·.1) = [DataW.lit (.int .u64 288195191779622912), DataW.lit (.int .u64 576460745860972544)] := by
      have := hx1.1
      injection this with this
      exact this.symm
    simp only [List.map_cons, List.map_nil, List.cons.injEq, and_true] at hx2
    obtain ⟨k0, e0, f0, _⟩ := DataW.trod_int Tryd.underlying69 (show DataW.trod _ Tryd.prog W 0 _ false m1 69 _ = some x0 from h0)
    obtain ⟨k1, e1, f1, _⟩ := DataW.trod_int Tryd.underlying69 (show DataW.trod _ Tryd.prog W 0 _ false m1 69 _ = some x1 from h1)
    rw [f0, f1] at hx2
    simp only [DataW.lit.injEq, Lit.int.injEq, true_and] at hx2
    obtain ⟨rfl, rfl⟩ := hx2
    have v0 := World.var?_cell hg1 hv1 0
    have v1 := World.var?_cell hg1 hv1 1
    rw [cells_u64] at e0 e1
    obtain ⟨l1⟩ := cs1
    match l1, e0, e1 with
    | c :: d :: r, e0, e1 =>
      simp at e0 e1
      subst e0 e1
      simp at v0 v1
      exact ⟨World.block_lt_of_cell? _ _ v0, v0, v1⟩

theorem open_items {H : Type} {enc : TypeId × Value → H} {w : World} {r : Reach} {b0 : Nat} {v : Value} {d : DataW H} {p : List MemPlace}
    (hval : Value.okWide Tryd.prog w r b0 22 v) (h : DataW.Trod enc Tryd.prog w 0 (fun _ => true) true 22 v d p) :
    ∃ (A : Option Addr) (l : List Item) (c : Nat), v = .slice A l.length c ∧ Fs Item.cells 5 w A l ∧ l.length ≤ c ∧ c ≤ maxLen ∧ ∀ y ∈ l, ItemIn y :=
  haveI : Inhabited Item := ⟨Item.zero⟩
  open_flat Item.cells 5 (fun _ => rfl) (by decide) ItemIn Tryd.underlying22 (by kernel_rfl)
    (fun n cs x hx => item_trod (tv := 30) Tryd.underlying32 Tryd.underlying30 ⟨rfl, rfl, rfl, rfl, rfl, rfl⟩ ⟨by kernel_rfl, by kernel_rfl, by kernel_rfl, by kernel_rfl, by kernel_rfl, by kernel_rfl⟩
      Tryd.underlying9 Tryd.underlying3 Tryd.underlying2 Tryd.underlying9 Tryd.underlying3 (by kernel_rfl) n cs x hx) hval h
end Go.Proofs.YtagdjoabpkmomaaDoor
