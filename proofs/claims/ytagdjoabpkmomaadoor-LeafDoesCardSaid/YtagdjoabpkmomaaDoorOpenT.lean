/-
  An item by value, opened.
-/
import Derived.Test.YtagdjoabpkmomaaDoorLaid9
namespace Go.Proofs.YtagdjoabpkmomaaDoor
open Go.ChangeShapes Go.WideShapes Go.ChangeAt Go.WideMaps Go.WideElems Go.RowKit
set_option maxRecDepth 100000

theorem open_item {H : Type} {enc : TypeId × Value → H} {w : World} {r : Reach} {b0 : Nat} {v : Value} {d : DataW H} {p : List MemPlace}
    (hval : Value.okWide Tryd.prog w r b0 32 v) (h : DataW.Trod enc Tryd.prog w 0 (fun _ => true) true 32 v d p) :
    ∃ (k : Bytes) (kd i : Int) (s : Bytes) (ver : Int), v = .agg #[.string ⟨k.toArray⟩, .int .i64 kd, .int .i64 i, .string ⟨s.toArray⟩, .int .i64 ver] ∧ ItemIn ⟨k, kd, i, s, ver⟩ := by
  obtain ⟨cs, rfl, _⟩ := okWide_struct Tryd.underlying32 hval
  obtain ⟨fuel, hf⟩ := h
  obtain ⟨y, hy, hi⟩ := item_trod (tv := 30) Tryd.underlying32 Tryd.underlying30 ⟨rfl, rfl, rfl, rfl, rfl, rfl⟩ ⟨by kernel_rfl, by kernel_rfl, by kernel_rfl, by kernel_rfl, by kernel_rfl, by kernel_rfl⟩
      Tryd.underlying9 Tryd.underlying3 Tryd.underlying2 Tryd.underlying9 Tryd.underlying3 (by kernel_rfl) _ _ _ hf
  obtain ⟨k, kd, i, s, ver⟩ := y
  refine ⟨k, kd, i, s, ver, ?_, hi⟩
  obtain ⟨l⟩ := cs
  simp [Value.cells, Item.cells, cStr, cI] at hy
  rw [hy]
end Go.Proofs.YtagdjoabpkmomaaDoor
