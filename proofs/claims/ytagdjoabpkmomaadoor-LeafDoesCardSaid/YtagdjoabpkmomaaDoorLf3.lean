/-
  The walk of the law LeafKeeps. (Printed by gen_keep.py.)
-/
import Derived.Test.YtagdjoabpkmomaaDoorKeep
import Derived.Test.YtagdjoabpkmomaaDoorAwk9
import Derived.Test.YtagdjoabpkmomaaDoorLf1
namespace Go.Proofs.YtagdjoabpkmomaaDoor
open Go.RowKit
set_option maxRecDepth 100000
set_option linter.unusedSimpArgs false
set_option linter.unusedVariables false
attribute [local go_sem ↓] Go.wp_at_zero Go.wp_at_succ

/-- the block b holds the item x -/
def Bx (w : World) (b : Nat) (x : Item) : Prop :=
  b < w.heap.size ∧ w.cell? ⟨b, 0, none⟩ = some (.string ⟨x.key.toArray⟩) ∧ w.cell? ⟨b, 1, none⟩ = some (.int .i64 x.kind) ∧ w.cell? ⟨b, 2, none⟩ = some (.int .i64 x.i) ∧ w.cell? ⟨b, 3, none⟩ = some (.string ⟨x.s.toArray⟩) ∧ w.cell? ⟨b, 4, none⟩ = some (.int .i64 x.ver)
theorem Bx.below {w w' : World} {b : Nat} {x : Item} (h : Bx w b x) (hb : Below w.heap.size w w') : Bx w' b x := by
  obtain ⟨h0, h1, h2, h3, h4, h5⟩ := h
  obtain ⟨hc, -⟩ := bcell hb
  exact ⟨Nat.lt_of_lt_of_le h0 hb.size, (hc b 0 h0).trans h1, (hc b 1 h0).trans h2, (hc b 2 h0).trans h3, (hc b 3 h0).trans h4, (hc b 4 h0).trans h5⟩
theorem st5_bx {w : World} {b : Nat} {v0 v1 v2 v3 v4 : Value} (k : Bytes) (d i : Int) (s : Bytes) (v : Int) (hb : b < w.heap.size) (h0 : w.cell? ⟨b, 0, none⟩ = some v0) (h1 : w.cell? ⟨b, 1, none⟩ = some v1) (h2 : w.cell? ⟨b, 2, none⟩ = some v2) (h3 : w.cell? ⟨b, 3, none⟩ = some v3) (h4 : w.cell? ⟨b, 4, none⟩ = some v4) :
    Bx (((((w.setCell ⟨b, 0, none⟩ (.string ⟨k.toArray⟩)).setCell ⟨b, 1, none⟩ (.int .i64 d)).setCell ⟨b, 2, none⟩ (.int .i64 i)).setCell ⟨b, 3, none⟩ (.string ⟨s.toArray⟩)).setCell ⟨b, 4, none⟩ (.int .i64 v)) b ⟨k, d, i, s, v⟩ := by
  refine ⟨by simpa [World.setCell] using hb, ?_, ?_, ?_, ?_, ?_⟩ <;> simp [go_sem, h0, h1, h2, h3, h4]
theorem Fs.set5 {α : Type} {f : α → List Value} {s : Nat} {w : World} {A : Option Addr} {l : List α} {b0 : Nat} (h : Fs f s w A l) (hA : ∀ b off, A = some ⟨b, off, none⟩ → b0 ≠ b) (u0 u1 u2 u3 u4 : Value) :
    Fs f s (((((w.setCell ⟨b0, 0, none⟩ u0).setCell ⟨b0, 1, none⟩ u1).setCell ⟨b0, 2, none⟩ u2).setCell ⟨b0, 3, none⟩ u3).setCell ⟨b0, 4, none⟩ u4) A l := by
  refine ⟨h.1, fun hn => ?_⟩
  obtain ⟨b, off, e, hb, hc⟩ := h.2 hn
  have hne := hA b off e
  refine ⟨b, off, e, by simpa [World.setCell] using hb, fun j u hu => ?_⟩
  rw [World.cell?_setCell_far _ _ _ _ hne, World.cell?_setCell_far _ _ _ _ hne, World.cell?_setCell_far _ _ _ _ hne, World.cell?_setCell_far _ _ _ _ hne, World.cell?_setCell_far _ _ _ _ hne]
  exact hc j u hu
theorem own_far {w : World} {base : Nat} {e : TypeId} {size : Nat} {A : Option Addr} {n c : Nat} {xs : List Value} (h : w.ownsRow base e size (.slice A n c) n xs) {b0 : Nat} (hb : b0 < base) : ∀ b off, A = some ⟨b, off, none⟩ → b0 ≠ b := by
  rintro b off rfl
  rcases h.2 with ⟨h1, _⟩ | ⟨g, cap, cur, h1, hg, _⟩
  · injection h1 with h1; cases h1
  · injection h1 with h1; injection h1 with h1; injection h1 with h1; omega
/-- a new box -/
theorem box_bx (w : World) (t : TypeId) (k : Bytes) (d i : Int) (s : Bytes) (v : Int) :
    Bx (w.alloc (.cells #[.string ⟨k.toArray⟩, .int .i64 d, .int .i64 i, .string ⟨s.toArray⟩, .int .i64 v] t)) w.heap.size ⟨k, d, i, s, v⟩ := by
  refine ⟨by simp, ?_, ?_, ?_, ?_, ?_⟩ <;> simp [go_sem]

set_option maxHeartbeats 8000000 in
theorem keeps_nn (w : World) (hS : Sig w) (A : Option Addr) (l m : List Item) (c : Nat) (xk : Bytes) (xd xi : Int) (xs : Bytes) (xv : Int) (k yk ys q hk hs : Bytes) (hd hi hv : Int) (ho : Bool)
    (hml : m.length ≤ 66) (hfew : Calls Tryd.prog 9 #[.slice A l.length c] (w.alloc (.cells #[.string ⟨xk.toArray⟩, .int .i64 xd, .int .i64 xi, .string ⟨xs.toArray⟩, .int .i64 xv] 32)).drew (FsOut Item.cells 5 32 (w.alloc (.cells #[.string ⟨xk.toArray⟩, .int .i64 xd, .int .i64 xi, .string ⟨xs.toArray⟩, .int .i64 xv] 32)).drew m))
    (hs1 : ∀ w, Calls Tryd.prog 16 #[.string ⟨k.toArray⟩] w fun e w' => e = .returned (.string ⟨q.toArray⟩) ∧ w = w')
    (hone : ∀ w, Calls Tryd.prog 15 #[.agg #[.string ⟨xk.toArray⟩, .int .i64 xd, .int .i64 xi, .string ⟨xs.toArray⟩, .int .i64 xv]] w fun e w' => e = .returned (.agg #[.string ⟨yk.toArray⟩, .int .i64 xd, .int .i64 xi, .string ⟨ys.toArray⟩, .int .i64 xv]) ∧ Below w.heap.size w w')
    (hget : ∀ (A : Option Addr) (c : Nat) w, Sig w → Fs Item.cells 5 w A m → Calls Tryd.prog 17 #[.slice A m.length c, .string ⟨q.toArray⟩] w (fun e w' => e = .returned (.tuple #[.agg #[.string ⟨hk.toArray⟩, .int .i64 hd, .int .i64 hi, .string ⟨hs.toArray⟩, .int .i64 hv], .bool ho]) ∧ Below w.heap.size w w'))
    (er : Nat) (her : ((er : Int) == 0) = false) (hput : ∀ (A : Option Addr) (c : Nat) w, Sig w → Fs Item.cells 5 w A m → m.length ≤ c → Calls Tryd.prog 18 #[.slice A m.length c, .agg #[.string ⟨yk.toArray⟩, .int .i64 xd, .int .i64 xi, .string ⟨ys.toArray⟩, .int .i64 xv]] w (fun e w' => ∃ (A2 : Option Addr) (n2 c2 : Nat), e = .returned (.tuple #[.slice A2 n2 c2, .int .i64 er]) ∧  Below w.heap.size w w'))
    (er2 : Nat) (her2 : ((er2 : Int) == 0) = false) (hdel : ∀ (A : Option Addr) (c : Nat) w, Sig w → Fs Item.cells 5 w A m → m.length ≤ c → Calls Tryd.prog 19 #[.slice A m.length c, .string ⟨yk.toArray⟩] w (fun e w' => ∃ (A2 : Option Addr) (n2 c2 : Nat), e = .returned (.tuple #[.slice A2 n2 c2, .int .i64 er2]) ∧  Below w.heap.size w w'))
:
    Calls Tryd.prog 5 #[.slice A l.length c, .agg #[.string ⟨xk.toArray⟩, .int .i64 xd, .int .i64 xi, .string ⟨xs.toArray⟩, .int .i64 xv], .string ⟨k.toArray⟩] w fun e w' => e = .returned (.bool true) ∧ Below w.heap.size w w' := by
  have HFEW := hide hfew; clear hfew
  have HS1 := hide hs1; clear hs1
  have HONE := hide hone; clear hone
  have HGET := hide hget; clear hget
  have HPUT := hide hput; clear hput
  have HDEL := hide hdel; clear hdel
  have HS := hide hS; clear hS
  have HER := hide her; clear her
  have HER2 := hide her2; clear her2
  go_enter Tryd.func5, Tryd.ntmps5
  go_wp2_with fail
  go_region_with
    (first
      | (go_at_call 9; refine HFEW.out.mono ?_; rintro e w1 ⟨A1, c1, rfl, hown1, hb1⟩; obtain ⟨hc1, hf1⟩ := bcell hb1; have hz1 : w.heap.size < w1.heap.size := by have := hb1.size; simp at this; omega)
      | (go_at_call 15; refine (HONE.out _).mono ?_; rintro e w2 ⟨rfl, hb2⟩; obtain ⟨hc2, hf2⟩ := bcell hb2; have hz2 : w.heap.size < w2.heap.size := Nat.lt_of_lt_of_le hz1 hb2.size)
      | (go_at_call 16; refine (HS1.out _).mono ?_; rintro e w' ⟨rfl, rfl⟩))
  all_goals
    have hcc := hide (own_cap hown1)
    have hxx := st5_bx (w := w2) (b := w.heap.size) (v0 := .string ⟨xk.toArray⟩) (v1 := .int .i64 xd) (v2 := .int .i64 xi) (v3 := .string ⟨xs.toArray⟩) (v4 := .int .i64 xv) yk xd xi ys xv hz2 (by rw [hc2 _ _ hz1, hc1 _ _ (by simp)]; simp) (by rw [hc2 _ _ hz1, hc1 _ _ (by simp)]; simp) (by rw [hc2 _ _ hz1, hc1 _ _ (by simp)]; simp) (by rw [hc2 _ _ hz1, hc1 _ _ (by simp)]; simp) (by rw [hc2 _ _ hz1, hc1 _ _ (by simp)]; simp)
    have hbw := set5 (below_trans (below_trans (gr1d w _) hb1) hb2) (.string ⟨yk.toArray⟩) (.int .i64 xd) (.int .i64 xi) (.string ⟨ys.toArray⟩) (.int .i64 xv)
    have hF2 := (Fs.of_own rfl hown1).below hb2
    have hF3 : Fs Item.cells 5 (((((w2.setCell ⟨w.heap.size, 0, none⟩ (.string ⟨yk.toArray⟩)).setCell ⟨w.heap.size, 1, none⟩ (.int .i64 xd)).setCell ⟨w.heap.size, 2, none⟩ (.int .i64 xi)).setCell ⟨w.heap.size, 3, none⟩ (.string ⟨ys.toArray⟩)).setCell ⟨w.heap.size, 4, none⟩ (.int .i64 xv)) A1 m := by
      exact hF2.set5 (own_far hown1 (by simp)) _ _ _ _ _
    generalize ((((w2.setCell ⟨w.heap.size, 0, none⟩ (.string ⟨yk.toArray⟩)).setCell ⟨w.heap.size, 1, none⟩ (.int .i64 xd)).setCell ⟨w.heap.size, 2, none⟩ (.int .i64 xi)).setCell ⟨w.heap.size, 3, none⟩ (.string ⟨ys.toArray⟩)).setCell ⟨w.heap.size, 4, none⟩ (.int .i64 xv) = w3 at hxx hbw hF3
    have HX3 := hide hxx; have HB3 := hide hbw; have HF3 := hide hF3
    clear hxx hbw hF3 hF2 hown1 hb1 hb2 hc1 hf1 hc2 hf2 hz1 hz2
    have her := HER.out
    have her2 := HER2.out
    go_wp2_with (first
    | (go_at_call 14; refine (awake_any _ (HS.out.below HB6.out)).mono ?_; rintro e w7 ⟨rfl, hb7⟩)
    | (go_at_call 19; refine (HDEL.out A1 c1 _ (HS.out.below HB5.out) HF5.out hcc.out.1).mono ?_; rintro e w6 ⟨A3, n3, c3, rfl, hb6⟩; have hbb6 := hb6; have HB6 := hide (below_trans HB5.out hbb6); clear hb6 hbb6 eX5 gX5 pX5_0 pX5_1 pX5_2 pX5_3 pX5_4)
    | (go_at_call 18; refine (HPUT.out A1 c1 _ (HS.out.below (below_trans HB4.out (gr1 _ _))) (HF4.out.below (gr1 _ _)) hcc.out.1).mono ?_; rintro e w5 ⟨A2, n2, c2, rfl, hb5⟩; have hbb5 := below_trans (gr1 _ _) hb5; have HX5 := hide (HX4.out.below hbb5); have HF5 := hide (HF4.out.below hbb5); have HD5 := hide ((box_bx w4 _ hk hd hi hs hv).below hb5); have HB5 := hide (below_trans HB4.out hbb5); obtain ⟨qX5, pX5_0, pX5_1, pX5_2, pX5_3, pX5_4⟩ := HX5.out; have eX5 := Nat.ne_of_lt qX5; have gX5 := Nat.ne_of_gt qX5; clear hb5 hbb5 eX4 gX4 pX4_0 pX4_1 pX4_2 pX4_3 pX4_4)
    | (go_at_call 17; refine (HGET.out A1 c1 _ (HS.out.below HB3.out) HF3.out).mono ?_; rintro e w4 ⟨rfl, hb4⟩; have hbb4 := hb4; have HX4 := hide (HX3.out.below hbb4); have HF4 := hide (HF3.out.below hbb4); have HB4 := hide (below_trans HB3.out hbb4); obtain ⟨qX4, pX4_0, pX4_1, pX4_2, pX4_3, pX4_4⟩ := HX4.out; have eX4 := Nat.ne_of_lt qX4; have gX4 := Nat.ne_of_gt qX4; clear hb4 hbb4))
    go_ret
    exact ⟨rfl, below_trans HB6.out hb7⟩

set_option maxHeartbeats 8000000 in
theorem keeps_yne (w : World) (hS : Sig w) (A : Option Addr) (l m : List Item) (c : Nat) (xk : Bytes) (xd xi : Int) (xs : Bytes) (xv : Int) (k yk ys q hk hs : Bytes) (hd hi hv : Int) (ho : Bool)
    (hml : m.length ≤ 66) (hfew : Calls Tryd.prog 9 #[.slice A l.length c] (w.alloc (.cells #[.string ⟨xk.toArray⟩, .int .i64 xd, .int .i64 xi, .string ⟨xs.toArray⟩, .int .i64 xv] 32)).drew (FsOut Item.cells 5 32 (w.alloc (.cells #[.string ⟨xk.toArray⟩, .int .i64 xd, .int .i64 xi, .string ⟨xs.toArray⟩, .int .i64 xv] 32)).drew m))
    (hs1 : ∀ w, Calls Tryd.prog 16 #[.string ⟨k.toArray⟩] w fun e w' => e = .returned (.string ⟨q.toArray⟩) ∧ w = w')
    (hone : ∀ w, Calls Tryd.prog 15 #[.agg #[.string ⟨xk.toArray⟩, .int .i64 xd, .int .i64 xi, .string ⟨xs.toArray⟩, .int .i64 xv]] w fun e w' => e = .returned (.agg #[.string ⟨yk.toArray⟩, .int .i64 xd, .int .i64 xi, .string ⟨ys.toArray⟩, .int .i64 xv]) ∧ Below w.heap.size w w')
    (hget : ∀ (A : Option Addr) (c : Nat) w, Sig w → Fs Item.cells 5 w A m → Calls Tryd.prog 17 #[.slice A m.length c, .string ⟨q.toArray⟩] w (fun e w' => e = .returned (.tuple #[.agg #[.string ⟨hk.toArray⟩, .int .i64 hd, .int .i64 hi, .string ⟨hs.toArray⟩, .int .i64 hv], .bool ho]) ∧ Below w.heap.size w w'))
    (r : List Item) (hput : ∀ (A : Option Addr) (c : Nat) w, Sig w → Fs Item.cells 5 w A m → m.length ≤ c → Calls Tryd.prog 18 #[.slice A m.length c, .agg #[.string ⟨yk.toArray⟩, .int .i64 xd, .int .i64 xi, .string ⟨ys.toArray⟩, .int .i64 xv]] w (fun e w' => ∃ (A2 : Option Addr) (n2 c2 : Nat), e = .returned (.tuple #[.slice A2 n2 c2, .int .i64 0]) ∧ n2 = r.length ∧ Fs Item.cells 5 w' A2 r ∧ Below w.heap.size w w'))
    (his : ∀ (A : Option Addr) (c : Nat) w, Sig w → Fs Item.cells 5 w A r → Calls Tryd.prog 26 #[.slice A r.length c] w (fun e w' => e = .returned (.bool true) ∧ Below w.heap.size w w'))
    (hga : ∀ (A : Option Addr) (c : Nat) w, Sig w → Fs Item.cells 5 w A r → Calls Tryd.prog 17 #[.slice A r.length c, .string ⟨yk.toArray⟩] w (fun e w' => e = .returned (.tuple #[.agg #[.string ⟨yk.toArray⟩, .int .i64 xd, .int .i64 xi, .string ⟨ys.toArray⟩, .int .i64 xv], .bool true]) ∧ Below w.heap.size w w'))
    (hgb : ∀ (A : Option Addr) (c : Nat) w, Sig w → Fs Item.cells 5 w A r → Calls Tryd.prog 17 #[.slice A r.length c, .string ⟨q.toArray⟩] w (fun e w' => e = .returned (.tuple #[.agg #[.string ⟨yk.toArray⟩, .int .i64 xd, .int .i64 xi, .string ⟨ys.toArray⟩, .int .i64 xv], .bool true]) ∧ Below w.heap.size w w'))
    (er2 : Nat) (her2 : ((er2 : Int) == 0) = false) (hdel : ∀ (A : Option Addr) (c : Nat) w, Sig w → Fs Item.cells 5 w A m → m.length ≤ c → Calls Tryd.prog 19 #[.slice A m.length c, .string ⟨yk.toArray⟩] w (fun e w' => ∃ (A2 : Option Addr) (n2 c2 : Nat), e = .returned (.tuple #[.slice A2 n2 c2, .int .i64 er2]) ∧  Below w.heap.size w w'))
    (hq : (q == yk) = true) :
    Calls Tryd.prog 5 #[.slice A l.length c, .agg #[.string ⟨xk.toArray⟩, .int .i64 xd, .int .i64 xi, .string ⟨xs.toArray⟩, .int .i64 xv], .string ⟨k.toArray⟩] w fun e w' => e = .returned (.bool true) ∧ Below w.heap.size w w' := by
  obtain rfl : yk = q := by have h := hq; simp at h; exact h.symm
  clear hq
  have HFEW := hide hfew; clear hfew
  have HS1 := hide hs1; clear hs1
  have HONE := hide hone; clear hone
  have HGET := hide hget; clear hget
  have HPUT := hide hput; clear hput
  have HDEL := hide hdel; clear hdel
  have HS := hide hS; clear hS
  have HIS := hide his; clear his
  have HGA := hide hga; clear hga
  have HGB := hide hgb; clear hgb
  have HER2 := hide her2; clear her2
  go_enter Tryd.func5, Tryd.ntmps5
  go_wp2_with fail
  go_region_with
    (first
      | (go_at_call 9; refine HFEW.out.mono ?_; rintro e w1 ⟨A1, c1, rfl, hown1, hb1⟩; obtain ⟨hc1, hf1⟩ := bcell hb1; have hz1 : w.heap.size < w1.heap.size := by have := hb1.size; simp at this; omega)
      | (go_at_call 15; refine (HONE.out _).mono ?_; rintro e w2 ⟨rfl, hb2⟩; obtain ⟨hc2, hf2⟩ := bcell hb2; have hz2 : w.heap.size < w2.heap.size := Nat.lt_of_lt_of_le hz1 hb2.size)
      | (go_at_call 16; refine (HS1.out _).mono ?_; rintro e w' ⟨rfl, rfl⟩))
  all_goals
    have hcc := hide (own_cap hown1)
    have hxx := st5_bx (w := w2) (b := w.heap.size) (v0 := .string ⟨xk.toArray⟩) (v1 := .int .i64 xd) (v2 := .int .i64 xi) (v3 := .string ⟨xs.toArray⟩) (v4 := .int .i64 xv) yk xd xi ys xv hz2 (by rw [hc2 _ _ hz1, hc1 _ _ (by simp)]; simp) (by rw [hc2 _ _ hz1, hc1 _ _ (by simp)]; simp) (by rw [hc2 _ _ hz1, hc1 _ _ (by simp)]; simp) (by rw [hc2 _ _ hz1, hc1 _ _ (by simp)]; simp) (by rw [hc2 _ _ hz1, hc1 _ _ (by simp)]; simp)
    have hbw := set5 (below_trans (below_trans (gr1d w _) hb1) hb2) (.string ⟨yk.toArray⟩) (.int .i64 xd) (.int .i64 xi) (.string ⟨ys.toArray⟩) (.int .i64 xv)
    have hF2 := (Fs.of_own rfl hown1).below hb2
    have hF3 : Fs Item.cells 5 (((((w2.setCell ⟨w.heap.size, 0, none⟩ (.string ⟨yk.toArray⟩)).setCell ⟨w.heap.size, 1, none⟩ (.int .i64 xd)).setCell ⟨w.heap.size, 2, none⟩ (.int .i64 xi)).setCell ⟨w.heap.size, 3, none⟩ (.string ⟨ys.toArray⟩)).setCell ⟨w.heap.size, 4, none⟩ (.int .i64 xv)) A1 m := by
      exact hF2.set5 (own_far hown1 (by simp)) _ _ _ _ _
    generalize ((((w2.setCell ⟨w.heap.size, 0, none⟩ (.string ⟨yk.toArray⟩)).setCell ⟨w.heap.size, 1, none⟩ (.int .i64 xd)).setCell ⟨w.heap.size, 2, none⟩ (.int .i64 xi)).setCell ⟨w.heap.size, 3, none⟩ (.string ⟨ys.toArray⟩)).setCell ⟨w.heap.size, 4, none⟩ (.int .i64 xv) = w3 at hxx hbw hF3
    have HX3 := hide hxx; have HB3 := hide hbw; have HF3 := hide hF3
    clear hxx hbw hF3 hF2 hown1 hb1 hb2 hc1 hf1 hc2 hf2 hz1 hz2
    have hxx : ∀ w, (binOp .neq 32 (.agg #[.string ⟨yk.toArray⟩, .int .i64 xd, .int .i64 xi, .string ⟨ys.toArray⟩, .int .i64 xv]) (.agg #[.string ⟨yk.toArray⟩, .int .i64 xd, .int .i64 xi, .string ⟨ys.toArray⟩, .int .i64 xv])).run Tryd.prog w = .ok (.bool false) w := fun w => by rw [run_neq_item]; simp
    have her2 := HER2.out
    go_wp2_with (first
    | (go_at_call 14; refine (awake_any _ (HS.out.below HB9.out)).mono ?_; rintro e w10 ⟨rfl, hb10⟩)
    | (go_at_call 19; refine (HDEL.out A1 c1 _ (HS.out.below HB8.out) HF8.out hcc.out.1).mono ?_; rintro e w9 ⟨A3, n3, c3, rfl, hb9⟩; have hbb9 := hb9; have HB9 := hide (below_trans HB8.out hbb9); clear hb9 hbb9 eX8 eD8 eE8 gX8 gD8 gE8 pX8_0 pX8_1 pX8_2 pX8_3 pX8_4 pD8_0 pD8_1 pD8_2 pD8_3 pD8_4 pE8_0 pE8_1 pE8_2 pE8_3 pE8_4)
    | (go_at_call 26; refine (HIS.out A2 c2 _ (HS.out.below (below_trans HB7.out (gr1 _ _))) (HR7.out.below (gr1 _ _))).mono ?_; rintro e w8 ⟨rfl, hb8⟩; have hbb8 := below_trans (gr1 _ _) hb8; have HX8 := hide (HX7.out.below hbb8); have HD8 := hide (HD7.out.below hbb8); have HA8 := hide (HA7.out.below hbb8); have HF8 := hide (HF7.out.below hbb8); have HE8 := hide ((box_bx w7 _ yk xd xi ys xv).below hb8); have HB8 := hide (below_trans HB7.out hbb8); obtain ⟨qX8, pX8_0, pX8_1, pX8_2, pX8_3, pX8_4⟩ := HX8.out; obtain ⟨qD8, pD8_0, pD8_1, pD8_2, pD8_3, pD8_4⟩ := HD8.out; obtain ⟨qE8, pE8_0, pE8_1, pE8_2, pE8_3, pE8_4⟩ := HE8.out; have eX8 := Nat.ne_of_lt qX8; have gX8 := Nat.ne_of_gt qX8; have eD8 := Nat.ne_of_lt qD8; have gD8 := Nat.ne_of_gt qD8; have eE8 := Nat.ne_of_lt qE8; have gE8 := Nat.ne_of_gt qE8; clear hb8 hbb8 eX7 eD7 eA7 gX7 gD7 gA7 pX7_0 pX7_1 pX7_2 pX7_3 pX7_4 pD7_0 pD7_1 pD7_2 pD7_3 pD7_4 pA7_0 pA7_1 pA7_2 pA7_3 pA7_4)
    | (go_at_call 17; refine (HGB.out A2 c2 _ (HS.out.below (below_trans HB6.out (gr1 _ _))) (HR6.out.below (gr1 _ _))).mono ?_; rintro e w7 ⟨rfl, hb7⟩; have hbb7 := below_trans (gr1 _ _) hb7; have HX7 := hide (HX6.out.below hbb7); have HD7 := hide (HD6.out.below hbb7); have HF7 := hide (HF6.out.below hbb7); have HR7 := hide (HR6.out.below hbb7); have HA7 := hide ((box_bx w6 _ yk xd xi ys xv).below hb7); have HB7 := hide (below_trans HB6.out hbb7); obtain ⟨qX7, pX7_0, pX7_1, pX7_2, pX7_3, pX7_4⟩ := HX7.out; obtain ⟨qD7, pD7_0, pD7_1, pD7_2, pD7_3, pD7_4⟩ := HD7.out; obtain ⟨qA7, pA7_0, pA7_1, pA7_2, pA7_3, pA7_4⟩ := HA7.out; have eX7 := Nat.ne_of_lt qX7; have gX7 := Nat.ne_of_gt qX7; have eD7 := Nat.ne_of_lt qD7; have gD7 := Nat.ne_of_gt qD7; have eA7 := Nat.ne_of_lt qA7; have gA7 := Nat.ne_of_gt qA7; clear hb7 hbb7 eX6 gX6 pX6_0 pX6_1 pX6_2 pX6_3 pX6_4)
    | (go_at_call 17; refine (HGA.out A2 c2 _ (HS.out.below HB5.out) HR5.out).mono ?_; rintro e w6 ⟨rfl, hb6⟩; have hbb6 := hb6; have HX6 := hide (HX5.out.below hbb6); have HD6 := hide (HD5.out.below hbb6); have HF6 := hide (HF5.out.below hbb6); have HR6 := hide (HR5.out.below hbb6); have HB6 := hide (below_trans HB5.out hbb6); obtain ⟨qX6, pX6_0, pX6_1, pX6_2, pX6_3, pX6_4⟩ := HX6.out; have eX6 := Nat.ne_of_lt qX6; have gX6 := Nat.ne_of_gt qX6; clear hb6 hbb6 eX5 gX5 pX5_0 pX5_1 pX5_2 pX5_3 pX5_4)
    | (go_at_call 18; refine (HPUT.out A1 c1 _ (HS.out.below (below_trans HB4.out (gr1 _ _))) (HF4.out.below (gr1 _ _)) hcc.out.1).mono ?_; rintro e w5 ⟨A2, n2, c2, rfl, rfl, hR5, hb5⟩; have hbb5 := below_trans (gr1 _ _) hb5; have HX5 := hide (HX4.out.below hbb5); have HF5 := hide (HF4.out.below hbb5); have HD5 := hide ((box_bx w4 _ hk hd hi hs hv).below hb5); have HB5 := hide (below_trans HB4.out hbb5); have HR5 := hide hR5; obtain ⟨qX5, pX5_0, pX5_1, pX5_2, pX5_3, pX5_4⟩ := HX5.out; have eX5 := Nat.ne_of_lt qX5; have gX5 := Nat.ne_of_gt qX5; clear hb5 hbb5 hR5 eX4 gX4 pX4_0 pX4_1 pX4_2 pX4_3 pX4_4)
    | (go_at_call 17; refine (HGET.out A1 c1 _ (HS.out.below HB3.out) HF3.out).mono ?_; rintro e w4 ⟨rfl, hb4⟩; have hbb4 := hb4; have HX4 := hide (HX3.out.below hbb4); have HF4 := hide (HF3.out.below hbb4); have HB4 := hide (below_trans HB3.out hbb4); obtain ⟨qX4, pX4_0, pX4_1, pX4_2, pX4_3, pX4_4⟩ := HX4.out; have eX4 := Nat.ne_of_lt qX4; have gX4 := Nat.ne_of_gt qX4; clear hb4 hbb4))
    go_ret
    exact ⟨rfl, below_trans HB9.out hb10⟩

set_option maxHeartbeats 8000000 in
theorem keeps_ynu (w : World) (hS : Sig w) (A : Option Addr) (l m : List Item) (c : Nat) (xk : Bytes) (xd xi : Int) (xs : Bytes) (xv : Int) (k yk ys q hk hs : Bytes) (hd hi hv : Int) (ho : Bool)
    (hml : m.length ≤ 66) (hfew : Calls Tryd.prog 9 #[.slice A l.length c] (w.alloc (.cells #[.string ⟨xk.toArray⟩, .int .i64 xd, .int .i64 xi, .string ⟨xs.toArray⟩, .int .i64 xv] 32)).drew (FsOut Item.cells 5 32 (w.alloc (.cells #[.string ⟨xk.toArray⟩, .int .i64 xd, .int .i64 xi, .string ⟨xs.toArray⟩, .int .i64 xv] 32)).drew m))
    (hs1 : ∀ w, Calls Tryd.prog 16 #[.string ⟨k.toArray⟩] w fun e w' => e = .returned (.string ⟨q.toArray⟩) ∧ w = w')
    (hone : ∀ w, Calls Tryd.prog 15 #[.agg #[.string ⟨xk.toArray⟩, .int .i64 xd, .int .i64 xi, .string ⟨xs.toArray⟩, .int .i64 xv]] w fun e w' => e = .returned (.agg #[.string ⟨yk.toArray⟩, .int .i64 xd, .int .i64 xi, .string ⟨ys.toArray⟩, .int .i64 xv]) ∧ Below w.heap.size w w')
    (hget : ∀ (A : Option Addr) (c : Nat) w, Sig w → Fs Item.cells 5 w A m → Calls Tryd.prog 17 #[.slice A m.length c, .string ⟨q.toArray⟩] w (fun e w' => e = .returned (.tuple #[.agg #[.string ⟨hk.toArray⟩, .int .i64 hd, .int .i64 hi, .string ⟨hs.toArray⟩, .int .i64 hv], .bool ho]) ∧ Below w.heap.size w w'))
    (r : List Item) (hput : ∀ (A : Option Addr) (c : Nat) w, Sig w → Fs Item.cells 5 w A m → m.length ≤ c → Calls Tryd.prog 18 #[.slice A m.length c, .agg #[.string ⟨yk.toArray⟩, .int .i64 xd, .int .i64 xi, .string ⟨ys.toArray⟩, .int .i64 xv]] w (fun e w' => ∃ (A2 : Option Addr) (n2 c2 : Nat), e = .returned (.tuple #[.slice A2 n2 c2, .int .i64 0]) ∧ n2 = r.length ∧ Fs Item.cells 5 w' A2 r ∧ Below w.heap.size w w'))
    (his : ∀ (A : Option Addr) (c : Nat) w, Sig w → Fs Item.cells 5 w A r → Calls Tryd.prog 26 #[.slice A r.length c] w (fun e w' => e = .returned (.bool true) ∧ Below w.heap.size w w'))
    (hga : ∀ (A : Option Addr) (c : Nat) w, Sig w → Fs Item.cells 5 w A r → Calls Tryd.prog 17 #[.slice A r.length c, .string ⟨yk.toArray⟩] w (fun e w' => e = .returned (.tuple #[.agg #[.string ⟨yk.toArray⟩, .int .i64 xd, .int .i64 xi, .string ⟨ys.toArray⟩, .int .i64 xv], .bool true]) ∧ Below w.heap.size w w'))
    (hgb : ∀ (A : Option Addr) (c : Nat) w, Sig w → Fs Item.cells 5 w A r → Calls Tryd.prog 17 #[.slice A r.length c, .string ⟨q.toArray⟩] w (fun e w' => e = .returned (.tuple #[.agg #[.string ⟨hk.toArray⟩, .int .i64 hd, .int .i64 hi, .string ⟨hs.toArray⟩, .int .i64 hv], .bool ho]) ∧ Below w.heap.size w w'))
    (er2 : Nat) (her2 : ((er2 : Int) == 0) = false) (hdel : ∀ (A : Option Addr) (c : Nat) w, Sig w → Fs Item.cells 5 w A m → m.length ≤ c → Calls Tryd.prog 19 #[.slice A m.length c, .string ⟨yk.toArray⟩] w (fun e w' => ∃ (A2 : Option Addr) (n2 c2 : Nat), e = .returned (.tuple #[.slice A2 n2 c2, .int .i64 er2]) ∧  Below w.heap.size w w'))
    (hq : (q == yk) = false) :
    Calls Tryd.prog 5 #[.slice A l.length c, .agg #[.string ⟨xk.toArray⟩, .int .i64 xd, .int .i64 xi, .string ⟨xs.toArray⟩, .int .i64 xv], .string ⟨k.toArray⟩] w fun e w' => e = .returned (.bool true) ∧ Below w.heap.size w w' := by
  have HFEW := hide hfew; clear hfew
  have HS1 := hide hs1; clear hs1
  have HONE := hide hone; clear hone
  have HGET := hide hget; clear hget
  have HPUT := hide hput; clear hput
  have HDEL := hide hdel; clear hdel
  have HS := hide hS; clear hS
  have HIS := hide his; clear his
  have HGA := hide hga; clear hga
  have HGB := hide hgb; clear hgb
  have HER2 := hide her2; clear her2
  have HQ := hide hq; clear hq
  go_enter Tryd.func5, Tryd.ntmps5
  go_wp2_with fail
  go_region_with
    (first
      | (go_at_call 9; refine HFEW.out.mono ?_; rintro e w1 ⟨A1, c1, rfl, hown1, hb1⟩; obtain ⟨hc1, hf1⟩ := bcell hb1; have hz1 : w.heap.size < w1.heap.size := by have := hb1.size; simp at this; omega)
      | (go_at_call 15; refine (HONE.out _).mono ?_; rintro e w2 ⟨rfl, hb2⟩; obtain ⟨hc2, hf2⟩ := bcell hb2; have hz2 : w.heap.size < w2.heap.size := Nat.lt_of_lt_of_le hz1 hb2.size)
      | (go_at_call 16; refine (HS1.out _).mono ?_; rintro e w' ⟨rfl, rfl⟩))
  all_goals
    have hcc := hide (own_cap hown1)
    have hxx := st5_bx (w := w2) (b := w.heap.size) (v0 := .string ⟨xk.toArray⟩) (v1 := .int .i64 xd) (v2 := .int .i64 xi) (v3 := .string ⟨xs.toArray⟩) (v4 := .int .i64 xv) yk xd xi ys xv hz2 (by rw [hc2 _ _ hz1, hc1 _ _ (by simp)]; simp) (by rw [hc2 _ _ hz1, hc1 _ _ (by simp)]; simp) (by rw [hc2 _ _ hz1, hc1 _ _ (by simp)]; simp) (by rw [hc2 _ _ hz1, hc1 _ _ (by simp)]; simp) (by rw [hc2 _ _ hz1, hc1 _ _ (by simp)]; simp)
    have hbw := set5 (below_trans (below_trans (gr1d w _) hb1) hb2) (.string ⟨yk.toArray⟩) (.int .i64 xd) (.int .i64 xi) (.string ⟨ys.toArray⟩) (.int .i64 xv)
    have hF2 := (Fs.of_own rfl hown1).below hb2
    have hF3 : Fs Item.cells 5 (((((w2.setCell ⟨w.heap.size, 0, none⟩ (.string ⟨yk.toArray⟩)).setCell ⟨w.heap.size, 1, none⟩ (.int .i64 xd)).setCell ⟨w.heap.size, 2, none⟩ (.int .i64 xi)).setCell ⟨w.heap.size, 3, none⟩ (.string ⟨ys.toArray⟩)).setCell ⟨w.heap.size, 4, none⟩ (.int .i64 xv)) A1 m := by
      exact hF2.set5 (own_far hown1 (by simp)) _ _ _ _ _
    generalize ((((w2.setCell ⟨w.heap.size, 0, none⟩ (.string ⟨yk.toArray⟩)).setCell ⟨w.heap.size, 1, none⟩ (.int .i64 xd)).setCell ⟨w.heap.size, 2, none⟩ (.int .i64 xi)).setCell ⟨w.heap.size, 3, none⟩ (.string ⟨ys.toArray⟩)).setCell ⟨w.heap.size, 4, none⟩ (.int .i64 xv) = w3 at hxx hbw hF3
    have HX3 := hide hxx; have HB3 := hide hbw; have HF3 := hide hF3
    clear hxx hbw hF3 hF2 hown1 hb1 hb2 hc1 hf1 hc2 hf2 hz1 hz2
    have hxx : ∀ w, (binOp .neq 32 (.agg #[.string ⟨yk.toArray⟩, .int .i64 xd, .int .i64 xi, .string ⟨ys.toArray⟩, .int .i64 xv]) (.agg #[.string ⟨yk.toArray⟩, .int .i64 xd, .int .i64 xi, .string ⟨ys.toArray⟩, .int .i64 xv])).run Tryd.prog w = .ok (.bool false) w := fun w => by rw [run_neq_item]; simp
    have hhh : ∀ w, (binOp .neq 32 (.agg #[.string ⟨hk.toArray⟩, .int .i64 hd, .int .i64 hi, .string ⟨hs.toArray⟩, .int .i64 hv]) (.agg #[.string ⟨hk.toArray⟩, .int .i64 hd, .int .i64 hi, .string ⟨hs.toArray⟩, .int .i64 hv])).run Tryd.prog w = .ok (.bool false) w := fun w => by rw [run_neq_item]; simp
    have hq := HQ.out
    have her2 := HER2.out
    go_wp2_with (first
    | (go_at_call 14; refine (awake_any _ (HS.out.below HB9.out)).mono ?_; rintro e w10 ⟨rfl, hb10⟩)
    | (go_at_call 19; refine (HDEL.out A1 c1 _ (HS.out.below HB8.out) HF8.out hcc.out.1).mono ?_; rintro e w9 ⟨A3, n3, c3, rfl, hb9⟩; have hbb9 := hb9; have HB9 := hide (below_trans HB8.out hbb9); clear hb9 hbb9 eX8 eD8 eE8 gX8 gD8 gE8 pX8_0 pX8_1 pX8_2 pX8_3 pX8_4 pD8_0 pD8_1 pD8_2 pD8_3 pD8_4 pE8_0 pE8_1 pE8_2 pE8_3 pE8_4)
    | (go_at_call 26; refine (HIS.out A2 c2 _ (HS.out.below (below_trans HB7.out (gr1 _ _))) (HR7.out.below (gr1 _ _))).mono ?_; rintro e w8 ⟨rfl, hb8⟩; have hbb8 := below_trans (gr1 _ _) hb8; have HX8 := hide (HX7.out.below hbb8); have HD8 := hide (HD7.out.below hbb8); have HA8 := hide (HA7.out.below hbb8); have HF8 := hide (HF7.out.below hbb8); have HE8 := hide ((box_bx w7 _ hk hd hi hs hv).below hb8); have HB8 := hide (below_trans HB7.out hbb8); obtain ⟨qX8, pX8_0, pX8_1, pX8_2, pX8_3, pX8_4⟩ := HX8.out; obtain ⟨qD8, pD8_0, pD8_1, pD8_2, pD8_3, pD8_4⟩ := HD8.out; obtain ⟨qE8, pE8_0, pE8_1, pE8_2, pE8_3, pE8_4⟩ := HE8.out; have eX8 := Nat.ne_of_lt qX8; have gX8 := Nat.ne_of_gt qX8; have eD8 := Nat.ne_of_lt qD8; have gD8 := Nat.ne_of_gt qD8; have eE8 := Nat.ne_of_lt qE8; have gE8 := Nat.ne_of_gt qE8; clear hb8 hbb8 eX7 eD7 eA7 gX7 gD7 gA7 pX7_0 pX7_1 pX7_2 pX7_3 pX7_4 pD7_0 pD7_1 pD7_2 pD7_3 pD7_4 pA7_0 pA7_1 pA7_2 pA7_3 pA7_4)
    | (go_at_call 17; refine (HGB.out A2 c2 _ (HS.out.below (below_trans HB6.out (gr1 _ _))) (HR6.out.below (gr1 _ _))).mono ?_; rintro e w7 ⟨rfl, hb7⟩; have hbb7 := below_trans (gr1 _ _) hb7; have HX7 := hide (HX6.out.below hbb7); have HD7 := hide (HD6.out.below hbb7); have HF7 := hide (HF6.out.below hbb7); have HR7 := hide (HR6.out.below hbb7); have HA7 := hide ((box_bx w6 _ yk xd xi ys xv).below hb7); have HB7 := hide (below_trans HB6.out hbb7); obtain ⟨qX7, pX7_0, pX7_1, pX7_2, pX7_3, pX7_4⟩ := HX7.out; obtain ⟨qD7, pD7_0, pD7_1, pD7_2, pD7_3, pD7_4⟩ := HD7.out; obtain ⟨qA7, pA7_0, pA7_1, pA7_2, pA7_3, pA7_4⟩ := HA7.out; have eX7 := Nat.ne_of_lt qX7; have gX7 := Nat.ne_of_gt qX7; have eD7 := Nat.ne_of_lt qD7; have gD7 := Nat.ne_of_gt qD7; have eA7 := Nat.ne_of_lt qA7; have gA7 := Nat.ne_of_gt qA7; clear hb7 hbb7 eX6 gX6 pX6_0 pX6_1 pX6_2 pX6_3 pX6_4)
    | (go_at_call 17; refine (HGA.out A2 c2 _ (HS.out.below HB5.out) HR5.out).mono ?_; rintro e w6 ⟨rfl, hb6⟩; have hbb6 := hb6; have HX6 := hide (HX5.out.below hbb6); have HD6 := hide (HD5.out.below hbb6); have HF6 := hide (HF5.out.below hbb6); have HR6 := hide (HR5.out.below hbb6); have HB6 := hide (below_trans HB5.out hbb6); obtain ⟨qX6, pX6_0, pX6_1, pX6_2, pX6_3, pX6_4⟩ := HX6.out; have eX6 := Nat.ne_of_lt qX6; have gX6 := Nat.ne_of_gt qX6; clear hb6 hbb6 eX5 gX5 pX5_0 pX5_1 pX5_2 pX5_3 pX5_4)
    | (go_at_call 18; refine (HPUT.out A1 c1 _ (HS.out.below (below_trans HB4.out (gr1 _ _))) (HF4.out.below (gr1 _ _)) hcc.out.1).mono ?_; rintro e w5 ⟨A2, n2, c2, rfl, rfl, hR5, hb5⟩; have hbb5 := below_trans (gr1 _ _) hb5; have HX5 := hide (HX4.out.below hbb5); have HF5 := hide (HF4.out.below hbb5); have HD5 := hide ((box_bx w4 _ hk hd hi hs hv).below hb5); have HB5 := hide (below_trans HB4.out hbb5); have HR5 := hide hR5; obtain ⟨qX5, pX5_0, pX5_1, pX5_2, pX5_3, pX5_4⟩ := HX5.out; have eX5 := Nat.ne_of_lt qX5; have gX5 := Nat.ne_of_gt qX5; clear hb5 hbb5 hR5 eX4 gX4 pX4_0 pX4_1 pX4_2 pX4_3 pX4_4)
    | (go_at_call 17; refine (HGET.out A1 c1 _ (HS.out.below HB3.out) HF3.out).mono ?_; rintro e w4 ⟨rfl, hb4⟩; have hbb4 := hb4; have HX4 := hide (HX3.out.below hbb4); have HF4 := hide (HF3.out.below hbb4); have HB4 := hide (below_trans HB3.out hbb4); obtain ⟨qX4, pX4_0, pX4_1, pX4_2, pX4_3, pX4_4⟩ := HX4.out; have eX4 := Nat.ne_of_lt qX4; have gX4 := Nat.ne_of_gt qX4; clear hb4 hbb4))
    go_ret
    exact ⟨rfl, below_trans HB9.out hb10⟩

set_option maxHeartbeats 8000000 in
theorem keeps_nye (w : World) (hS : Sig w) (A : Option Addr) (l m : List Item) (c : Nat) (xk : Bytes) (xd xi : Int) (xs : Bytes) (xv : Int) (k yk ys q hk hs : Bytes) (hd hi hv : Int) (ho : Bool)
    (hml : m.length ≤ 66) (hfew : Calls Tryd.prog 9 #[.slice A l.length c] (w.alloc (.cells #[.string ⟨xk.toArray⟩, .int .i64 xd, .int .i64 xi, .string ⟨xs.toArray⟩, .int .i64 xv] 32)).drew (FsOut Item.cells 5 32 (w.alloc (.cells #[.string ⟨xk.toArray⟩, .int .i64 xd, .int .i64 xi, .string ⟨xs.toArray⟩, .int .i64 xv] 32)).drew m))
    (hs1 : ∀ w, Calls Tryd.prog 16 #[.string ⟨k.toArray⟩] w fun e w' => e = .returned (.string ⟨q.toArray⟩) ∧ w = w')
    (hone : ∀ w, Calls Tryd.prog 15 #[.agg #[.string ⟨xk.toArray⟩, .int .i64 xd, .int .i64 xi, .string ⟨xs.toArray⟩, .int .i64 xv]] w fun e w' => e = .returned (.agg #[.string ⟨yk.toArray⟩, .int .i64 xd, .int .i64 xi, .string ⟨ys.toArray⟩, .int .i64 xv]) ∧ Below w.heap.size w w')
    (hget : ∀ (A : Option Addr) (c : Nat) w, Sig w → Fs Item.cells 5 w A m → Calls Tryd.prog 17 #[.slice A m.length c, .string ⟨q.toArray⟩] w (fun e w' => e = .returned (.tuple #[.agg #[.string ⟨hk.toArray⟩, .int .i64 hd, .int .i64 hi, .string ⟨hs.toArray⟩, .int .i64 hv], .bool ho]) ∧ Below w.heap.size w w'))
    (er : Nat) (her : ((er : Int) == 0) = false) (hput : ∀ (A : Option Addr) (c : Nat) w, Sig w → Fs Item.cells 5 w A m → m.length ≤ c → Calls Tryd.prog 18 #[.slice A m.length c, .agg #[.string ⟨yk.toArray⟩, .int .i64 xd, .int .i64 xi, .string ⟨ys.toArray⟩, .int .i64 xv]] w (fun e w' => ∃ (A2 : Option Addr) (n2 c2 : Nat), e = .returned (.tuple #[.slice A2 n2 c2, .int .i64 er]) ∧  Below w.heap.size w w'))
    (r2 : List Item) (hdel : ∀ (A : Option Addr) (c : Nat) w, Sig w → Fs Item.cells 5 w A m → m.length ≤ c → Calls Tryd.prog 19 #[.slice A m.length c, .string ⟨yk.toArray⟩] w (fun e w' => ∃ (A2 : Option Addr) (n2 c2 : Nat), e = .returned (.tuple #[.slice A2 n2 c2, .int .i64 0]) ∧ n2 = r2.length ∧ Fs Item.cells 5 w' A2 r2 ∧ Below w.heap.size w w'))
    (hlen : IntKind.i64.wrap ((m.length : Int) - 1) = (r2.length : Int)) (his2 : ∀ (A : Option Addr) (c : Nat) w, Sig w → Fs Item.cells 5 w A r2 → Calls Tryd.prog 26 #[.slice A r2.length c] w (fun e w' => e = .returned (.bool true) ∧ Below w.heap.size w w'))
    (hga2 : ∀ (A : Option Addr) (c : Nat) w, Sig w → Fs Item.cells 5 w A r2 → Calls Tryd.prog 17 #[.slice A r2.length c, .string ⟨yk.toArray⟩] w (fun e w' => e = .returned (.tuple #[.agg #[.string ⟨#[]⟩, .int .i64 0, .int .i64 0, .string ⟨#[]⟩, .int .i64 0], .bool false]) ∧ Below w.heap.size w w'))
    (hgb2 : ∀ (A : Option Addr) (c : Nat) w, Sig w → Fs Item.cells 5 w A r2 → Calls Tryd.prog 17 #[.slice A r2.length c, .string ⟨q.toArray⟩] w (fun e w' => e = .returned (.tuple #[.agg #[.string ⟨#[]⟩, .int .i64 0, .int .i64 0, .string ⟨#[]⟩, .int .i64 0], .bool false]) ∧ Below w.heap.size w w'))
    (hq : (q == yk) = true) :
    Calls Tryd.prog 5 #[.slice A l.length c, .agg #[.string ⟨xk.toArray⟩, .int .i64 xd, .int .i64 xi, .string ⟨xs.toArray⟩, .int .i64 xv], .string ⟨k.toArray⟩] w fun e w' => e = .returned (.bool true) ∧ Below w.heap.size w w' := by
  obtain rfl : yk = q := by have h := hq; simp at h; exact h.symm
  clear hq
  have HFEW := hide hfew; clear hfew
  have HS1 := hide hs1; clear hs1
  have HONE := hide hone; clear hone
  have HGET := hide hget; clear hget
  have HPUT := hide hput; clear hput
  have HDEL := hide hdel; clear hdel
  have HS := hide hS; clear hS
  have HER := hide her; clear her
  have HLEN := hide hlen; clear hlen
  have HIS2 := hide his2; clear his2
  have HGA2 := hide hga2; clear hga2
  have HGB2 := hide hgb2; clear hgb2
  go_enter Tryd.func5, Tryd.ntmps5
  go_wp2_with fail
  go_region_with
    (first
      | (go_at_call 9; refine HFEW.out.mono ?_; rintro e w1 ⟨A1, c1, rfl, hown1, hb1⟩; obtain ⟨hc1, hf1⟩ := bcell hb1; have hz1 : w.heap.size < w1.heap.size := by have := hb1.size; simp at this; omega)
      | (go_at_call 15; refine (HONE.out _).mono ?_; rintro e w2 ⟨rfl, hb2⟩; obtain ⟨hc2, hf2⟩ := bcell hb2; have hz2 : w.heap.size < w2.heap.size := Nat.lt_of_lt_of_le hz1 hb2.size)
      | (go_at_call 16; refine (HS1.out _).mono ?_; rintro e w' ⟨rfl, rfl⟩))
  all_goals
    have hcc := hide (own_cap hown1)
    have hxx := st5_bx (w := w2) (b := w.heap.size) (v0 := .string ⟨xk.toArray⟩) (v1 := .int .i64 xd) (v2 := .int .i64 xi) (v3 := .string ⟨xs.toArray⟩) (v4 := .int .i64 xv) yk xd xi ys xv hz2 (by rw [hc2 _ _ hz1, hc1 _ _ (by simp)]; simp) (by rw [hc2 _ _ hz1, hc1 _ _ (by simp)]; simp) (by rw [hc2 _ _ hz1, hc1 _ _ (by simp)]; simp) (by rw [hc2 _ _ hz1, hc1 _ _ (by simp)]; simp) (by rw [hc2 _ _ hz1, hc1 _ _ (by simp)]; simp)
    have hbw := set5 (below_trans (below_trans (gr1d w _) hb1) hb2) (.string ⟨yk.toArray⟩) (.int .i64 xd) (.int .i64 xi) (.string ⟨ys.toArray⟩) (.int .i64 xv)
    have hF2 := (Fs.of_own rfl hown1).below hb2
    have hF3 : Fs Item.cells 5 (((((w2.setCell ⟨w.heap.size, 0, none⟩ (.string ⟨yk.toArray⟩)).setCell ⟨w.heap.size, 1, none⟩ (.int .i64 xd)).setCell ⟨w.heap.size, 2, none⟩ (.int .i64 xi)).setCell ⟨w.heap.size, 3, none⟩ (.string ⟨ys.toArray⟩)).setCell ⟨w.heap.size, 4, none⟩ (.int .i64 xv)) A1 m := by
      exact hF2.set5 (own_far hown1 (by simp)) _ _ _ _ _
    generalize ((((w2.setCell ⟨w.heap.size, 0, none⟩ (.string ⟨yk.toArray⟩)).setCell ⟨w.heap.size, 1, none⟩ (.int .i64 xd)).setCell ⟨w.heap.size, 2, none⟩ (.int .i64 xi)).setCell ⟨w.heap.size, 3, none⟩ (.string ⟨ys.toArray⟩)).setCell ⟨w.heap.size, 4, none⟩ (.int .i64 xv) = w3 at hxx hbw hF3
    have HX3 := hide hxx; have HB3 := hide hbw; have HF3 := hide hF3
    clear hxx hbw hF3 hF2 hown1 hb1 hb2 hc1 hf1 hc2 hf2 hz1 hz2
    have hxx : ∀ w, (binOp .neq 32 (.agg #[.string ⟨yk.toArray⟩, .int .i64 xd, .int .i64 xi, .string ⟨ys.toArray⟩, .int .i64 xv]) (.agg #[.string ⟨yk.toArray⟩, .int .i64 xd, .int .i64 xi, .string ⟨ys.toArray⟩, .int .i64 xv])).run Tryd.prog w = .ok (.bool false) w := fun w => by rw [run_neq_item]; simp
    have her := HER.out
    have hlen := HLEN.out
    go_wp2_with (first
    | (go_at_call 14; refine (awake_any _ (HS.out.below HB9.out)).mono ?_; rintro e w10 ⟨rfl, hb10⟩)
    | (go_at_call 26; refine (HIS2.out A3 c3 _ (HS.out.below (below_trans HB8.out (gr1 _ _))) (HT8.out.below (gr1 _ _))).mono ?_; rintro e w9 ⟨rfl, hb9⟩; have hbb9 := below_trans (gr1 _ _) hb9; have HX9 := hide (HX8.out.below hbb9); have HD9 := hide (HD8.out.below hbb9); have HK9 := hide ((box_bx w8 _ [] 0 0 [] 0).below hb9); have HB9 := hide (below_trans HB8.out hbb9); obtain ⟨qX9, pX9_0, pX9_1, pX9_2, pX9_3, pX9_4⟩ := HX9.out; obtain ⟨qD9, pD9_0, pD9_1, pD9_2, pD9_3, pD9_4⟩ := HD9.out; obtain ⟨qK9, pK9_0, pK9_1, pK9_2, pK9_3, pK9_4⟩ := HK9.out; have eX9 := Nat.ne_of_lt qX9; have gX9 := Nat.ne_of_gt qX9; have eD9 := Nat.ne_of_lt qD9; have gD9 := Nat.ne_of_gt qD9; have eK9 := Nat.ne_of_lt qK9; have gK9 := Nat.ne_of_gt qK9; clear hb9 hbb9 eX8 eD8 gX8 gD8 pX8_0 pX8_1 pX8_2 pX8_3 pX8_4 pD8_0 pD8_1 pD8_2 pD8_3 pD8_4)
    | (go_at_call 17; refine (HGB2.out A3 c3 _ (HS.out.below (below_trans HB7.out (gr1 _ _))) (HT7.out.below (gr1 _ _))).mono ?_; rintro e w8 ⟨rfl, hb8⟩; have hbb8 := below_trans (gr1 _ _) hb8; have HX8 := hide (HX7.out.below hbb8); have HD8 := hide (HD7.out.below hbb8); have HT8 := hide (HT7.out.below hbb8); have HG8 := hide ((box_bx w7 _ [] 0 0 [] 0).below hb8); have HB8 := hide (below_trans HB7.out hbb8); obtain ⟨qX8, pX8_0, pX8_1, pX8_2, pX8_3, pX8_4⟩ := HX8.out; obtain ⟨qD8, pD8_0, pD8_1, pD8_2, pD8_3, pD8_4⟩ := HD8.out; have eX8 := Nat.ne_of_lt qX8; have gX8 := Nat.ne_of_gt qX8; have eD8 := Nat.ne_of_lt qD8; have gD8 := Nat.ne_of_gt qD8; clear hb8 hbb8 eX7 gX7 pX7_0 pX7_1 pX7_2 pX7_3 pX7_4)
    | (go_at_call 17; refine (HGA2.out A3 c3 _ (HS.out.below HB6.out) HT6.out).mono ?_; rintro e w7 ⟨rfl, hb7⟩; have hbb7 := hb7; have HX7 := hide (HX6.out.below hbb7); have HD7 := hide (HD6.out.below hbb7); have HT7 := hide (HT6.out.below hbb7); have HB7 := hide (below_trans HB6.out hbb7); obtain ⟨qX7, pX7_0, pX7_1, pX7_2, pX7_3, pX7_4⟩ := HX7.out; have eX7 := Nat.ne_of_lt qX7; have gX7 := Nat.ne_of_gt qX7; clear hb7 hbb7 eX6 gX6 pX6_0 pX6_1 pX6_2 pX6_3 pX6_4)
    | (go_at_call 19; refine (HDEL.out A1 c1 _ (HS.out.below HB5.out) HF5.out hcc.out.1).mono ?_; rintro e w6 ⟨A3, n3, c3, rfl, rfl, hT6, hb6⟩; have hbb6 := hb6; have HX6 := hide (HX5.out.below hbb6); have HD6 := hide (HD5.out.below hbb6); have HB6 := hide (below_trans HB5.out hbb6); have HT6 := hide hT6; obtain ⟨qX6, pX6_0, pX6_1, pX6_2, pX6_3, pX6_4⟩ := HX6.out; have eX6 := Nat.ne_of_lt qX6; have gX6 := Nat.ne_of_gt qX6; clear hb6 hbb6 hT6 eX5 gX5 pX5_0 pX5_1 pX5_2 pX5_3 pX5_4)
    | (go_at_call 18; refine (HPUT.out A1 c1 _ (HS.out.below (below_trans HB4.out (gr1 _ _))) (HF4.out.below (gr1 _ _)) hcc.out.1).mono ?_; rintro e w5 ⟨A2, n2, c2, rfl, hb5⟩; have hbb5 := below_trans (gr1 _ _) hb5; have HX5 := hide (HX4.out.below hbb5); have HF5 := hide (HF4.out.below hbb5); have HD5 := hide ((box_bx w4 _ hk hd hi hs hv).below hb5); have HB5 := hide (below_trans HB4.out hbb5); obtain ⟨qX5, pX5_0, pX5_1, pX5_2, pX5_3, pX5_4⟩ := HX5.out; have eX5 := Nat.ne_of_lt qX5; have gX5 := Nat.ne_of_gt qX5; clear hb5 hbb5 eX4 gX4 pX4_0 pX4_1 pX4_2 pX4_3 pX4_4)
    | (go_at_call 17; refine (HGET.out A1 c1 _ (HS.out.below HB3.out) HF3.out).mono ?_; rintro e w4 ⟨rfl, hb4⟩; have hbb4 := hb4; have HX4 := hide (HX3.out.below hbb4); have HF4 := hide (HF3.out.below hbb4); have HB4 := hide (below_trans HB3.out hbb4); obtain ⟨qX4, pX4_0, pX4_1, pX4_2, pX4_3, pX4_4⟩ := HX4.out; have eX4 := Nat.ne_of_lt qX4; have gX4 := Nat.ne_of_gt qX4; clear hb4 hbb4))
    go_ret
    exact ⟨rfl, below_trans HB9.out hb10⟩

set_option maxHeartbeats 8000000 in
theorem keeps_nyu (w : World) (hS : Sig w) (A : Option Addr) (l m : List Item) (c : Nat) (xk : Bytes) (xd xi : Int) (xs : Bytes) (xv : Int) (k yk ys q hk hs : Bytes) (hd hi hv : Int) (ho : Bool)
    (hml : m.length ≤ 66) (hfew : Calls Tryd.prog 9 #[.slice A l.length c] (w.alloc (.cells #[.string ⟨xk.toArray⟩, .int .i64 xd, .int .i64 xi, .string ⟨xs.toArray⟩, .int .i64 xv] 32)).drew (FsOut Item.cells 5 32 (w.alloc (.cells #[.string ⟨xk.toArray⟩, .int .i64 xd, .int .i64 xi, .string ⟨xs.toArray⟩, .int .i64 xv] 32)).drew m))
    (hs1 : ∀ w, Calls Tryd.prog 16 #[.string ⟨k.toArray⟩] w fun e w' => e = .returned (.string ⟨q.toArray⟩) ∧ w = w')
    (hone : ∀ w, Calls Tryd.prog 15 #[.agg #[.string ⟨xk.toArray⟩, .int .i64 xd, .int .i64 xi, .string ⟨xs.toArray⟩, .int .i64 xv]] w fun e w' => e = .returned (.agg #[.string ⟨yk.toArray⟩, .int .i64 xd, .int .i64 xi, .string ⟨ys.toArray⟩, .int .i64 xv]) ∧ Below w.heap.size w w')
    (hget : ∀ (A : Option Addr) (c : Nat) w, Sig w → Fs Item.cells 5 w A m → Calls Tryd.prog 17 #[.slice A m.length c, .string ⟨q.toArray⟩] w (fun e w' => e = .returned (.tuple #[.agg #[.string ⟨hk.toArray⟩, .int .i64 hd, .int .i64 hi, .string ⟨hs.toArray⟩, .int .i64 hv], .bool ho]) ∧ Below w.heap.size w w'))
    (er : Nat) (her : ((er : Int) == 0) = false) (hput : ∀ (A : Option Addr) (c : Nat) w, Sig w → Fs Item.cells 5 w A m → m.length ≤ c → Calls Tryd.prog 18 #[.slice A m.length c, .agg #[.string ⟨yk.toArray⟩, .int .i64 xd, .int .i64 xi, .string ⟨ys.toArray⟩, .int .i64 xv]] w (fun e w' => ∃ (A2 : Option Addr) (n2 c2 : Nat), e = .returned (.tuple #[.slice A2 n2 c2, .int .i64 er]) ∧  Below w.heap.size w w'))
    (r2 : List Item) (hdel : ∀ (A : Option Addr) (c : Nat) w, Sig w → Fs Item.cells 5 w A m → m.length ≤ c → Calls Tryd.prog 19 #[.slice A m.length c, .string ⟨yk.toArray⟩] w (fun e w' => ∃ (A2 : Option Addr) (n2 c2 : Nat), e = .returned (.tuple #[.slice A2 n2 c2, .int .i64 0]) ∧ n2 = r2.length ∧ Fs Item.cells 5 w' A2 r2 ∧ Below w.heap.size w w'))
    (hlen : IntKind.i64.wrap ((m.length : Int) - 1) = (r2.length : Int)) (his2 : ∀ (A : Option Addr) (c : Nat) w, Sig w → Fs Item.cells 5 w A r2 → Calls Tryd.prog 26 #[.slice A r2.length c] w (fun e w' => e = .returned (.bool true) ∧ Below w.heap.size w w'))
    (hga2 : ∀ (A : Option Addr) (c : Nat) w, Sig w → Fs Item.cells 5 w A r2 → Calls Tryd.prog 17 #[.slice A r2.length c, .string ⟨yk.toArray⟩] w (fun e w' => e = .returned (.tuple #[.agg #[.string ⟨#[]⟩, .int .i64 0, .int .i64 0, .string ⟨#[]⟩, .int .i64 0], .bool false]) ∧ Below w.heap.size w w'))
    (hgb2 : ∀ (A : Option Addr) (c : Nat) w, Sig w → Fs Item.cells 5 w A r2 → Calls Tryd.prog 17 #[.slice A r2.length c, .string ⟨q.toArray⟩] w (fun e w' => e = .returned (.tuple #[.agg #[.string ⟨hk.toArray⟩, .int .i64 hd, .int .i64 hi, .string ⟨hs.toArray⟩, .int .i64 hv], .bool ho]) ∧ Below w.heap.size w w'))
    (hq : (q == yk) = false) :
    Calls Tryd.prog 5 #[.slice A l.length c, .agg #[.string ⟨xk.toArray⟩, .int .i64 xd, .int .i64 xi, .string ⟨xs.toArray⟩, .int .i64 xv], .string ⟨k.toArray⟩] w fun e w' => e = .returned (.bool true) ∧ Below w.heap.size w w' := by
  have HFEW := hide hfew; clear hfew
  have HS1 := hide hs1; clear hs1
  have HONE := hide hone; clear hone
  have HGET := hide hget; clear hget
  have HPUT := hide hput; clear hput
  have HDEL := hide hdel; clear hdel
  have HS := hide hS; clear hS
  have HER := hide her; clear her
  have HLEN := hide hlen; clear hlen
  have HIS2 := hide his2; clear his2
  have HGA2 := hide hga2; clear hga2
  have HGB2 := hide hgb2; clear hgb2
  have HQ := hide hq; clear hq
  go_enter Tryd.func5, Tryd.ntmps5
  go_wp2_with fail
  go_region_with
    (first
      | (go_at_call 9; refine HFEW.out.mono ?_; rintro e w1 ⟨A1, c1, rfl, hown1, hb1⟩; obtain ⟨hc1, hf1⟩ := bcell hb1; have hz1 : w.heap.size < w1.heap.size := by have := hb1.size; simp at this; omega)
      | (go_at_call 15; refine (HONE.out _).mono ?_; rintro e w2 ⟨rfl, hb2⟩; obtain ⟨hc2, hf2⟩ := bcell hb2; have hz2 : w.heap.size < w2.heap.size := Nat.lt_of_lt_of_le hz1 hb2.size)
      | (go_at_call 16; refine (HS1.out _).mono ?_; rintro e w' ⟨rfl, rfl⟩))
  all_goals
    have hcc := hide (own_cap hown1)
    have hxx := st5_bx (w := w2) (b := w.heap.size) (v0 := .string ⟨xk.toArray⟩) (v1 := .int .i64 xd) (v2 := .int .i64 xi) (v3 := .string ⟨xs.toArray⟩) (v4 := .int .i64 xv) yk xd xi ys xv hz2 (by rw [hc2 _ _ hz1, hc1 _ _ (by simp)]; simp) (by rw [hc2 _ _ hz1, hc1 _ _ (by simp)]; simp) (by rw [hc2 _ _ hz1, hc1 _ _ (by simp)]; simp) (by rw [hc2 _ _ hz1, hc1 _ _ (by simp)]; simp) (by rw [hc2 _ _ hz1, hc1 _ _ (by simp)]; simp)
    have hbw := set5 (below_trans (below_trans (gr1d w _) hb1) hb2) (.string ⟨yk.toArray⟩) (.int .i64 xd) (.int .i64 xi) (.string ⟨ys.toArray⟩) (.int .i64 xv)
    have hF2 := (Fs.of_own rfl hown1).below hb2
    have hF3 : Fs Item.cells 5 (((((w2.setCell ⟨w.heap.size, 0, none⟩ (.string ⟨yk.toArray⟩)).setCell ⟨w.heap.size, 1, none⟩ (.int .i64 xd)).setCell ⟨w.heap.size, 2, none⟩ (.int .i64 xi)).setCell ⟨w.heap.size, 3, none⟩ (.string ⟨ys.toArray⟩)).setCell ⟨w.heap.size, 4, none⟩ (.int .i64 xv)) A1 m := by
      exact hF2.set5 (own_far hown1 (by simp)) _ _ _ _ _
    generalize ((((w2.setCell ⟨w.heap.size, 0, none⟩ (.string ⟨yk.toArray⟩)).setCell ⟨w.heap.size, 1, none⟩ (.int .i64 xd)).setCell ⟨w.heap.size, 2, none⟩ (.int .i64 xi)).setCell ⟨w.heap.size, 3, none⟩ (.string ⟨ys.toArray⟩)).setCell ⟨w.heap.size, 4, none⟩ (.int .i64 xv) = w3 at hxx hbw hF3
    have HX3 := hide hxx; have HB3 := hide hbw; have HF3 := hide hF3
    clear hxx hbw hF3 hF2 hown1 hb1 hb2 hc1 hf1 hc2 hf2 hz1 hz2
    have hxx : ∀ w, (binOp .neq 32 (.agg #[.string ⟨yk.toArray⟩, .int .i64 xd, .int .i64 xi, .string ⟨ys.toArray⟩, .int .i64 xv]) (.agg #[.string ⟨yk.toArray⟩, .int .i64 xd, .int .i64 xi, .string ⟨ys.toArray⟩, .int .i64 xv])).run Tryd.prog w = .ok (.bool false) w := fun w => by rw [run_neq_item]; simp
    have hhh : ∀ w, (binOp .neq 32 (.agg #[.string ⟨hk.toArray⟩, .int .i64 hd, .int .i64 hi, .string ⟨hs.toArray⟩, .int .i64 hv]) (.agg #[.string ⟨hk.toArray⟩, .int .i64 hd, .int .i64 hi, .string ⟨hs.toArray⟩, .int .i64 hv])).run Tryd.prog w = .ok (.bool false) w := fun w => by rw [run_neq_item]; simp
    have hq := HQ.out
    have her := HER.out
    have hlen := HLEN.out
    go_wp2_with (first
    | (go_at_call 14; refine (awake_any _ (HS.out.below HB9.out)).mono ?_; rintro e w10 ⟨rfl, hb10⟩)
    | (go_at_call 26; refine (HIS2.out A3 c3 _ (HS.out.below (below_trans HB8.out (gr1 _ _))) (HT8.out.below (gr1 _ _))).mono ?_; rintro e w9 ⟨rfl, hb9⟩; have hbb9 := below_trans (gr1 _ _) hb9; have HX9 := hide (HX8.out.below hbb9); have HD9 := hide (HD8.out.below hbb9); have HK9 := hide ((box_bx w8 _ hk hd hi hs hv).below hb9); have HB9 := hide (below_trans HB8.out hbb9); obtain ⟨qX9, pX9_0, pX9_1, pX9_2, pX9_3, pX9_4⟩ := HX9.out; obtain ⟨qD9, pD9_0, pD9_1, pD9_2, pD9_3, pD9_4⟩ := HD9.out; obtain ⟨qK9, pK9_0, pK9_1, pK9_2, pK9_3, pK9_4⟩ := HK9.out; have eX9 := Nat.ne_of_lt qX9; have gX9 := Nat.ne_of_gt qX9; have eD9 := Nat.ne_of_lt qD9; have gD9 := Nat.ne_of_gt qD9; have eK9 := Nat.ne_of_lt qK9; have gK9 := Nat.ne_of_gt qK9; clear hb9 hbb9 eX8 eD8 gX8 gD8 pX8_0 pX8_1 pX8_2 pX8_3 pX8_4 pD8_0 pD8_1 pD8_2 pD8_3 pD8_4)
    | (go_at_call 17; refine (HGB2.out A3 c3 _ (HS.out.below (below_trans HB7.out (gr1 _ _))) (HT7.out.below (gr1 _ _))).mono ?_; rintro e w8 ⟨rfl, hb8⟩; have hbb8 := below_trans (gr1 _ _) hb8; have HX8 := hide (HX7.out.below hbb8); have HD8 := hide (HD7.out.below hbb8); have HT8 := hide (HT7.out.below hbb8); have HG8 := hide ((box_bx w7 _ [] 0 0 [] 0).below hb8); have HB8 := hide (below_trans HB7.out hbb8); obtain ⟨qX8, pX8_0, pX8_1, pX8_2, pX8_3, pX8_4⟩ := HX8.out; obtain ⟨qD8, pD8_0, pD8_1, pD8_2, pD8_3, pD8_4⟩ := HD8.out; have eX8 := Nat.ne_of_lt qX8; have gX8 := Nat.ne_of_gt qX8; have eD8 := Nat.ne_of_lt qD8; have gD8 := Nat.ne_of_gt qD8; clear hb8 hbb8 eX7 gX7 pX7_0 pX7_1 pX7_2 pX7_3 pX7_4)
    | (go_at_call 17; refine (HGA2.out A3 c3 _ (HS.out.below HB6.out) HT6.out).mono ?_; rintro e w7 ⟨rfl, hb7⟩; have hbb7 := hb7; have HX7 := hide (HX6.out.below hbb7); have HD7 := hide (HD6.out.below hbb7); have HT7 := hide (HT6.out.below hbb7); have HB7 := hide (below_trans HB6.out hbb7); obtain ⟨qX7, pX7_0, pX7_1, pX7_2, pX7_3, pX7_4⟩ := HX7.out; have eX7 := Nat.ne_of_lt qX7; have gX7 := Nat.ne_of_gt qX7; clear hb7 hbb7 eX6 gX6 pX6_0 pX6_1 pX6_2 pX6_3 pX6_4)
    | (go_at_call 19; refine (HDEL.out A1 c1 _ (HS.out.below HB5.out) HF5.out hcc.out.1).mono ?_; rintro e w6 ⟨A3, n3, c3, rfl, rfl, hT6, hb6⟩; have hbb6 := hb6; have HX6 := hide (HX5.out.below hbb6); have HD6 := hide (HD5.out.below hbb6); have HB6 := hide (below_trans HB5.out hbb6); have HT6 := hide hT6; obtain ⟨qX6, pX6_0, pX6_1, pX6_2, pX6_3, pX6_4⟩ := HX6.out; have eX6 := Nat.ne_of_lt qX6; have gX6 := Nat.ne_of_gt qX6; clear hb6 hbb6 hT6 eX5 gX5 pX5_0 pX5_1 pX5_2 pX5_3 pX5_4)
    | (go_at_call 18; refine (HPUT.out A1 c1 _ (HS.out.below (below_trans HB4.out (gr1 _ _))) (HF4.out.below (gr1 _ _)) hcc.out.1).mono ?_; rintro e w5 ⟨A2, n2, c2, rfl, hb5⟩; have hbb5 := below_trans (gr1 _ _) hb5; have HX5 := hide (HX4.out.below hbb5); have HF5 := hide (HF4.out.below hbb5); have HD5 := hide ((box_bx w4 _ hk hd hi hs hv).below hb5); have HB5 := hide (below_trans HB4.out hbb5); obtain ⟨qX5, pX5_0, pX5_1, pX5_2, pX5_3, pX5_4⟩ := HX5.out; have eX5 := Nat.ne_of_lt qX5; have gX5 := Nat.ne_of_gt qX5; clear hb5 hbb5 eX4 gX4 pX4_0 pX4_1 pX4_2 pX4_3 pX4_4)
    | (go_at_call 17; refine (HGET.out A1 c1 _ (HS.out.below HB3.out) HF3.out).mono ?_; rintro e w4 ⟨rfl, hb4⟩; have hbb4 := hb4; have HX4 := hide (HX3.out.below hbb4); have HF4 := hide (HF3.out.below hbb4); have HB4 := hide (below_trans HB3.out hbb4); obtain ⟨qX4, pX4_0, pX4_1, pX4_2, pX4_3, pX4_4⟩ := HX4.out; have eX4 := Nat.ne_of_lt qX4; have gX4 := Nat.ne_of_gt qX4; clear hb4 hbb4))
    go_ret
    exact ⟨rfl, below_trans HB9.out hb10⟩

set_option maxHeartbeats 8000000 in
theorem keeps_yye (w : World) (hS : Sig w) (A : Option Addr) (l m : List Item) (c : Nat) (xk : Bytes) (xd xi : Int) (xs : Bytes) (xv : Int) (k yk ys q hk hs : Bytes) (hd hi hv : Int) (ho : Bool)
    (hml : m.length ≤ 66) (hfew : Calls Tryd.prog 9 #[.slice A l.length c] (w.alloc (.cells #[.string ⟨xk.toArray⟩, .int .i64 xd, .int .i64 xi, .string ⟨xs.toArray⟩, .int .i64 xv] 32)).drew (FsOut Item.cells 5 32 (w.alloc (.cells #[.string ⟨xk.toArray⟩, .int .i64 xd, .int .i64 xi, .string ⟨xs.toArray⟩, .int .i64 xv] 32)).drew m))
    (hs1 : ∀ w, Calls Tryd.prog 16 #[.string ⟨k.toArray⟩] w fun e w' => e = .returned (.string ⟨q.toArray⟩) ∧ w = w')
    (hone : ∀ w, Calls Tryd.prog 15 #[.agg #[.string ⟨xk.toArray⟩, .int .i64 xd, .int .i64 xi, .string ⟨xs.toArray⟩, .int .i64 xv]] w fun e w' => e = .returned (.agg #[.string ⟨yk.toArray⟩, .int .i64 xd, .int .i64 xi, .string ⟨ys.toArray⟩, .int .i64 xv]) ∧ Below w.heap.size w w')
    (hget : ∀ (A : Option Addr) (c : Nat) w, Sig w → Fs Item.cells 5 w A m → Calls Tryd.prog 17 #[.slice A m.length c, .string ⟨q.toArray⟩] w (fun e w' => e = .returned (.tuple #[.agg #[.string ⟨hk.toArray⟩, .int .i64 hd, .int .i64 hi, .string ⟨hs.toArray⟩, .int .i64 hv], .bool ho]) ∧ Below w.heap.size w w'))
    (r : List Item) (hput : ∀ (A : Option Addr) (c : Nat) w, Sig w → Fs Item.cells 5 w A m → m.length ≤ c → Calls Tryd.prog 18 #[.slice A m.length c, .agg #[.string ⟨yk.toArray⟩, .int .i64 xd, .int .i64 xi, .string ⟨ys.toArray⟩, .int .i64 xv]] w (fun e w' => ∃ (A2 : Option Addr) (n2 c2 : Nat), e = .returned (.tuple #[.slice A2 n2 c2, .int .i64 0]) ∧ n2 = r.length ∧ Fs Item.cells 5 w' A2 r ∧ Below w.heap.size w w'))
    (his : ∀ (A : Option Addr) (c : Nat) w, Sig w → Fs Item.cells 5 w A r → Calls Tryd.prog 26 #[.slice A r.length c] w (fun e w' => e = .returned (.bool true) ∧ Below w.heap.size w w'))
    (hga : ∀ (A : Option Addr) (c : Nat) w, Sig w → Fs Item.cells 5 w A r → Calls Tryd.prog 17 #[.slice A r.length c, .string ⟨yk.toArray⟩] w (fun e w' => e = .returned (.tuple #[.agg #[.string ⟨yk.toArray⟩, .int .i64 xd, .int .i64 xi, .string ⟨ys.toArray⟩, .int .i64 xv], .bool true]) ∧ Below w.heap.size w w'))
    (hgb : ∀ (A : Option Addr) (c : Nat) w, Sig w → Fs Item.cells 5 w A r → Calls Tryd.prog 17 #[.slice A r.length c, .string ⟨q.toArray⟩] w (fun e w' => e = .returned (.tuple #[.agg #[.string ⟨yk.toArray⟩, .int .i64 xd, .int .i64 xi, .string ⟨ys.toArray⟩, .int .i64 xv], .bool true]) ∧ Below w.heap.size w w'))
    (r2 : List Item) (hdel : ∀ (A : Option Addr) (c : Nat) w, Sig w → Fs Item.cells 5 w A m → m.length ≤ c → Calls Tryd.prog 19 #[.slice A m.length c, .string ⟨yk.toArray⟩] w (fun e w' => ∃ (A2 : Option Addr) (n2 c2 : Nat), e = .returned (.tuple #[.slice A2 n2 c2, .int .i64 0]) ∧ n2 = r2.length ∧ Fs Item.cells 5 w' A2 r2 ∧ Below w.heap.size w w'))
    (hlen : IntKind.i64.wrap ((m.length : Int) - 1) = (r2.length : Int)) (his2 : ∀ (A : Option Addr) (c : Nat) w, Sig w → Fs Item.cells 5 w A r2 → Calls Tryd.prog 26 #[.slice A r2.length c] w (fun e w' => e = .returned (.bool true) ∧ Below w.heap.size w w'))
    (hga2 : ∀ (A : Option Addr) (c : Nat) w, Sig w → Fs Item.cells 5 w A r2 → Calls Tryd.prog 17 #[.slice A r2.length c, .string ⟨yk.toArray⟩] w (fun e w' => e = .returned (.tuple #[.agg #[.string ⟨#[]⟩, .int .i64 0, .int .i64 0, .string ⟨#[]⟩, .int .i64 0], .bool false]) ∧ Below w.heap.size w w'))
    (hgb2 : ∀ (A : Option Addr) (c : Nat) w, Sig w → Fs Item.cells 5 w A r2 → Calls Tryd.prog 17 #[.slice A r2.length c, .string ⟨q.toArray⟩] w (fun e w' => e = .returned (.tuple #[.agg #[.string ⟨#[]⟩, .int .i64 0, .int .i64 0, .string ⟨#[]⟩, .int .i64 0], .bool false]) ∧ Below w.heap.size w w'))
    (hq : (q == yk) = true) :
    Calls Tryd.prog 5 #[.slice A l.length c, .agg #[.string ⟨xk.toArray⟩, .int .i64 xd, .int .i64 xi, .string ⟨xs.toArray⟩, .int .i64 xv], .string ⟨k.toArray⟩] w fun e w' => e = .returned (.bool true) ∧ Below w.heap.size w w' := by
  obtain rfl : yk = q := by have h := hq; simp at h; exact h.symm
  clear hq
  have HFEW := hide hfew; clear hfew
  have HS1 := hide hs1; clear hs1
  have HONE := hide hone; clear hone
  have HGET := hide hget; clear hget
  have HPUT := hide hput; clear hput
  have HDEL := hide hdel; clear hdel
  have HS := hide hS; clear hS
  have HIS := hide his; clear his
  have HGA := hide hga; clear hga
  have HGB := hide hgb; clear hgb
  have HLEN := hide hlen; clear hlen
  have HIS2 := hide his2; clear his2
  have HGA2 := hide hga2; clear hga2
  have HGB2 := hide hgb2; clear hgb2
  go_enter Tryd.func5, Tryd.ntmps5
  go_wp2_with fail
  go_region_with
    (first
      | (go_at_call 9; refine HFEW.out.mono ?_; rintro e w1 ⟨A1, c1, rfl, hown1, hb1⟩; obtain ⟨hc1, hf1⟩ := bcell hb1; have hz1 : w.heap.size < w1.heap.size := by have := hb1.size; simp at this; omega)
      | (go_at_call 15; refine (HONE.out _).mono ?_; rintro e w2 ⟨rfl, hb2⟩; obtain ⟨hc2, hf2⟩ := bcell hb2; have hz2 : w.heap.size < w2.heap.size := Nat.lt_of_lt_of_le hz1 hb2.size)
      | (go_at_call 16; refine (HS1.out _).mono ?_; rintro e w' ⟨rfl, rfl⟩))
  all_goals
    have hcc := hide (own_cap hown1)
    have hxx := st5_bx (w := w2) (b := w.heap.size) (v0 := .string ⟨xk.toArray⟩) (v1 := .int .i64 xd) (v2 := .int .i64 xi) (v3 := .string ⟨xs.toArray⟩) (v4 := .int .i64 xv) yk xd xi ys xv hz2 (by rw [hc2 _ _ hz1, hc1 _ _ (by simp)]; simp) (by rw [hc2 _ _ hz1, hc1 _ _ (by simp)]; simp) (by rw [hc2 _ _ hz1, hc1 _ _ (by simp)]; simp) (by rw [hc2 _ _ hz1, hc1 _ _ (by simp)]; simp) (by rw [hc2 _ _ hz1, hc1 _ _ (by simp)]; simp)
    have hbw := set5 (below_trans (below_trans (gr1d w _) hb1) hb2) (.string ⟨yk.toArray⟩) (.int .i64 xd) (.int .i64 xi) (.string ⟨ys.toArray⟩) (.int .i64 xv)
    have hF2 := (Fs.of_own rfl hown1).below hb2
    have hF3 : Fs Item.cells 5 (((((w2.setCell ⟨w.heap.size, 0, none⟩ (.string ⟨yk.toArray⟩)).setCell ⟨w.heap.size, 1, none⟩ (.int .i64 xd)).setCell ⟨w.heap.size, 2, none⟩ (.int .i64 xi)).setCell ⟨w.heap.size, 3, none⟩ (.string ⟨ys.toArray⟩)).setCell ⟨w.heap.size, 4, none⟩ (.int .i64 xv)) A1 m := by
      exact hF2.set5 (own_far hown1 (by simp)) _ _ _ _ _
    generalize ((((w2.setCell ⟨w.heap.size, 0, none⟩ (.string ⟨yk.toArray⟩)).setCell ⟨w.heap.size, 1, none⟩ (.int .i64 xd)).setCell ⟨w.heap.size, 2, none⟩ (.int .i64 xi)).setCell ⟨w.heap.size, 3, none⟩ (.string ⟨ys.toArray⟩)).setCell ⟨w.heap.size, 4, none⟩ (.int .i64 xv) = w3 at hxx hbw hF3
    have HX3 := hide hxx; have HB3 := hide hbw; have HF3 := hide hF3
    clear hxx hbw hF3 hF2 hown1 hb1 hb2 hc1 hf1 hc2 hf2 hz1 hz2
    have hxx : ∀ w, (binOp .neq 32 (.agg #[.string ⟨yk.toArray⟩, .int .i64 xd, .int .i64 xi, .string ⟨ys.toArray⟩, .int .i64 xv]) (.agg #[.string ⟨yk.toArray⟩, .int .i64 xd, .int .i64 xi, .string ⟨ys.toArray⟩, .int .i64 xv])).run Tryd.prog w = .ok (.bool false) w := fun w => by rw [run_neq_item]; simp
    have hlen := HLEN.out
    go_wp2_with (first
    | (go_at_call 14; refine (awake_any _ (HS.out.below HB12.out)).mono ?_; rintro e w13 ⟨rfl, hb13⟩)
    | (go_at_call 26; refine (HIS2.out A3 c3 _ (HS.out.below (below_trans HB11.out (gr1 _ _))) (HT11.out.below (gr1 _ _))).mono ?_; rintro e w12 ⟨rfl, hb12⟩; have hbb12 := below_trans (gr1 _ _) hb12; have HX12 := hide (HX11.out.below hbb12); have HD12 := hide (HD11.out.below hbb12); have HK12 := hide ((box_bx w11 _ [] 0 0 [] 0).below hb12); have HB12 := hide (below_trans HB11.out hbb12); obtain ⟨qX12, pX12_0, pX12_1, pX12_2, pX12_3, pX12_4⟩ := HX12.out; obtain ⟨qD12, pD12_0, pD12_1, pD12_2, pD12_3, pD12_4⟩ := HD12.out; obtain ⟨qK12, pK12_0, pK12_1, pK12_2, pK12_3, pK12_4⟩ := HK12.out; have eX12 := Nat.ne_of_lt qX12; have gX12 := Nat.ne_of_gt qX12; have eD12 := Nat.ne_of_lt qD12; have gD12 := Nat.ne_of_gt qD12; have eK12 := Nat.ne_of_lt qK12; have gK12 := Nat.ne_of_gt qK12; clear hb12 hbb12 eX11 eD11 gX11 gD11 pX11_0 pX11_1 pX11_2 pX11_3 pX11_4 pD11_0 pD11_1 pD11_2 pD11_3 pD11_4)
    | (go_at_call 17; refine (HGB2.out A3 c3 _ (HS.out.below (below_trans HB10.out (gr1 _ _))) (HT10.out.below (gr1 _ _))).mono ?_; rintro e w11 ⟨rfl, hb11⟩; have hbb11 := below_trans (gr1 _ _) hb11; have HX11 := hide (HX10.out.below hbb11); have HD11 := hide (HD10.out.below hbb11); have HT11 := hide (HT10.out.below hbb11); have HG11 := hide ((box_bx w10 _ [] 0 0 [] 0).below hb11); have HB11 := hide (below_trans HB10.out hbb11); obtain ⟨qX11, pX11_0, pX11_1, pX11_2, pX11_3, pX11_4⟩ := HX11.out; obtain ⟨qD11, pD11_0, pD11_1, pD11_2, pD11_3, pD11_4⟩ := HD11.out; have eX11 := Nat.ne_of_lt qX11; have gX11 := Nat.ne_of_gt qX11; have eD11 := Nat.ne_of_lt qD11; have gD11 := Nat.ne_of_gt qD11; clear hb11 hbb11 eX10 gX10 pX10_0 pX10_1 pX10_2 pX10_3 pX10_4)
    | (go_at_call 17; refine (HGA2.out A3 c3 _ (HS.out.below HB9.out) HT9.out).mono ?_; rintro e w10 ⟨rfl, hb10⟩; have hbb10 := hb10; have HX10 := hide (HX9.out.below hbb10); have HD10 := hide (HD9.out.below hbb10); have HT10 := hide (HT9.out.below hbb10); have HB10 := hide (below_trans HB9.out hbb10); obtain ⟨qX10, pX10_0, pX10_1, pX10_2, pX10_3, pX10_4⟩ := HX10.out; have eX10 := Nat.ne_of_lt qX10; have gX10 := Nat.ne_of_gt qX10; clear hb10 hbb10 eX9 gX9 pX9_0 pX9_1 pX9_2 pX9_3 pX9_4)
    | (go_at_call 19; refine (HDEL.out A1 c1 _ (HS.out.below HB8.out) HF8.out hcc.out.1).mono ?_; rintro e w9 ⟨A3, n3, c3, rfl, rfl, hT9, hb9⟩; have hbb9 := hb9; have HX9 := hide (HX8.out.below hbb9); have HD9 := hide (HD8.out.below hbb9); have HB9 := hide (below_trans HB8.out hbb9); have HT9 := hide hT9; obtain ⟨qX9, pX9_0, pX9_1, pX9_2, pX9_3, pX9_4⟩ := HX9.out; have eX9 := Nat.ne_of_lt qX9; have gX9 := Nat.ne_of_gt qX9; clear hb9 hbb9 hT9 eX8 eD8 eE8 gX8 gD8 gE8 pX8_0 pX8_1 pX8_2 pX8_3 pX8_4 pD8_0 pD8_1 pD8_2 pD8_3 pD8_4 pE8_0 pE8_1 pE8_2 pE8_3 pE8_4)
    | (go_at_call 26; refine (HIS.out A2 c2 _ (HS.out.below (below_trans HB7.out (gr1 _ _))) (HR7.out.below (gr1 _ _))).mono ?_; rintro e w8 ⟨rfl, hb8⟩; have hbb8 := below_trans (gr1 _ _) hb8; have HX8 := hide (HX7.out.below hbb8); have HD8 := hide (HD7.out.below hbb8); have HA8 := hide (HA7.out.below hbb8); have HF8 := hide (HF7.out.below hbb8); have HE8 := hide ((box_bx w7 _ yk xd xi ys xv).below hb8); have HB8 := hide (below_trans HB7.out hbb8); obtain ⟨qX8, pX8_0, pX8_1, pX8_2, pX8_3, pX8_4⟩ := HX8.out; obtain ⟨qD8, pD8_0, pD8_1, pD8_2, pD8_3, pD8_4⟩ := HD8.out; obtain ⟨qE8, pE8_0, pE8_1, pE8_2, pE8_3, pE8_4⟩ := HE8.out; have eX8 := Nat.ne_of_lt qX8; have gX8 := Nat.ne_of_gt qX8; have eD8 := Nat.ne_of_lt qD8; have gD8 := Nat.ne_of_gt qD8; have eE8 := Nat.ne_of_lt qE8; have gE8 := Nat.ne_of_gt qE8; clear hb8 hbb8 eX7 eD7 eA7 gX7 gD7 gA7 pX7_0 pX7_1 pX7_2 pX7_3 pX7_4 pD7_0 pD7_1 pD7_2 pD7_3 pD7_4 pA7_0 pA7_1 pA7_2 pA7_3 pA7_4)
    | (go_at_call 17; refine (HGB.out A2 c2 _ (HS.out.below (below_trans HB6.out (gr1 _ _))) (HR6.out.below (gr1 _ _))).mono ?_; rintro e w7 ⟨rfl, hb7⟩; have hbb7 := below_trans (gr1 _ _) hb7; have HX7 := hide (HX6.out.below hbb7); have HD7 := hide (HD6.out.below hbb7); have HF7 := hide (HF6.out.below hbb7); have HR7 := hide (HR6.out.below hbb7); have HA7 := hide ((box_bx w6 _ yk xd xi ys xv).below hb7); have HB7 := hide (below_trans HB6.out hbb7); obtain ⟨qX7, pX7_0, pX7_1, pX7_2, pX7_3, pX7_4⟩ := HX7.out; obtain ⟨qD7, pD7_0, pD7_1, pD7_2, pD7_3, pD7_4⟩ := HD7.out; obtain ⟨qA7, pA7_0, pA7_1, pA7_2, pA7_3, pA7_4⟩ := HA7.out; have eX7 := Nat.ne_of_lt qX7; have gX7 := Nat.ne_of_gt qX7; have eD7 := Nat.ne_of_lt qD7; have gD7 := Nat.ne_of_gt qD7; have eA7 := Nat.ne_of_lt qA7; have gA7 := Nat.ne_of_gt qA7; clear hb7 hbb7 eX6 gX6 pX6_0 pX6_1 pX6_2 pX6_3 pX6_4)
    | (go_at_call 17; refine (HGA.out A2 c2 _ (HS.out.below HB5.out) HR5.out).mono ?_; rintro e w6 ⟨rfl, hb6⟩; have hbb6 := hb6; have HX6 := hide (HX5.out.below hbb6); have HD6 := hide (HD5.out.below hbb6); have HF6 := hide (HF5.out.below hbb6); have HR6 := hide (HR5.out.below hbb6); have HB6 := hide (below_trans HB5.out hbb6); obtain ⟨qX6, pX6_0, pX6_1, pX6_2, pX6_3, pX6_4⟩ := HX6.out; have eX6 := Nat.ne_of_lt qX6; have gX6 := Nat.ne_of_gt qX6; clear hb6 hbb6 eX5 gX5 pX5_0 pX5_1 pX5_2 pX5_3 pX5_4)
    | (go_at_call 18; refine (HPUT.out A1 c1 _ (HS.out.below (below_trans HB4.out (gr1 _ _))) (HF4.out.below (gr1 _ _)) hcc.out.1).mono ?_; rintro e w5 ⟨A2, n2, c2, rfl, rfl, hR5, hb5⟩; have hbb5 := below_trans (gr1 _ _) hb5; have HX5 := hide (HX4.out.below hbb5); have HF5 := hide (HF4.out.below hbb5); have HD5 := hide ((box_bx w4 _ hk hd hi hs hv).below hb5); have HB5 := hide (below_trans HB4.out hbb5); have HR5 := hide hR5; obtain ⟨qX5, pX5_0, pX5_1, pX5_2, pX5_3, pX5_4⟩ := HX5.out; have eX5 := Nat.ne_of_lt qX5; have gX5 := Nat.ne_of_gt qX5; clear hb5 hbb5 hR5 eX4 gX4 pX4_0 pX4_1 pX4_2 pX4_3 pX4_4)
    | (go_at_call 17; refine (HGET.out A1 c1 _ (HS.out.below HB3.out) HF3.out).mono ?_; rintro e w4 ⟨rfl, hb4⟩; have hbb4 := hb4; have HX4 := hide (HX3.out.below hbb4); have HF4 := hide (HF3.out.below hbb4); have HB4 := hide (below_trans HB3.out hbb4); obtain ⟨qX4, pX4_0, pX4_1, pX4_2, pX4_3, pX4_4⟩ := HX4.out; have eX4 := Nat.ne_of_lt qX4; have gX4 := Nat.ne_of_gt qX4; clear hb4 hbb4))
    go_ret
    exact ⟨rfl, below_trans HB12.out hb13⟩

set_option maxHeartbeats 8000000 in
theorem keeps_yyu (w : World) (hS : Sig w) (A : Option Addr) (l m : List Item) (c : Nat) (xk : Bytes) (xd xi : Int) (xs : Bytes) (xv : Int) (k yk ys q hk hs : Bytes) (hd hi hv : Int) (ho : Bool)
    (hml : m.length ≤ 66) (hfew : Calls Tryd.prog 9 #[.slice A l.length c] (w.alloc (.cells #[.string ⟨xk.toArray⟩, .int .i64 xd, .int .i64 xi, .string ⟨xs.toArray⟩, .int .i64 xv] 32)).drew (FsOut Item.cells 5 32 (w.alloc (.cells #[.string ⟨xk.toArray⟩, .int .i64 xd, .int .i64 xi, .string ⟨xs.toArray⟩, .int .i64 xv] 32)).drew m))
    (hs1 : ∀ w, Calls Tryd.prog 16 #[.string ⟨k.toArray⟩] w fun e w' => e = .returned (.string ⟨q.toArray⟩) ∧ w = w')
    (hone : ∀ w, Calls Tryd.prog 15 #[.agg #[.string ⟨xk.toArray⟩, .int .i64 xd, .int .i64 xi, .string ⟨xs.toArray⟩, .int .i64 xv]] w fun e w' => e = .returned (.agg #[.string ⟨yk.toArray⟩, .int .i64 xd, .int .i64 xi, .string ⟨ys.toArray⟩, .int .i64 xv]) ∧ Below w.heap.size w w')
    (hget : ∀ (A : Option Addr) (c : Nat) w, Sig w → Fs Item.cells 5 w A m → Calls Tryd.prog 17 #[.slice A m.length c, .string ⟨q.toArray⟩] w (fun e w' => e = .returned (.tuple #[.agg #[.string ⟨hk.toArray⟩, .int .i64 hd, .int .i64 hi, .string ⟨hs.toArray⟩, .int .i64 hv], .bool ho]) ∧ Below w.heap.size w w'))
    (r : List Item) (hput : ∀ (A : Option Addr) (c : Nat) w, Sig w → Fs Item.cells 5 w A m → m.length ≤ c → Calls Tryd.prog 18 #[.slice A m.length c, .agg #[.string ⟨yk.toArray⟩, .int .i64 xd, .int .i64 xi, .string ⟨ys.toArray⟩, .int .i64 xv]] w (fun e w' => ∃ (A2 : Option Addr) (n2 c2 : Nat), e = .returned (.tuple #[.slice A2 n2 c2, .int .i64 0]) ∧ n2 = r.length ∧ Fs Item.cells 5 w' A2 r ∧ Below w.heap.size w w'))
    (his : ∀ (A : Option Addr) (c : Nat) w, Sig w → Fs Item.cells 5 w A r → Calls Tryd.prog 26 #[.slice A r.length c] w (fun e w' => e = .returned (.bool true) ∧ Below w.heap.size w w'))
    (hga : ∀ (A : Option Addr) (c : Nat) w, Sig w → Fs Item.cells 5 w A r → Calls Tryd.prog 17 #[.slice A r.length c, .string ⟨yk.toArray⟩] w (fun e w' => e = .returned (.tuple #[.agg #[.string ⟨yk.toArray⟩, .int .i64 xd, .int .i64 xi, .string ⟨ys.toArray⟩, .int .i64 xv], .bool true]) ∧ Below w.heap.size w w'))
    (hgb : ∀ (A : Option Addr) (c : Nat) w, Sig w → Fs Item.cells 5 w A r → Calls Tryd.prog 17 #[.slice A r.length c, .string ⟨q.toArray⟩] w (fun e w' => e = .returned (.tuple #[.agg #[.string ⟨hk.toArray⟩, .int .i64 hd, .int .i64 hi, .string ⟨hs.toArray⟩, .int .i64 hv], .bool ho]) ∧ Below w.heap.size w w'))
    (r2 : List Item) (hdel : ∀ (A : Option Addr) (c : Nat) w, Sig w → Fs Item.cells 5 w A m → m.length ≤ c → Calls Tryd.prog 19 #[.slice A m.length c, .string ⟨yk.toArray⟩] w (fun e w' => ∃ (A2 : Option Addr) (n2 c2 : Nat), e = .returned (.tuple #[.slice A2 n2 c2, .int .i64 0]) ∧ n2 = r2.length ∧ Fs Item.cells 5 w' A2 r2 ∧ Below w.heap.size w w'))
    (hlen : IntKind.i64.wrap ((m.length : Int) - 1) = (r2.length : Int)) (his2 : ∀ (A : Option Addr) (c : Nat) w, Sig w → Fs Item.cells 5 w A r2 → Calls Tryd.prog 26 #[.slice A r2.length c] w (fun e w' => e = .returned (.bool true) ∧ Below w.heap.size w w'))
    (hga2 : ∀ (A : Option Addr) (c : Nat) w, Sig w → Fs Item.cells 5 w A r2 → Calls Tryd.prog 17 #[.slice A r2.length c, .string ⟨yk.toArray⟩] w (fun e w' => e = .returned (.tuple #[.agg #[.string ⟨#[]⟩, .int .i64 0, .int .i64 0, .string ⟨#[]⟩, .int .i64 0], .bool false]) ∧ Below w.heap.size w w'))
    (hgb2 : ∀ (A : Option Addr) (c : Nat) w, Sig w → Fs Item.cells 5 w A r2 → Calls Tryd.prog 17 #[.slice A r2.length c, .string ⟨q.toArray⟩] w (fun e w' => e = .returned (.tuple #[.agg #[.string ⟨hk.toArray⟩, .int .i64 hd, .int .i64 hi, .string ⟨hs.toArray⟩, .int .i64 hv], .bool ho]) ∧ Below w.heap.size w w'))
    (hq : (q == yk) = false) :
    Calls Tryd.prog 5 #[.slice A l.length c, .agg #[.string ⟨xk.toArray⟩, .int .i64 xd, .int .i64 xi, .string ⟨xs.toArray⟩, .int .i64 xv], .string ⟨k.toArray⟩] w fun e w' => e = .returned (.bool true) ∧ Below w.heap.size w w' := by
  have HFEW := hide hfew; clear hfew
  have HS1 := hide hs1; clear hs1
  have HONE := hide hone; clear hone
  have HGET := hide hget; clear hget
  have HPUT := hide hput; clear hput
  have HDEL := hide hdel; clear hdel
  have HS := hide hS; clear hS
  have HIS := hide his; clear his
  have HGA := hide hga; clear hga
  have HGB := hide hgb; clear hgb
  have HLEN := hide hlen; clear hlen
  have HIS2 := hide his2; clear his2
  have HGA2 := hide hga2; clear hga2
  have HGB2 := hide hgb2; clear hgb2
  have HQ := hide hq; clear hq
  go_enter Tryd.func5, Tryd.ntmps5
  go_wp2_with fail
  go_region_with
    (first
      | (go_at_call 9; refine HFEW.out.mono ?_; rintro e w1 ⟨A1, c1, rfl, hown1, hb1⟩; obtain ⟨hc1, hf1⟩ := bcell hb1; have hz1 : w.heap.size < w1.heap.size := by have := hb1.size; simp at this; omega)
      | (go_at_call 15; refine (HONE.out _).mono ?_; rintro e w2 ⟨rfl, hb2⟩; obtain ⟨hc2, hf2⟩ := bcell hb2; have hz2 : w.heap.size < w2.heap.size := Nat.lt_of_lt_of_le hz1 hb2.size)
      | (go_at_call 16; refine (HS1.out _).mono ?_; rintro e w' ⟨rfl, rfl⟩))
  all_goals
    have hcc := hide (own_cap hown1)
    have hxx := st5_bx (w := w2) (b := w.heap.size) (v0 := .string ⟨xk.toArray⟩) (v1 := .int .i64 xd) (v2 := .int .i64 xi) (v3 := .string ⟨xs.toArray⟩) (v4 := .int .i64 xv) yk xd xi ys xv hz2 (by rw [hc2 _ _ hz1, hc1 _ _ (by simp)]; simp) (by rw [hc2 _ _ hz1, hc1 _ _ (by simp)]; simp) (by rw [hc2 _ _ hz1, hc1 _ _ (by simp)]; simp) (by rw [hc2 _ _ hz1, hc1 _ _ (by simp)]; simp) (by rw [hc2 _ _ hz1, hc1 _ _ (by simp)]; simp)
    have hbw := set5 (below_trans (below_trans (gr1d w _) hb1) hb2) (.string ⟨yk.toArray⟩) (.int .i64 xd) (.int .i64 xi) (.string ⟨ys.toArray⟩) (.int .i64 xv)
    have hF2 := (Fs.of_own rfl hown1).below hb2
    have hF3 : Fs Item.cells 5 (((((w2.setCell ⟨w.heap.size, 0, none⟩ (.string ⟨yk.toArray⟩)).setCell ⟨w.heap.size, 1, none⟩ (.int .i64 xd)).setCell ⟨w.heap.size, 2, none⟩ (.int .i64 xi)).setCell ⟨w.heap.size, 3, none⟩ (.string ⟨ys.toArray⟩)).setCell ⟨w.heap.size, 4, none⟩ (.int .i64 xv)) A1 m := by
      exact hF2.set5 (own_far hown1 (by simp)) _ _ _ _ _
    generalize ((((w2.setCell ⟨w.heap.size, 0, none⟩ (.string ⟨yk.toArray⟩)).setCell ⟨w.heap.size, 1, none⟩ (.int .i64 xd)).setCell ⟨w.heap.size, 2, none⟩ (.int .i64 xi)).setCell ⟨w.heap.size, 3, none⟩ (.string ⟨ys.toArray⟩)).setCell ⟨w.heap.size, 4, none⟩ (.int .i64 xv) = w3 at hxx hbw hF3
    have HX3 := hide hxx; have HB3 := hide hbw; have HF3 := hide hF3
    clear hxx hbw hF3 hF2 hown1 hb1 hb2 hc1 hf1 hc2 hf2 hz1 hz2
    have hxx : ∀ w, (binOp .neq 32 (.agg #[.string ⟨yk.toArray⟩, .int .i64 xd, .int .i64 xi, .string ⟨ys.toArray⟩, .int .i64 xv]) (.agg #[.string ⟨yk.toArray⟩, .int .i64 xd, .int .i64 xi, .string ⟨ys.toArray⟩, .int .i64 xv])).run Tryd.prog w = .ok (.bool false) w := fun w => by rw [run_neq_item]; simp
    have hhh : ∀ w, (binOp .neq 32 (.agg #[.string ⟨hk.toArray⟩, .int .i64 hd, .int .i64 hi, .string ⟨hs.toArray⟩, .int .i64 hv]) (.agg #[.string ⟨hk.toArray⟩, .int .i64 hd, .int .i64 hi, .string ⟨hs.toArray⟩, .int .i64 hv])).run Tryd.prog w = .ok (.bool false) w := fun w => by rw [run_neq_item]; simp
    have hq := HQ.out
    have hlen := HLEN.out
    go_wp2_with (first
    | (go_at_call 14; refine (awake_any _ (HS.out.below HB12.out)).mono ?_; rintro e w13 ⟨rfl, hb13⟩)
    | (go_at_call 26; refine (HIS2.out A3 c3 _ (HS.out.below (below_trans HB11.out (gr1 _ _))) (HT11.out.below (gr1 _ _))).mono ?_; rintro e w12 ⟨rfl, hb12⟩; have hbb12 := below_trans (gr1 _ _) hb12; have HX12 := hide (HX11.out.below hbb12); have HD12 := hide (HD11.out.below hbb12); have HK12 := hide ((box_bx w11 _ hk hd hi hs hv).below hb12); have HB12 := hide (below_trans HB11.out hbb12); obtain ⟨qX12, pX12_0, pX12_1, pX12_2, pX12_3, pX12_4⟩ := HX12.out; obtain ⟨qD12, pD12_0, pD12_1, pD12_2, pD12_3, pD12_4⟩ := HD12.out; obtain ⟨qK12, pK12_0, pK12_1, pK12_2, pK12_3, pK12_4⟩ := HK12.out; have eX12 := Nat.ne_of_lt qX12; have gX12 := Nat.ne_of_gt qX12; have eD12 := Nat.ne_of_lt qD12; have gD12 := Nat.ne_of_gt qD12; have eK12 := Nat.ne_of_lt qK12; have gK12 := Nat.ne_of_gt qK12; clear hb12 hbb12 eX11 eD11 gX11 gD11 pX11_0 pX11_1 pX11_2 pX11_3 pX11_4 pD11_0 pD11_1 pD11_2 pD11_3 pD11_4)
    | (go_at_call 17; refine (HGB2.out A3 c3 _ (HS.out.below (below_trans HB10.out (gr1 _ _))) (HT10.out.below (gr1 _ _))).mono ?_; rintro e w11 ⟨rfl, hb11⟩; have hbb11 := below_trans (gr1 _ _) hb11; have HX11 := hide (HX10.out.below hbb11); have HD11 := hide (HD10.out.below hbb11); have HT11 := hide (HT10.out.below hbb11); have HG11 := hide ((box_bx w10 _ [] 0 0 [] 0).below hb11); have HB11 := hide (below_trans HB10.out hbb11); obtain ⟨qX11, pX11_0, pX11_1, pX11_2, pX11_3, pX11_4⟩ := HX11.out; obtain ⟨qD11, pD11_0, pD11_1, pD11_2, pD11_3, pD11_4⟩ := HD11.out; have eX11 := Nat.ne_of_lt qX11; have gX11 := Nat.ne_of_gt qX11; have eD11 := Nat.ne_of_lt qD11; have gD11 := Nat.ne_of_gt qD11; clear hb11 hbb11 eX10 gX10 pX10_0 pX10_1 pX10_2 pX10_3 pX10_4)
    | (go_at_call 17; refine (HGA2.out A3 c3 _ (HS.out.below HB9.out) HT9.out).mono ?_; rintro e w10 ⟨rfl, hb10⟩; have hbb10 := hb10; have HX10 := hide (HX9.out.below hbb10); have HD10 := hide (HD9.out.below hbb10); have HT10 := hide (HT9.out.below hbb10); have HB10 := hide (below_trans HB9.out hbb10); obtain ⟨qX10, pX10_0, pX10_1, pX10_2, pX10_3, pX10_4⟩ := HX10.out; have eX10 := Nat.ne_of_lt qX10; have gX10 := Nat.ne_of_gt qX10; clear hb10 hbb10 eX9 gX9 pX9_0 pX9_1 pX9_2 pX9_3 pX9_4)
    | (go_at_call 19; refine (HDEL.out A1 c1 _ (HS.out.below HB8.out) HF8.out hcc.out.1).mono ?_; rintro e w9 ⟨A3, n3, c3, rfl, rfl, hT9, hb9⟩; have hbb9 := hb9; have HX9 := hide (HX8.out.below hbb9); have HD9 := hide (HD8.out.below hbb9); have HB9 := hide (below_trans HB8.out hbb9); have HT9 := hide hT9; obtain ⟨qX9, pX9_0, pX9_1, pX9_2, pX9_3, pX9_4⟩ := HX9.out; have eX9 := Nat.ne_of_lt qX9; have gX9 := Nat.ne_of_gt qX9; clear hb9 hbb9 hT9 eX8 eD8 eE8 gX8 gD8 gE8 pX8_0 pX8_1 pX8_2 pX8_3 pX8_4 pD8_0 pD8_1 pD8_2 pD8_3 pD8_4 pE8_0 pE8_1 pE8_2 pE8_3 pE8_4)
    | (go_at_call 26; refine (HIS.out A2 c2 _ (HS.out.below (below_trans HB7.out (gr1 _ _))) (HR7.out.below (gr1 _ _))).mono ?_; rintro e w8 ⟨rfl, hb8⟩; have hbb8 := below_trans (gr1 _ _) hb8; have HX8 := hide (HX7.out.below hbb8); have HD8 := hide (HD7.out.below hbb8); have HA8 := hide (HA7.out.below hbb8); have HF8 := hide (HF7.out.below hbb8); have HE8 := hide ((box_bx w7 _ hk hd hi hs hv).below hb8); have HB8 := hide (below_trans HB7.out hbb8); obtain ⟨qX8, pX8_0, pX8_1, pX8_2, pX8_3, pX8_4⟩ := HX8.out; obtain ⟨qD8, pD8_0, pD8_1, pD8_2, pD8_3, pD8_4⟩ := HD8.out; obtain ⟨qE8, pE8_0, pE8_1, pE8_2, pE8_3, pE8_4⟩ := HE8.out; have eX8 := Nat.ne_of_lt qX8; have gX8 := Nat.ne_of_gt qX8; have eD8 := Nat.ne_of_lt qD8; have gD8 := Nat.ne_of_gt qD8; have eE8 := Nat.ne_of_lt qE8; have gE8 := Nat.ne_of_gt qE8; clear hb8 hbb8 eX7 eD7 eA7 gX7 gD7 gA7 pX7_0 pX7_1 pX7_2 pX7_3 pX7_4 pD7_0 pD7_1 pD7_2 pD7_3 pD7_4 pA7_0 pA7_1 pA7_2 pA7_3 pA7_4)
    | (go_at_call 17; refine (HGB.out A2 c2 _ (HS.out.below (below_trans HB6.out (gr1 _ _))) (HR6.out.below (gr1 _ _))).mono ?_; rintro e w7 ⟨rfl, hb7⟩; have hbb7 := below_trans (gr1 _ _) hb7; have HX7 := hide (HX6.out.below hbb7); have HD7 := hide (HD6.out.below hbb7); have HF7 := hide (HF6.out.below hbb7); have HR7 := hide (HR6.out.below hbb7); have HA7 := hide ((box_bx w6 _ yk xd xi ys xv).below hb7); have HB7 := hide (below_trans HB6.out hbb7); obtain ⟨qX7, pX7_0, pX7_1, pX7_2, pX7_3, pX7_4⟩ := HX7.out; obtain ⟨qD7, pD7_0, pD7_1, pD7_2, pD7_3, pD7_4⟩ := HD7.out; obtain ⟨qA7, pA7_0, pA7_1, pA7_2, pA7_3, pA7_4⟩ := HA7.out; have eX7 := Nat.ne_of_lt qX7; have gX7 := Nat.ne_of_gt qX7; have eD7 := Nat.ne_of_lt qD7; have gD7 := Nat.ne_of_gt qD7; have eA7 := Nat.ne_of_lt qA7; have gA7 := Nat.ne_of_gt qA7; clear hb7 hbb7 eX6 gX6 pX6_0 pX6_1 pX6_2 pX6_3 pX6_4)
    | (go_at_call 17; refine (HGA.out A2 c2 _ (HS.out.below HB5.out) HR5.out).mono ?_; rintro e w6 ⟨rfl, hb6⟩; have hbb6 := hb6; have HX6 := hide (HX5.out.below hbb6); have HD6 := hide (HD5.out.below hbb6); have HF6 := hide (HF5.out.below hbb6); have HR6 := hide (HR5.out.below hbb6); have HB6 := hide (below_trans HB5.out hbb6); obtain ⟨qX6, pX6_0, pX6_1, pX6_2, pX6_3, pX6_4⟩ := HX6.out; have eX6 := Nat.ne_of_lt qX6; have gX6 := Nat.ne_of_gt qX6; clear hb6 hbb6 eX5 gX5 pX5_0 pX5_1 pX5_2 pX5_3 pX5_4)
    | (go_at_call 18; refine (HPUT.out A1 c1 _ (HS.out.below (below_trans HB4.out (gr1 _ _))) (HF4.out.below (gr1 _ _)) hcc.out.1).mono ?_; rintro e w5 ⟨A2, n2, c2, rfl, rfl, hR5, hb5⟩; have hbb5 := below_trans (gr1 _ _) hb5; have HX5 := hide (HX4.out.below hbb5); have HF5 := hide (HF4.out.below hbb5); have HD5 := hide ((box_bx w4 _ hk hd hi hs hv).below hb5); have HB5 := hide (below_trans HB4.out hbb5); have HR5 := hide hR5; obtain ⟨qX5, pX5_0, pX5_1, pX5_2, pX5_3, pX5_4⟩ := HX5.out; have eX5 := Nat.ne_of_lt qX5; have gX5 := Nat.ne_of_gt qX5; clear hb5 hbb5 hR5 eX4 gX4 pX4_0 pX4_1 pX4_2 pX4_3 pX4_4)
    | (go_at_call 17; refine (HGET.out A1 c1 _ (HS.out.below HB3.out) HF3.out).mono ?_; rintro e w4 ⟨rfl, hb4⟩; have hbb4 := hb4; have HX4 := hide (HX3.out.below hbb4); have HF4 := hide (HF3.out.below hbb4); have HB4 := hide (below_trans HB3.out hbb4); obtain ⟨qX4, pX4_0, pX4_1, pX4_2, pX4_3, pX4_4⟩ := HX4.out; have eX4 := Nat.ne_of_lt qX4; have gX4 := Nat.ne_of_gt qX4; clear hb4 hbb4))
    go_ret
    exact ⟨rfl, below_trans HB12.out hb13⟩

end Go.Proofs.YtagdjoabpkmomaaDoor
