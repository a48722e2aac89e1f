/-
  The walk of ring.New.
-/
import Derived.Test.YtllfdnfiicnmiaaRg4
import Derived.Maps.OwnSet
namespace Go.Proofs.Ytllfdnfiicnmiaa
open Go.RowKit
set_option maxRecDepth 100000
set_option linter.unusedSimpArgs false
set_option linter.unusedVariables false

def badsL (bads : List Int) : List Bool := (List.range 64).map fun (i : Nat) => decide ((i : Int) ∈ bads)
theorem rg_set {n : Int} {bad : List Bool} {mv sv : Value} (hl : bad.length = 64) {k : Nat} (hk : k < 64) : (rgCells n bad mv sv).setIfInBounds (1 + k) (.bool true) = rgCells n (bad.set k true) mv sv := by
  unfold rgCells
  rw [List.setIfInBounds_toArray]
  congr 1
  rw [List.append_assoc, List.append_assoc, List.set_append, if_neg (by simp)]
  rw [List.set_append, if_pos (by simp; omega)]
  simp [List.map_set]
theorem RgB.setbad {w : World} {g : Nat} {n : Int} {bad : List Bool} {mv sv : Value} (h : RgB w g n bad mv sv) {k : Nat} (hk : k < 64) : RgB (w.setCell ⟨g, 1 + k, none⟩ (.bool true)) g n (bad.set k true) mv sv :=
  ⟨by rw [List.length_set]; exact h.1, by have := h.2.set_ (1 + k) (.bool true); rwa [rg_set h.1 hk] at this⟩
theorem rep_false (i : Nat) : (List.replicate 64 false).getD i false = false := by
  unfold List.getD
  rw [List.getElem?_replicate]
  split <;> rfl
def NewOut (w : World) (n : Int) (bads : List Int) (e : Ending) (w' : World) : Prop :=
  (mayR n bads = true → ∃ g b, e = .returned (.tuple #[.pointer (some ⟨g, 0, none⟩), .int .i64 0]) ∧ RgIs w.heap.size w' g b none 0 n (badsL bads) []) ∧
  (mayR n bads = false → e = .returned (.tuple #[.pointer none, .int .i64 1])) ∧ Below w.heap.size w w'
theorem newOut_no {w w' : World} {n : Int} {bads : List Int} (h : mayR n bads = false) (hb : Below w.heap.size w w') : NewOut w n bads (.returned (.tuple #[.pointer none, .int .i64 1])) w' :=
  ⟨fun h2 => absurd h2 (by rw [h]; simp), fun _ => rfl, hb⟩

set_option maxHeartbeats 4000000 in
theorem new_any (A : Option Addr) (bads : List Int) (c : Nat) (n : Int) (w : World) (hF : Ns w A bads) (hl : bads.length ≤ 34359738368) :
    Calls Try.prog 16 #[.int .i64 n, .slice A bads.length c] w (NewOut w n bads) := by
  have HF := hide hF
  clear hF
  by_cases h1 : 1 ≤ n
  · by_cases h2 : n ≤ 64
    · have h1' : ¬ n < 1 := by omega
      have h2' : ¬ (64 : Int) < n := by omega
      have hzv : ∀ w, (zeroValue 55).run Try.prog w = .ok (.agg #[.int .i64 0, .bool false, .bool false, .bool false, .bool false, .bool false, .bool false, .bool false, .bool false, .bool false, .bool false, .bool false, .bool false, .bool false, .bool false, .bool false, .bool false, .bool false, .bool false, .bool false, .bool false, .bool false, .bool false, .bool false, .bool false, .bool false, .bool false, .bool false, .bool false, .bool false, .bool false, .bool false, .bool false, .bool false, .bool false, .bool false, .bool false, .bool false, .bool false, .bool false, .bool false, .bool false, .bool false, .bool false, .bool false, .bool false, .bool false, .bool false, .bool false, .bool false, .bool false, .bool false, .bool false, .bool false, .bool false, .bool false, .bool false, .bool false, .bool false, .bool false, .bool false, .bool false, .bool false, .bool false, .bool false, .map none, .slice none 0 0]) w := fun w => by kernel_rfl
      have hmk := fun w => run_makeMap (P := Try.prog) 53 w
      go_enter Try.func16, Try.ntmps16
      go_wp2_with fail
      go_loopw [21] (fun i wr => ∃ (k : Nat) (bad : List Bool), k ≤ bads.length ∧ i = .int .i64 k ∧ RgB wr (w.heap.size + 1) n bad (.map (some w.heap.size)) (.slice none 0 0) ∧ (∀ i : Nat, i < 64 → bad.getD i false = decide ((i : Int) ∈ bads.take k)) ∧
        wr.ownsMap Try.prog 25 (plainElem Try.prog 3) w.heap.size 0 (.map [] : DataW Unit) ∧ (∀ x ∈ bads.take k, 0 ≤ x ∧ x < n) ∧ Below w.heap.size w wr) (fun i _ => bads.length - (intOf i).toNat)
      case atStart =>
        refine ⟨0, List.replicate 64 false, Nat.zero_le _, rfl, ⟨by simp, ?_⟩, fun i hi => by rw [rep_false]; simp, ?_, by simp, below_trans (gr1 _ _) (gr1 _ _)⟩
        · have := Blk.new (w.alloc (.map #[] 0)) 55 (rgCells n (List.replicate 64 false) (.map (some w.heap.size)) (.slice none 0 0))
          rwa [show (w.alloc (.map #[] 0)).heap.size = w.heap.size + 1 from by simp] at this
        · exact (World.ownsMap_made w _ _ _).alloc _
      case round =>
        obtain ⟨k, bad, hk, rfl, hR, hbad, hmp, hall, hbel⟩ := hrel
        have HA := hide hall; have HR := hide hR; have HBD := hide hbad; have HM := hide hmp
        clear hall hR hbad hmp
        by_cases hlt : k < bads.length
        · have hlt' : (k : Int) < bads.length := by omega
          obtain ⟨b, off, rfl, hbl, hcell⟩ := (Ns.below HF.out hbel).cell (by omega)
          have hc := hcell k hlt
          clear hcell
          have his := is_any (w.heap.size + 1) n bad (.map (some w.heap.size)) (.slice none 0 0) bads[k] wr HR.out
          by_cases hx : 0 ≤ bads[k] ∧ bads[k] < n
          · have HALL := hide (all_succ (p := fun x => 0 ≤ x ∧ x < n) hlt HA.out hx)
            have HTK := hide (show bads.take (k + 1) = bads.take k ++ [bads[k]] from List.take_succ_eq_append_getElem hlt)
            rw [decide_eq_true hx.1, decide_eq_true hx.2] at his
            have HIS := hide his
            generalize bads[k] = x at hc HIS hx HTK
            clear his
            obtain ⟨j, rfl⟩ : ∃ j : Nat, x = j := ⟨x.toNat, by omega⟩
            have hj : j < 64 := by omega
            have hj' : (j : Int) < 64 := by omega
            have hfr := HR.out.free (1 + j)
            have hcb := HR.out.cbad j hj
            have HX := hide hx
            clear hx
            go_wp2_with (go_at_call 21; refine HIS.out.mono ?_; rintro e w' ⟨rfl, rfl⟩)
            refine ⟨⟨k + 1, bad.set j true, by omega, by go_num, HR.out.setbad hj, fun i hi => ?_, HM.out.setCell (by simp) _, HALL.out, hbel.setCell (by simp) _⟩, by simp [intOf]; omega⟩
            rw [HTK.out]
            have h3 := HBD.out i hi
            have h4 := HR.out.1
            by_cases hij : j = i
            · subst hij
              simp [List.getD, h4, hj]
            · have hij2 : ¬ (i : Int) = j := by omega
              simp only [List.getD] at h3 ⊢
              rw [List.getElem?_set, if_neg hij, h3]
              simp [hij2]
          · have HN := hide (mayR_no (n := n) hlt hx)
            have hb : (decide (0 ≤ bads[k]) && decide (bads[k] < n)) = false := by
              by_cases h0 : 0 ≤ bads[k]
              · rw [decide_eq_true h0, decide_eq_false (fun h => hx ⟨h0, h⟩)]; rfl
              · rw [decide_eq_false h0]; rfl
            rw [hb] at his
            have HIS := hide his
            clear hx his hb
            generalize bads[k] = x at hc HIS
            go_wp2_with (go_at_call 21; refine HIS.out.mono ?_; rintro e w' ⟨rfl, rfl⟩)
            go_ret2
            exact newOut_no HN.out hbel
        · have hke : k = bads.length := by omega
          have hlt' : ¬ (k : Int) < bads.length := by omega
          have HY := hide (show mayR n bads = true from by
            rw [mayR_end (by have := HA.out; rwa [hke, List.take_length] at this), decide_eq_true h1, decide_eq_true h2]; rfl)
          have HBL := hide (show bad = badsL bads from by
            apply List.ext_getElem
            · rw [HR.out.1]; simp [badsL]
            · intro i hi1 hi2
              have hi : i < 64 := by have := HR.out.1; omega
              have := HBD.out i hi
              rw [hke, List.take_length] at this
              simp only [List.getD, List.getElem?_eq_getElem hi1, Option.getD_some] at this
              rw [this]; simp [badsL])
          clear hke
          go_wp2_with fail
          go_ret2
          refine ⟨fun _ => ⟨w.heap.size + 1, w.heap.size, rfl, ?_⟩, fun h => absurd h (by rw [HY.out]; simp), hbel⟩
          rw [← HBL.out]
          exact ⟨HR.out, World.ownsRow_nil _ _ _ _, HM.out, by simp, by simp, h1, h2, by omega, Nat.le_refl _⟩
    · have h1' : ¬ n < 1 := by omega
      have h2' : (64 : Int) < n := by omega
      have HN := hide (show mayR n bads = false from by unfold mayR; rw [decide_eq_false h2]; simp)
      go_enter Try.func16, Try.ntmps16
      go_wp2_with fail
      go_ret2
      exact newOut_no HN.out (Below.refl _ _)
  · have h1' : n < 1 := by omega
    have HN := hide (show mayR n bads = false from by unfold mayR; rw [decide_eq_false h1]; simp)
    go_enter Try.func16, Try.ntmps16
    go_wp2_with fail
    go_ret2
    exact newOut_no HN.out (Below.refl _ _)
end Go.Proofs.Ytllfdnfiicnmiaa
