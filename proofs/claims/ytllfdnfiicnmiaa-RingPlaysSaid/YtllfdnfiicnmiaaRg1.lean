/-
  The ring: statements, the ring's block, the small functions (is, Bad), the reference's May, Bad, Has.
-/
import Derived.Test.YtllfdnfiicnmiaaProg
import Derived.Test.YtllfdnfiicnmiaaFlat
import Derived.Outline
import Derived.IntWalk
import Derived.BigQuiet
import Derived.Laws.OwnMore
namespace Go.Proofs.Ytllfdnfiicnmiaa
open Go.RowKit
set_option maxRecDepth 100000
set_option linter.unusedSimpArgs false
set_option linter.unusedVariables false

structure Stm where
  f : Int
  k : Int
  v : Int
  q : Int
  t : Int
deriving DecidableEq
def Stm.cells (s : Stm) : List Value := [.int .i64 s.f, .int .i64 s.k, .int .i64 s.v, .int .i64 s.q, .int .i64 s.t]

theorem run_eq_stm (w : World) (a b c d e a' b' c' d' e' : Int) :
    (binOp .eql 25 (.agg #[.int .i64 a, .int .i64 b, .int .i64 c, .int .i64 d, .int .i64 e]) (.agg #[.int .i64 a', .int .i64 b', .int .i64 c', .int .i64 d', .int .i64 e'])).run Try.prog w =
      .ok (.bool (decide ((⟨a, b, c, d, e⟩ : Stm) = ⟨a', b', c', d', e'⟩))) w := by
  by_cases h1 : a = a'
  · by_cases h2 : b = b'
    · by_cases h3 : c = c'
      · by_cases h4 : d = d'
        · by_cases h5 : e = e'
          · subst h1 h2 h3 h4 h5; go_simp
          · have h5' : (e == e') = false := by simpa using h5
            subst h1 h2 h3 h4; go_simp
        · have h4' : (d == d') = false := by simpa using h4
          subst h1 h2 h3; go_simp
      · have h3' : (c == c') = false := by simpa using h3
        subst h1 h2; go_simp
    · have h2' : (b == b') = false := by simpa using h2
      subst h1; go_simp
  · have h1' : (a == a') = false := by simpa using h1
    go_simp
theorem run_neq_stm (w : World) (a b c d e a' b' c' d' e' : Int) :
    (binOp .neq 25 (.agg #[.int .i64 a, .int .i64 b, .int .i64 c, .int .i64 d, .int .i64 e]) (.agg #[.int .i64 a', .int .i64 b', .int .i64 c', .int .i64 d', .int .i64 e'])).run Try.prog w =
      .ok (.bool (!decide ((⟨a, b, c, d, e⟩ : Stm) = ⟨a', b', c', d', e'⟩))) w := by
  by_cases h1 : a = a'
  · by_cases h2 : b = b'
    · by_cases h3 : c = c'
      · by_cases h4 : d = d'
        · by_cases h5 : e = e'
          · subst h1 h2 h3 h4 h5; go_simp
          · have h5' : (e == e') = false := by simpa using h5
            subst h1 h2 h3 h4; go_simp
        · have h4' : (d == d') = false := by simpa using h4
          subst h1 h2 h3; go_simp
      · have h3' : (c == c') = false := by simpa using h3
        subst h1 h2; go_simp
    · have h2' : (b == b') = false := by simpa using h2
      subst h1; go_simp
  · have h1' : (a == a') = false := by simpa using h1
    go_simp

/-- the ring's block: how many parties, who is bad, the map, what was said -/
def rgCells (n : Int) (bad : List Bool) (mv sv : Value) : Array Value := ([Value.int .i64 n] ++ bad.map Value.bool ++ [mv, sv]).toArray
def RgB (w : World) (g : Nat) (n : Int) (bad : List Bool) (mv sv : Value) : Prop := bad.length = 64 ∧ Blk w g 55 (rgCells n bad mv sv)
section
variable {w w' : World} {g : Nat} {n : Int} {bad : List Bool} {mv sv : Value}
theorem RgB.c0 (h : RgB w g n bad mv sv) : w.cell? ⟨g, 0, none⟩ = some (.int .i64 n) := by rw [h.2.cell]; simp [rgCells]
theorem RgB.cbad (h : RgB w g n bad mv sv) (i : Nat) (hi : i < 64) : w.cell? ⟨g, 1 + i, none⟩ = some (.bool (bad[i]'(by rw [h.1]; exact hi))) := by
  have h1 := h.1
  rw [h.2.cell]
  simp only [rgCells, List.getElem?_toArray]
  rw [List.getElem?_append_left (by simp; omega), List.getElem?_append_right (by simp)]
  simp [show i < bad.length from by omega]
theorem RgB.cmap (h : RgB w g n bad mv sv) : w.cell? ⟨g, 65, none⟩ = some mv := by
  have h1 := h.1
  rw [h.2.cell]
  simp only [rgCells, List.getElem?_toArray]
  rw [List.getElem?_append_right (by simp; omega)]
  simp [h1]
theorem RgB.call (h : RgB w g n bad mv sv) : w.cell? ⟨g, 66, none⟩ = some sv := by
  have h1 := h.1
  rw [h.2.cell]
  simp only [rgCells, List.getElem?_toArray]
  rw [List.getElem?_append_right (by simp; omega)]
  simp [h1]
theorem RgB.free (h : RgB w g n bad mv sv) (i : Nat) : w.frozen? ⟨g, i, none⟩ = false := h.2.free i
theorem RgB.lt (h : RgB w g n bad mv sv) : g < w.heap.size := h.2.lt
theorem RgB.below (h : RgB w g n bad mv sv) (hb : Below w.heap.size w w') : RgB w' g n bad mv sv := ⟨h.1, (hb.block g h.2.lt).trans h.2⟩
end
/-- is a party bad? -/
def badB (n : Int) (bad : List Bool) (p : Int) : Bool := decide (0 ≤ p) && decide (p < n) && bad.getD p.toNat false

theorem is_any (g : Nat) (n : Int) (bad : List Bool) (mv sv : Value) (p : Int) (w : World) (hR : RgB w g n bad mv sv) :
    Calls Try.prog 21 #[.pointer (some ⟨g, 0, none⟩), .int .i64 p] w fun e w' => e = .returned (.bool (decide (0 ≤ p) && decide (p < n))) ∧ w = w' := by
  have c0 := hR.c0
  clear hR
  by_cases h0 : 0 ≤ p
  · by_cases h1 : p < n
    · go_enter Try.func21, Try.ntmps21
      go_wp2_with fail
      go_ret
      exact ⟨by simp [h0, h1], rfl⟩
    · go_enter Try.func21, Try.ntmps21
      go_wp2_with fail
      go_ret
      exact ⟨by simp [h0, h1], rfl⟩
  · go_enter Try.func21, Try.ntmps21
    go_wp2_with fail
    go_ret
    exact ⟨retb (by rw [show decide (0 ≤ p) = false from decide_eq_false (by omega)]; rfl), rfl⟩
theorem bad_any (g : Nat) (n : Int) (bad : List Bool) (mv sv : Value) (p : Int) (w : World) (hR : RgB w g n bad mv sv) (hn : n ≤ 64) :
    Calls Try.prog 14 #[.pointer (some ⟨g, 0, none⟩), .int .i64 p] w fun e w' => e = .returned (.bool (badB n bad p)) ∧ w = w' := by
  have his := is_any g n bad mv sv p w hR
  by_cases h : 0 ≤ p ∧ p < n
  · obtain ⟨k, rfl⟩ : ∃ k : Nat, p = k := ⟨p.toNat, by omega⟩
    have hk : k < 64 := by omega
    have hk' : (k : Int) < 64 := by omega
    have hc := hR.cbad k hk
    have HB := hide (show badB n bad k = bad[k]'(by rw [hR.1]; exact hk) from by
      unfold badB
      rw [decide_eq_true h.1, decide_eq_true h.2]
      simp [List.getD, show k < bad.length from by rw [hR.1]; exact hk])
    rw [decide_eq_true h.1, decide_eq_true h.2] at his
    have HIS := hide his
    generalize bad[k]'(by rw [hR.1]; exact hk) = bk at hc HB
    clear h his hR
    go_enter Try.func14, Try.ntmps14
    go_wp2_with (go_at_call 21; refine HIS.out.mono ?_; rintro e w' ⟨rfl, rfl⟩)
    go_ret
    rw [HB.out]; exact ⟨rfl, rfl⟩
  · have hb : (decide (0 ≤ p) && decide (p < n)) = false := by
      by_cases h0 : 0 ≤ p
      · simp [h0]; omega
      · simp [h0]
    have HB := hide (show badB n bad p = false from by unfold badB; rw [hb]; rfl)
    rw [hb] at his
    have HIS := hide his
    clear his hb
    go_enter Try.func14, Try.ntmps14
    go_wp2_with (go_at_call 21; refine HIS.out.mono ?_; rintro e w' ⟨rfl, rfl⟩)
    go_ret
    rw [HB.out]; exact ⟨rfl, rfl⟩

/-- a slice of numbers -/
def cN (i : Int) : Value := .int .i64 i
def Ns (w : World) (A : Option Addr) (l : List Int) : Prop := Rd w A 1 l.length (l.map cN)
theorem Ns.below {w w' : World} {A : Option Addr} {l : List Int} (h : Ns w A l) (hb : Below w.heap.size w w') : Ns w' A l := Rd.below h hb
theorem Ns.cell {w : World} {A : Option Addr} {l : List Int} (h : Ns w A l) (hn : 0 < l.length) : ∃ b off, A = some ⟨b, off, none⟩ ∧ b < w.heap.size ∧ ∀ j (hj : j < l.length), w.cell? ⟨b, off + j, none⟩ = some (.int .i64 l[j]) := by
  obtain ⟨b, off, e, hb, hc⟩ := h.2 hn
  exact ⟨b, off, e, hb, fun j hj => hc j _ (by simp [hj, cN])⟩
/-- may there be such a ring? -/
def mayR (n : Int) (bads : List Int) : Bool := (bads.all fun x => decide (0 ≤ x) && decide (x < n)) && (decide (1 ≤ n) && decide (n ≤ 64))
theorem mayR_no {n : Int} {bads : List Int} {k : Nat} (hk : k < bads.length) (h : ¬ (0 ≤ bads[k] ∧ bads[k] < n)) : mayR n bads = false := by
  unfold mayR
  have : (bads.all fun x => decide (0 ≤ x) && decide (x < n)) = false := by
    rw [List.all_eq_false]
    exact ⟨bads[k], List.getElem_mem hk, by simp only [Bool.and_eq_true, decide_eq_true_eq]; exact h⟩
  rw [this]; rfl
theorem mayR_end {n : Int} {bads : List Int} (h : ∀ x ∈ bads, 0 ≤ x ∧ x < n) : mayR n bads = (decide (1 ≤ n) && decide (n ≤ 64)) := by
  unfold mayR
  have : (bads.all fun x => decide (0 ≤ x) && decide (x < n)) = true := by
    rw [List.all_eq_true]
    intro x hx
    simp only [Bool.and_eq_true, decide_eq_true_eq]; exact h x hx
  rw [this]; rfl
theorem all_succ {α : Type} {p : α → Prop} {l : List α} {k : Nat} (hk : k < l.length) (h : ∀ x ∈ l.take k, p x) (hx : p l[k]) : ∀ x ∈ l.take (k + 1), p x := by
  intro x hm
  rw [List.take_succ_eq_append_getElem hk] at hm
  rcases List.mem_append.1 hm with h1 | h1
  · exact h x h1
  · rw [List.mem_singleton.1 h1]; exact hx

set_option maxHeartbeats 2000000 in
theorem rmay_any (A : Option Addr) (bads : List Int) (c : Nat) (n : Int) (w : World) (hF : Ns w A bads) (hl : bads.length ≤ 34359738368) :
    Calls Try.prog 13 #[.int .i64 n, .slice A bads.length c] w fun e w' => e = .returned (.bool (mayR n bads)) ∧ w = w' := by
  go_enter Try.func13, Try.ntmps13
  go_wp2_with fail
  go_loopw [5] (fun i wr => ∃ k : Nat, k ≤ bads.length ∧ i = .int .i64 k ∧ (∀ x ∈ bads.take k, 0 ≤ x ∧ x < n) ∧ wr = w) (fun i _ => bads.length - (intOf i).toNat)
  case atStart => exact ⟨0, Nat.zero_le _, rfl, by simp, rfl⟩
  case round =>
    obtain ⟨k, hk, rfl, hall, rfl⟩ := hrel
    have HA := hide hall; clear hall
    by_cases hlt : k < bads.length
    · have hlt' : (k : Int) < bads.length := by omega
      obtain ⟨b, off, rfl, hbl, hcell⟩ := hF.cell (by omega)
      have hc := hcell k hlt
      by_cases h0 : bads[k] < 0
      · have HR := hide (mayR_no (n := n) hlt (by omega))
        generalize bads[k] = x at hc h0
        clear hcell
        go_wp2_with fail
        go_ret
        rw [HR.out]; exact ⟨rfl, rfl⟩
      · by_cases h1 : n ≤ bads[k]
        · have HR := hide (mayR_no (n := n) hlt (by omega))
          generalize bads[k] = x at hc h0 h1
          clear hcell
          go_wp2_with fail
          go_ret
          rw [HR.out]; exact ⟨rfl, rfl⟩
        · have HN := hide (all_succ (p := fun x => 0 ≤ x ∧ x < n) hlt HA.out ⟨by omega, by omega⟩)
          generalize bads[k] = x at hc h0 h1
          clear hcell
          go_wp2_with fail
          exact ⟨⟨k + 1, by omega, by go_num, HN.out, trivial⟩, by simp [intOf]; omega⟩
    · have hke : k = bads.length := by omega
      have hlt' : ¬ (k : Int) < bads.length := by omega
      have HR := hide (mayR_end (n := n) (bads := bads) (by have := HA.out; rwa [hke, List.take_length] at this))
      clear hke
      by_cases h1 : 1 ≤ n
      · by_cases h2 : n ≤ 64
        · go_wp2_with fail
          go_ret
          rw [HR.out]; exact ⟨by simp [h1, h2], rfl⟩
        · go_wp2_with fail
          go_ret
          rw [HR.out]; exact ⟨by simp [h1, h2], rfl⟩
      · go_wp2_with fail
        go_ret
        rw [HR.out]; exact ⟨retb (by rw [show decide (1 ≤ n) = false from decide_eq_false (by omega)]; rfl), rfl⟩
end Go.Proofs.Ytllfdnfiicnmiaa
