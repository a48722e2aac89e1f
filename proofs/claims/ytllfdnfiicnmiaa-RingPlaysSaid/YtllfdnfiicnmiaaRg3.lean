/-
  The ring: the reference's Bad, Has, Voice; Count, All.
-/
import Derived.Test.YtllfdnfiicnmiaaRg2
namespace Go.Proofs.Ytllfdnfiicnmiaa
open Go.RowKit
set_option maxRecDepth 100000
set_option linter.unusedSimpArgs false
set_option linter.unusedVariables false

theorem size_int : (Try.prog.info? 3).map (·.size) = some 1 := by kernel_rfl
theorem size_stm : (Try.prog.info? 25).map (·.size) = some 5 := by kernel_rfl
theorem info_stm : (Try.prog.info? 25).map (fun i => (i.zero, i.size, i.bytes)) = some (some (.agg #[.int .i64 0, .int .i64 0, .int .i64 0, .int .i64 0, .int .i64 0]), 5, 40) := by kernel_rfl
theorem fiveS {w wr : World} {b off : Nat} {l : List Stm} {k : Nat} (hcell : ∀ i (hi : i < l.length) j u, j < 5 → (Stm.cells l[i])[j]? = some u → w.cell? ⟨b, off + i * 5 + j, none⟩ = some u) (hbel : Below w.heap.size w wr) (hbl : b < w.heap.size) (hk : k < l.length) :
    wr.cell? ⟨b, off + k * 5, none⟩ = some (.int .i64 l[k].f) ∧ wr.cell? ⟨b, off + k * 5 + 1, none⟩ = some (.int .i64 l[k].k) ∧ wr.cell? ⟨b, off + k * 5 + 2, none⟩ = some (.int .i64 l[k].v) ∧
    wr.cell? ⟨b, off + k * 5 + 3, none⟩ = some (.int .i64 l[k].q) ∧ wr.cell? ⟨b, off + k * 5 + 4, none⟩ = some (.int .i64 l[k].t) :=
  ⟨(hbel.cell (p := ⟨b, off + k * 5, none⟩) hbl).trans (hcell k hk 0 _ (by omega) rfl), (hbel.cell (p := ⟨b, off + k * 5 + 1, none⟩) hbl).trans (hcell k hk 1 _ (by omega) rfl),
   (hbel.cell (p := ⟨b, off + k * 5 + 2, none⟩) hbl).trans (hcell k hk 2 _ (by omega) rfl), (hbel.cell (p := ⟨b, off + k * 5 + 3, none⟩) hbl).trans (hcell k hk 3 _ (by omega) rfl),
   (hbel.cell (p := ⟨b, off + k * 5 + 4, none⟩) hbl).trans (hcell k hk 4 _ (by omega) rfl)⟩
theorem mem_no {α : Type} [DecidableEq α] {l : List α} {x : α} (h : ∀ y ∈ l, y ≠ x) : decide (x ∈ l) = false := decide_eq_false fun hm => h x hm rfl
theorem mem_at {α : Type} [DecidableEq α] {l : List α} {k : Nat} (hk : k < l.length) {x : α} (h : l[k] = x) : decide (x ∈ l) = true := decide_eq_true (h ▸ List.getElem_mem hk)

set_option maxHeartbeats 2000000 in
theorem rbad_any (n : Int) (A1 : Option Addr) (bads : List Int) (c1 : Nat) (v2 : Value) (p : Int) (w : World) (hF : Ns w A1 bads) (hl : bads.length ≤ 34359738368) (hv2 : ∃ A2 m c2, v2 = .slice A2 m c2) :
    Calls Try.prog 18 #[.agg #[.int .i64 n, .slice A1 bads.length c1, v2], .int .i64 p] w fun e w' => e = .returned (.bool (decide (p ∈ bads))) ∧ Below w.heap.size w w' := by
  obtain ⟨A2, m2, c2, rfl⟩ := hv2
  go_enter Try.func18, Try.ntmps18
  go_wp2_with fail
  go_loopw [5] (fun i wr => ∃ k : Nat, k ≤ bads.length ∧ i = .int .i64 k ∧ (∀ x ∈ bads.take k, x ≠ p) ∧ wr = w.alloc (.cells #[.int .i64 n, .slice A1 bads.length c1, .slice A2 m2 c2] 29)) (fun i _ => bads.length - (intOf i).toNat)
  case atStart => exact ⟨0, Nat.zero_le _, rfl, by simp, rfl⟩
  case round =>
    obtain ⟨k, hk, rfl, hall, rfl⟩ := hrel
    have HA := hide hall; clear hall
    by_cases hlt : k < bads.length
    · have hlt' : (k : Int) < bads.length := by omega
      obtain ⟨b, off, rfl, hbl, hcell⟩ := (Ns.below hF (gr1 w (.cells #[.int .i64 n, .slice A1 bads.length c1, .slice A2 m2 c2] 29))).cell (by omega)
      have hc := hcell k hlt
      clear hcell
      by_cases hx : bads[k] = p
      · have HR := hide (mem_at hlt hx)
        have hx' : (bads[k] == p) = true := by rw [hx]; simp
        have HX := hide hx
        clear hx
        generalize bads[k] = x at hc hx'
        go_wp2_with fail
        go_ret
        rw [HR.out]; exact ⟨rfl, gr1 _ _⟩
      · have HN := hide (all_succ (p := fun x => x ≠ p) hlt HA.out hx)
        have hx' : (bads[k] == p) = false := by rw [beq_eq_false_iff_ne]; exact hx
        generalize bads[k] = x at hc hx' hx
        go_wp2_with fail
        exact ⟨⟨k + 1, by omega, by go_num, HN.out, trivial⟩, by simp [intOf]; omega⟩
    · have hke : k = bads.length := by omega
      have hlt' : ¬ (k : Int) < bads.length := by omega
      have HR := hide (mem_no (l := bads) (x := p) (by have := HA.out; rwa [hke, List.take_length] at this))
      clear hke
      go_wp2_with fail
      go_ret
      rw [HR.out]; exact ⟨rfl, gr1 _ _⟩

set_option maxHeartbeats 2000000 in
theorem rhas_any (n : Int) (v1 : Value) (A2 : Option Addr) (L : List Stm) (c2 : Nat) (f k v q t : Int) (w : World) (hF : Fs Stm.cells 5 w A2 L) (hl : L.length ≤ 34359738368) (hv1 : ∃ A1 m c1, v1 = .slice A1 m c1) :
    Calls Try.prog 17 #[.agg #[.int .i64 n, v1, .slice A2 L.length c2], .agg #[.int .i64 f, .int .i64 k, .int .i64 v, .int .i64 q, .int .i64 t]] w fun e w' => e = .returned (.bool (decide ((⟨f, k, v, q, t⟩ : Stm) ∈ L))) ∧ Below w.heap.size w w' := by
  obtain ⟨A1, m1, c1, rfl⟩ := hv1
  obtain ⟨W, hW⟩ : ∃ W, W = (w.alloc (.cells #[.int .i64 n, .slice A1 m1 c1, .slice A2 L.length c2] 29)).alloc (.cells #[.int .i64 f, .int .i64 k, .int .i64 v, .int .i64 q, .int .i64 t] 25) := ⟨_, rfl⟩
  have hFW : Fs Stm.cells 5 W A2 L := by rw [hW]; exact (hF.alloc _).alloc _
  have hBW : Below w.heap.size w W := by rw [hW]; exact below_trans (gr1 _ _) (gr1 _ _)
  have hz0 : w.heap.size < W.heap.size := by rw [hW]; simp; omega
  have hz1 : w.heap.size + 1 < W.heap.size := by rw [hW]; simp
  have r2 : W.cell? ⟨w.heap.size, 2, none⟩ = some (.slice A2 L.length c2) := by rw [hW]; simp
  have s0 : W.cell? ⟨w.heap.size + 1, 0, none⟩ = some (.int .i64 f) := by rw [hW]; simp
  have s1 : W.cell? ⟨w.heap.size + 1, 1, none⟩ = some (.int .i64 k) := by rw [hW]; simp
  have s2 : W.cell? ⟨w.heap.size + 1, 2, none⟩ = some (.int .i64 v) := by rw [hW]; simp
  have s3 : W.cell? ⟨w.heap.size + 1, 3, none⟩ = some (.int .i64 q) := by rw [hW]; simp
  have s4 : W.cell? ⟨w.heap.size + 1, 4, none⟩ = some (.int .i64 t) := by rw [hW]; simp
  have HS := hide (And.intro r2 (And.intro s0 (And.intro s1 (And.intro s2 (And.intro s3 s4)))))
  clear r2 s0 s1 s2 s3 s4
  have HWW := hide hW
  go_enter Try.func17, Try.ntmps17
  go_wp2_with fail
  rw [← hW]
  clear hW
  go_loopw [5] (fun i wr => ∃ j : Nat, j ≤ L.length ∧ i = .int .i64 j ∧ (∀ x ∈ L.take j, x ≠ ⟨f, k, v, q, t⟩) ∧ Below W.heap.size W wr) (fun i _ => L.length - (intOf i).toNat)
  case atStart => exact ⟨0, Nat.zero_le _, rfl, by simp, Below.refl _ _⟩
  case round =>
    obtain ⟨j, hj, rfl, hall, hbel⟩ := hrel
    have HA := hide hall; clear hall
    obtain ⟨r2, s0, s1, s2, s3, s4⟩ := HS.out
    have hcl := (bcell hbel).1
    have r2' := (hcl _ 2 hz0).trans r2
    have s0' := (hcl _ 0 hz1).trans s0
    have s1' := (hcl _ 1 hz1).trans s1
    have s2' := (hcl _ 2 hz1).trans s2
    have s3' := (hcl _ 3 hz1).trans s3
    have s4' := (hcl _ 4 hz1).trans s4
    clear r2 s0 s1 s2 s3 s4 hcl
    by_cases hlt : j < L.length
    · have hlt' : (j : Int) < L.length := by omega
      obtain ⟨b, off, rfl, hbl, hcell⟩ := hFW.cell (fun _ => rfl) (by omega)
      obtain ⟨c0, c1', c2', c3, c4⟩ := fiveS hcell hbel hbl hlt
      clear hcell
      have hq := fun w => run_eq_stm w L[j].f L[j].k L[j].v L[j].q L[j].t f k v q t
      by_cases hx : L[j] = ⟨f, k, v, q, t⟩
      · have HR := hide (mem_at hlt hx)
        rw [show decide ((⟨L[j].f, L[j].k, L[j].v, L[j].q, L[j].t⟩ : Stm) = ⟨f, k, v, q, t⟩) = true from decide_eq_true hx] at hq
        clear hx
        generalize L[j] = x at c0 c1' c2' c3 c4 hq
        obtain ⟨xf, xk, xv, xq, xt⟩ := x
        go_wp2_with fail
        go_quiet (fail)
        go_wp2_with fail
        go_ret
        rw [HR.out]; exact ⟨rfl, below_drewN (below_trans hBW hbel) _⟩
      · have HN := hide (all_succ (p := fun x => x ≠ ⟨f, k, v, q, t⟩) hlt HA.out hx)
        rw [show decide ((⟨L[j].f, L[j].k, L[j].v, L[j].q, L[j].t⟩ : Stm) = ⟨f, k, v, q, t⟩) = false from decide_eq_false hx] at hq
        clear hx
        generalize L[j] = x at c0 c1' c2' c3 c4 hq
        obtain ⟨xf, xk, xv, xq, xt⟩ := x
        go_wp2_with fail
        go_quiet (fail)
        go_wp2_with fail
        exact ⟨⟨j + 1, by omega, by go_num, HN.out, below_drewN hbel _⟩, by simp [intOf]; omega⟩
    · have hke : j = L.length := by omega
      have hlt' : ¬ (j : Int) < L.length := by omega
      have HR := hide (mem_no (l := L) (x := ⟨f, k, v, q, t⟩) (by have := HA.out; rwa [hke, List.take_length] at this))
      clear hke
      go_wp2_with fail
      go_ret
      rw [HR.out]; exact ⟨rfl, below_trans hBW hbel⟩
end Go.Proofs.Ytllfdnfiicnmiaa
