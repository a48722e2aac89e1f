/-
  The ring: the reference's Voice; Count, All, New.
-/
import Derived.Test.YtllfdnfiicnmiaaRg3
namespace Go.Proofs.Ytllfdnfiicnmiaa
open Go.RowKit
set_option maxRecDepth 100000
set_option linter.unusedSimpArgs false
set_option linter.unusedVariables false

/-- who says it, of those that a list names -/
def voiceB (L names : List Stm) (k v q t : Int) (p : Int) : Bool := decide ((⟨p, k, v, q, t⟩ : Stm) ∈ names) && decide ((⟨p, k, v, q, t⟩ : Stm) ∈ L)

set_option maxHeartbeats 4000000 in
theorem rvoice_any (n : Int) (v1 : Value) (A2 : Option Addr) (L : List Stm) (c2 : Nat) (B : Option Addr) (names : List Stm) (d : Nat) (f k v q t p : Int) (w : World) (hF : Fs Stm.cells 5 w A2 L) (hl : L.length ≤ 34359738368) (hN : Fs Stm.cells 5 w B names) (hnl : names.length ≤ 34359738368) (hv1 : ∃ A1 m c1, v1 = .slice A1 m c1) :
    Calls Try.prog 11 #[.agg #[.int .i64 n, v1, .slice A2 L.length c2], .slice B names.length d, .agg #[.int .i64 f, .int .i64 k, .int .i64 v, .int .i64 q, .int .i64 t], .int .i64 p] w fun e w' => e = .returned (.bool (voiceB L names k v q t p)) ∧ Below w.heap.size w w' := by
  obtain ⟨A1, m1, c1, rfl⟩ := hv1
  obtain ⟨W, hW⟩ : ∃ W, W = (w.alloc (.cells #[.int .i64 n, .slice A1 m1 c1, .slice A2 L.length c2] 29)).alloc (.cells #[.int .i64 p, .int .i64 k, .int .i64 v, .int .i64 q, .int .i64 t] 25) := ⟨_, rfl⟩
  have hFW : Fs Stm.cells 5 W A2 L := by rw [hW]; exact (hF.alloc _).alloc _
  have hNW : Fs Stm.cells 5 W B names := by rw [hW]; exact (hN.alloc _).alloc _
  have hBW : Below w.heap.size w W := by rw [hW]; exact below_trans (gr1 _ _) (gr1 _ _)
  have hz0 : w.heap.size < W.heap.size := by rw [hW]; simp; omega
  have hz1 : w.heap.size + 1 < W.heap.size := by rw [hW]; simp
  have r0 : W.cell? ⟨w.heap.size, 0, none⟩ = some (.int .i64 n) := by rw [hW]; simp
  have r1 : W.cell? ⟨w.heap.size, 1, none⟩ = some (.slice A1 m1 c1) := by rw [hW]; simp
  have r2 : W.cell? ⟨w.heap.size, 2, none⟩ = some (.slice A2 L.length c2) := by rw [hW]; simp
  have s0 : W.cell? ⟨w.heap.size + 1, 0, none⟩ = some (.int .i64 p) := by rw [hW]; simp
  have s1 : W.cell? ⟨w.heap.size + 1, 1, none⟩ = some (.int .i64 k) := by rw [hW]; simp
  have s2 : W.cell? ⟨w.heap.size + 1, 2, none⟩ = some (.int .i64 v) := by rw [hW]; simp
  have s3 : W.cell? ⟨w.heap.size + 1, 3, none⟩ = some (.int .i64 q) := by rw [hW]; simp
  have s4 : W.cell? ⟨w.heap.size + 1, 4, none⟩ = some (.int .i64 t) := by rw [hW]; simp
  have HS := hide (And.intro r0 (And.intro r1 (And.intro r2 (And.intro s0 (And.intro s1 (And.intro s2 (And.intro s3 s4)))))))
  clear r0 r1 r2 s0 s1 s2 s3 s4
  have HWW := hide hW
  have HHAS := hide (fun w (h : Fs Stm.cells 5 w A2 L) => rhas_any n (.slice A1 m1 c1) A2 L c2 p k v q t w h hl ⟨A1, m1, c1, rfl⟩)
  have HV := hide (show voiceB L names k v q t p = (decide ((⟨p, k, v, q, t⟩ : Stm) ∈ names) && decide ((⟨p, k, v, q, t⟩ : Stm) ∈ L)) from rfl)
  go_enter Try.func11, Try.ntmps11
  go_wp2_with fail
  rw [← hW]
  clear hW
  go_loopw [9] (fun i wr => ∃ j : Nat, j ≤ names.length ∧ i = .int .i64 j ∧ (∀ x ∈ names.take j, x ≠ ⟨p, k, v, q, t⟩) ∧ Below W.heap.size W wr) (fun i _ => names.length - (intOf i).toNat)
  case atStart => exact ⟨0, Nat.zero_le _, rfl, by simp, Below.refl _ _⟩
  case round =>
    obtain ⟨j, hj, rfl, hall, hbel⟩ := hrel
    have HA := hide hall; clear hall
    obtain ⟨r0, r1, r2, s0, s1, s2, s3, s4⟩ := HS.out
    have hcl := (bcell hbel).1
    have r0' := (hcl _ 0 hz0).trans r0
    have r1' := (hcl _ 1 hz0).trans r1
    have r2' := (hcl _ 2 hz0).trans r2
    have s0' := (hcl _ 0 hz1).trans s0
    have s1' := (hcl _ 1 hz1).trans s1
    have s2' := (hcl _ 2 hz1).trans s2
    have s3' := (hcl _ 3 hz1).trans s3
    have s4' := (hcl _ 4 hz1).trans s4
    clear r0 r1 r2 s0 s1 s2 s3 s4 hcl
    by_cases hlt : j < names.length
    · have hlt' : (j : Int) < names.length := by omega
      obtain ⟨b, off, rfl, hbl, hcell⟩ := hNW.cell (fun _ => rfl) (by omega)
      obtain ⟨c0, c1', c2', c3, c4⟩ := fiveS hcell hbel hbl hlt
      clear hcell
      have hq := fun w => run_eq_stm w names[j].f names[j].k names[j].v names[j].q names[j].t p k v q t
      by_cases hx : names[j] = ⟨p, k, v, q, t⟩
      · have HR := hide (mem_at hlt hx)
        rw [show decide ((⟨names[j].f, names[j].k, names[j].v, names[j].q, names[j].t⟩ : Stm) = ⟨p, k, v, q, t⟩) = true from decide_eq_true hx] at hq
        clear hx
        generalize names[j] = x at c0 c1' c2' c3 c4 hq
        obtain ⟨xf, xk, xv, xq, xt⟩ := x
        go_wp2_with fail
        go_quiet (fail)
        clear c0 c1' c2' c3 c4 hq
        go_wp2_with (go_at_call 17; refine (HHAS.out _ ((hFW.below hbel).drewN _)).mono ?_; rintro e w2 ⟨rfl, hb2⟩)
        go_ret
        rw [HV.out, HR.out]; exact ⟨rfl, below_trans (below_drewN (below_trans hBW hbel) _) hb2⟩
      · have HN := hide (all_succ (p := fun x => x ≠ ⟨p, k, v, q, t⟩) hlt HA.out hx)
        rw [show decide ((⟨names[j].f, names[j].k, names[j].v, names[j].q, names[j].t⟩ : Stm) = ⟨p, k, v, q, t⟩) = false from decide_eq_false hx] at hq
        clear hx
        generalize names[j] = x at c0 c1' c2' c3 c4 hq
        obtain ⟨xf, xk, xv, xq, xt⟩ := x
        go_wp2_with fail
        go_quiet (fail)
        go_wp2_with fail
        exact ⟨⟨j + 1, by omega, by go_num, HN.out, below_drewN hbel _⟩, by simp [intOf]; omega⟩
    · have hke : j = names.length := by omega
      have hlt' : ¬ (j : Int) < names.length := by omega
      have HR := hide (mem_no (l := names) (x := ⟨p, k, v, q, t⟩) (by have := HA.out; rwa [hke, List.take_length] at this))
      clear hke
      go_wp2_with fail
      go_ret
      rw [HV.out, HR.out]; exact ⟨rfl, below_trans hBW hbel⟩

theorem count_any {base : Nat} {w : World} {g b : Nat} {A : Option Addr} {c : Nat} {n : Int} {bad : List Bool} {L : List Stm} (hR : RgIs base w g b A c n bad L) :
    Calls Try.prog 20 #[.pointer (some ⟨g, 0, none⟩)] w fun e w' => e = .returned (.int .i64 L.length) ∧ w = w' := by
  have c66 := hR.blk.call
  clear hR
  go_enter Try.func20, Try.ntmps20
  go_wp2_with fail
  go_ret
  exact ⟨rfl, rfl⟩
theorem stm_one (L : List Stm) : ∀ u ∈ L.flatMap Stm.cells, u.oneCell' = true := by
  intro u hu
  obtain ⟨x, _, hx⟩ := List.mem_flatMap.1 hu
  simp [Stm.cells] at hx
  rcases hx with rfl | rfl | rfl | rfl | rfl <;> rfl
def StmsOut (w : World) (l : List Stm) (e : Ending) (w' : World) : Prop :=
  ∃ A cap, e = .returned (.slice A l.length cap) ∧ w'.ownsRow w.heap.size 25 5 (.slice A l.length cap) l.length (l.flatMap Stm.cells) ∧ Below w.heap.size w w'
theorem all_any {base : Nat} {w : World} {g b : Nat} {A : Option Addr} {c : Nat} {n : Int} {bad : List Bool} {L : List Stm} (hR : RgIs base w g b A c n bad L) :
    Calls Try.prog 19 #[.pointer (some ⟨g, 0, none⟩)] w (StmsOut w L) := by
  have c66 := hR.blk.call
  have HRd := hide (Rd.of_own hR.row)
  have hl := hR.len
  clear hR
  go_enter Try.func19, Try.ntmps19
  go_wp2_with (at_builtin; refine wpList_appAny _ rfl (.const (.slice none 0 0)) (.tmp 6) _ rfl w w.heap.size 25 _ 5 40 Try.underlying23 info_stm rfl (by omega) (by omega) _ 0 [] (by rfl) (World.ownsRow_nil _ _ _ _) (Below.refl _ _) _ L.length _ _ (by rfl) HRd.out (stm_one L) (by omega) (Nat.le_refl _) ?_; intro A4 c4 w4 hown4 hb4; simp only [Nat.zero_add, List.nil_append] at hown4)
  go_ret
  exact ⟨A4, c4, by simp, hown4, hb4⟩
end Go.Proofs.Ytllfdnfiicnmiaa
