/-
  The walk of awake.
-/
import Derived.Test.YtllfdnfiicnmiaaRg10
namespace Go.Proofs.Ytllfdnfiicnmiaa
open Go.RowKit
set_option maxRecDepth 100000
set_option linter.unusedSimpArgs false
set_option linter.unusedVariables false

theorem RgIs.mine_ge {base : Nat} {w : World} {g b : Nat} {A : Option Addr} {c : Nat} {n : Int} {bad : List Bool} {L : List Stm} (h : RgIs base w g b A c n bad L) (i : Nat) (hi : Mine g b A i) : base ≤ i := by
  rcases hi with e | e | e
  · rw [e]; exact h.hg
  · rw [e]; exact h.hb
  · rcases h.row.2 with hn | ⟨j, cap, cur, e', hg, hh, rest⟩
    · have := hn.1; rw [e] at this; injection this with h1; cases h1
    · rw [e] at e'; injection e' with h1; injection h1 with h1; injection h1 with h1
      rw [h1]; exact hg
theorem say_in {B base : Nat} {w0 w : World} {g b : Nat} {A : Option Addr} {c : Nat} {n : Int} {bad : List Bool} {L : List Stm} (a : Int) (s : Stm) (r : Nat) (L' : List Stm) (hR : RgIs base w g b A c n bad L) (hb : Below B w0 w) (hB : B ≤ w.heap.size) (hBb : B ≤ base) (hok : StmOk s) (hr : sayE n bad L a s = r) (hL : sayL n bad L a s = L') :
    Calls Try.prog 8 #[.pointer (some ⟨g, 0, none⟩), .int .i64 a, .agg #[.int .i64 s.f, .int .i64 s.k, .int .i64 s.v, .int .i64 s.q, .int .i64 s.t]] w fun e w' =>
      e = .returned (.int .i64 r) ∧ (∃ A' c', RgIs base w' g b A' c' n bad L') ∧ Below B w0 w' ∧ B ≤ w'.heap.size := by
  have h := say_any a s hR hok
  unfold Says at h
  rw [hr, hL] at h
  refine h.mono fun e w' hx => ?_
  obtain ⟨h1, A', c', h2, h3, h4⟩ := hx
  exact ⟨h1, ⟨A', c', h2⟩, h3.below hb hB (fun i hi => Nat.le_trans hBb (hR.mine_ge i hi)), Nat.le_trans hB h3.size⟩
theorem rd_newN (w : World) (H size n : Nat) (t : TypeId) (cs : Array Value) (hc : cs.size = n * size) (hH : w.heap.size = H) : Rd (w.alloc (.cells cs t)) (some ⟨H, 0, none⟩) size n cs.toList := by
  subst hH
  refine ⟨by simpa using hc, fun hn => ⟨w.heap.size, 0, rfl, by simp, fun j u hu => ?_⟩⟩
  rw [Nat.zero_add, (Blk.new w t cs).cell]
  simpa using hu

theorem aw_m : mayR 4 [3] = true := by decide
theorem aw_e1 : sayE 4 (badsL [3]) [] 0 ⟨0, 2, 0, 0, 0⟩ = 0 := by decide
theorem aw_l1 : sayL 4 (badsL [3]) [] 0 ⟨0, 2, 0, 0, 0⟩ = [⟨0, 2, 0, 0, 0⟩] := by decide
theorem aw_e2 : sayE 4 (badsL [3]) [⟨0, 2, 0, 0, 0⟩] 0 ⟨1, 0, 0, 0, 0⟩ = 19 := by decide
theorem aw_l2 : sayL 4 (badsL [3]) [⟨0, 2, 0, 0, 0⟩] 0 ⟨1, 0, 0, 0, 0⟩ = [⟨0, 2, 0, 0, 0⟩] := by decide
theorem aw_e3 : sayE 4 (badsL [3]) [⟨0, 2, 0, 0, 0⟩] 3 ⟨0, 0, 0, 0, 0⟩ = 19 := by decide
theorem aw_l3 : sayL 4 (badsL [3]) [⟨0, 2, 0, 0, 0⟩] 3 ⟨0, 0, 0, 0, 0⟩ = [⟨0, 2, 0, 0, 0⟩] := by decide
theorem aw_v : spokeL (fun i => voiceB [⟨0, 2, 0, 0, 0⟩] [⟨0, 2, 0, 0, 0⟩, ⟨2, 2, 0, 0, 0⟩] 2 0 0 0 i) 64 = [0] := by decide
theorem ok0 : StmOk ⟨0, 2, 0, 0, 0⟩ := by unfold StmOk I64; simp
theorem ok1 : StmOk ⟨1, 0, 0, 0, 0⟩ := by unfold StmOk I64; simp
theorem ok2 : StmOk ⟨0, 0, 0, 0, 0⟩ := by unfold StmOk I64; simp
theorem ok3 : StmOk ⟨2, 2, 0, 0, 0⟩ := by unfold StmOk I64; simp
theorem aw_has : decide ((⟨0, 2, 0, 0, 0⟩ : Stm) ∈ [(⟨0, 2, 0, 0, 0⟩ : Stm)]) = true := by decide

theorem aw_new (w : World) : Calls Try.prog 16 #[.int .i64 4, .slice (some ⟨w.heap.size, 0, none⟩) 1 1] (w.alloc (.cells #[.int .i64 3] 3)) fun e w' =>
    ∃ g b, e = .returned (.tuple #[.pointer (some ⟨g, 0, none⟩), .int .i64 0]) ∧ RgIs w.heap.size w' g b none 0 4 (badsL [3]) [] ∧ Below w.heap.size w w' ∧ w.heap.size ≤ w'.heap.size :=
  (new_any (some ⟨w.heap.size, 0, none⟩) [3] 1 4 _ (rd_newN w _ 1 1 _ #[.int .i64 3] rfl rfl) (by simp)).mono fun e w' hx => by
    obtain ⟨g, b, h1, h2⟩ := hx.1 aw_m
    have hb := below_trans (gr1 _ _) hx.2.2
    exact ⟨g, b, h1, h2.lower (by simp), hb, hb.size⟩
theorem aw_voices {base : Nat} {w : World} {g b : Nat} {A : Option Addr} {c : Nat} {n : Int} {bad : List Bool} (hR : RgIs base w g b A c n bad [⟨0, 2, 0, 0, 0⟩]) (W : World) (h : Nat) (hh : w.heap.size = h) (hW : W = w.alloc (.cells #[.int .i64 0, .int .i64 2, .int .i64 0, .int .i64 0, .int .i64 0, .int .i64 2, .int .i64 2, .int .i64 0, .int .i64 0, .int .i64 0] 25)) :
    Calls Try.prog 10 #[.pointer (some ⟨g, 0, none⟩), .slice (some ⟨h, 0, none⟩) 2 2, .agg #[.int .i64 0, .int .i64 2, .int .i64 0, .int .i64 0, .int .i64 0]] W fun e w' =>
      ∃ i cap, e = .returned (.slice (some ⟨i, 0, none⟩) 1 cap) ∧ w'.cell? ⟨i, 0, none⟩ = some (.int .i64 0) ∧ RgIs base w' g b A c n bad [⟨0, 2, 0, 0, 0⟩] ∧ Below w.heap.size w w' := by
  subst hW hh
  have h := voices_any (hR.below (gr1 w (.cells #[.int .i64 0, .int .i64 2, .int .i64 0, .int .i64 0, .int .i64 0, .int .i64 2, .int .i64 2, .int .i64 0, .int .i64 0, .int .i64 0] 25))) (by intro s hs; simp at hs; subst hs; simp) (some ⟨w.heap.size, 0, none⟩) [⟨0, 2, 0, 0, 0⟩, ⟨2, 2, 0, 0, 0⟩] 2 (rd_newN w _ 5 2 _ _ rfl rfl) (by simp) (by intro s hs; simp at hs; rcases hs with rfl | rfl; exact ok0; exact ok3) 0 2 0 0 0
  rw [aw_v] at h
  refine h.mono fun e w' hx => ?_
  obtain ⟨A', cap, h1, h2, h3⟩ := hx
  obtain ⟨i, cap2, e1, h5, h6⟩ := h2.form (by simp)
  injection e1 with e1 _ _
  subst e1
  have hb := below_trans (gr1 _ _) h3
  refine ⟨i, cap, h1, ?_, hR.below hb, hb⟩
  obtain ⟨b1, o1, e1, _, hc⟩ := Ns.cell (l := [0]) (Rd.of_own h2) (by simp)
  injection e1 with e1; injection e1 with e1 e2; subst e1 e2
  exact hc 0 (by simp)
set_option maxHeartbeats 4000000 in
theorem awake_any (w : World) : Calls Try.prog 12 #[] w fun e w' => e = .returned (.bool true) ∧ Below w.heap.size w w' := by
  go_enter Try.func12, Try.ntmps12
  go_wp2_with (first
    | (go_at_call 20; refine (count_any HR7.out).mono ?_; rintro e w8 ⟨rfl, rfl⟩)
    | (go_at_call 15; refine (has_any HR6.out ok0).mono ?_; rintro e w7 ⟨hh, hb7⟩; rw [aw_has] at hh; obtain rfl := hh; have HR7 := hide (HR6.out.below hb7); have HB7 := hide (below_trans HB6.out hb7); clear hb7)
    | (go_at_call 10; refine (aw_voices HR5.out _ _ rfl rfl).mono ?_; rintro e w6 ⟨i6, c6, rfl, hc6, hR6, hb6⟩; have HR6 := hide hR6; have HB6 := hide (below_trans HB5.out hb6); clear hR6 hb6)
    | (go_at_call 8; refine (say_in 3 ⟨0, 0, 0, 0, 0⟩ 19 _ HR4.out HB4.out HS4.out (Nat.le_refl _) ok2 aw_e3 aw_l3).mono ?_; rintro e w5 ⟨rfl, ⟨A5, c5, hR5⟩, hb5, hs5⟩; have HR5 := hide hR5; have HB5 := hide hb5; have HS5 := hide hs5; clear hR5 hb5 hs5)
    | (go_at_call 8; refine (say_in 0 ⟨1, 0, 0, 0, 0⟩ 19 _ HR3.out HB3.out HS3.out (Nat.le_refl _) ok1 aw_e2 aw_l2).mono ?_; rintro e w4 ⟨rfl, ⟨A4, c4, hR4⟩, hb4, hs4⟩; have HR4 := hide hR4; have HB4 := hide hb4; have HS4 := hide hs4; clear hR4 hb4 hs4)
    | (go_at_call 8; refine (say_in 0 ⟨0, 2, 0, 0, 0⟩ 0 _ HR2.out HB2.out HS2.out (Nat.le_refl _) ok0 aw_e1 aw_l1).mono ?_; rintro e w3 ⟨rfl, ⟨A3, c3, hR3⟩, hb3, hs3⟩; have HR3 := hide hR3; have HB3 := hide hb3; have HS3 := hide hs3; clear hR3 hb3 hs3)
    | (go_at_call 16; refine (aw_new w).mono ?_; rintro e w2 ⟨g, b, rfl, hR2, hb2, hs2⟩; have HR2 := hide hR2; have HB2 := hide hb2; have HS2 := hide hs2; clear hR2 hb2 hs2))
  go_ret
  exact ⟨rfl, HB7.out⟩
end Go.Proofs.Ytllfdnfiicnmiaa
