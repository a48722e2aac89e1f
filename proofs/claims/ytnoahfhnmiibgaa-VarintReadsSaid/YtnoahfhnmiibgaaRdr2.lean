/-
  The walks of varint.Reader's steps: one for each kind that is read.
-/
import Derived.Test.YtnoahfhnmiibgaaRdr
namespace Go.Proofs.Ytnoahfhnmiibgaa
open Go.RowKit
set_option linter.unusedSimpArgs false
set_option linter.unusedVariables false

set_option maxHeartbeats 1000000 in
theorem step_num (g : Nat) (A : Option Addr) (l : List UInt8) (c p e : Nat) (w : World) (h : Rdr w g A l c p e) (m : Nat) (V : Nat) (n err : Nat) (hn : p + n ≤ l.length) (herr : err ≤ 30)
    (hcut : ∀ k, Calls Try.prog 51 #[.slice (cutA A c p 1) (l.length - p) (c - p), .pointer (some ⟨m, 0, none⟩)] (w.drewN k) fun en w' => en = .returned (.tuple #[.int .u64 V, .int .i64 n, .int .i64 err]) ∧ w.drewN k = w') :
    Calls Try.prog 50 #[.pointer (some ⟨g, 0, none⟩), .func (.func 51) #[] #[.pointer (some ⟨m, 0, none⟩)]] w fun en w' => en = .returned (.int .u64 ((oV e err V 0 : Nat) : Int)) ∧ Rdr w' g A l c (oP e err p n) (oE e err) ∧ w.grownBy w' (some g) := by
  have hc1 : w.cell? ⟨g, 1, none⟩ = some (.int .i64 p) := h.1.cell 1
  have hf1 := h.1.free 1
  have hc2 : w.cell? ⟨g, 2, none⟩ = some (.int .i64 e) := h.1.cell 2
  have hp := h.2.2.2.2.2.1
  have hlc := h.2.2.2.2.1
  by_cases he : e = 0
  · subst he
    have hcut0 := hide hcut; clear hcut
    by_cases her : err = 0
    · subst her
      have hpn : (p : Int) + (n : Int) ≤ 34359738368 := by omega
      have hc1k : ∀ k, (w.drewN k).cell? ⟨g, 1, none⟩ = some (.int .i64 p) := fun _ => hc1
      have hf1k : ∀ k, (w.drewN k).frozen? ⟨g, 1, none⟩ = false := fun _ => hf1
      go_enter Try.func50, Try.ntmps50
      go_wp2_with fail
      refine (rest_any g A l c p w h).mono ?_
      rintro en w1 ⟨rfl, k, rfl⟩
      go_wp2_with (go_at_call 51; refine (hcut0.out k).mono ?_; rintro en w1 ⟨rfl, rfl⟩)
      go_ret
      refine ⟨rfl, h.next (only_set (only_drewN (.refl _ _) _) _ _) ?_ (by simp only [oP, if_pos, and_self]; omega) (by simp [oE]), only_set (only_drewN (.refl _ _) _) _ _⟩
      have := ((h.1.drewN k).set_ 1 (.int .i64 ((p + n : Nat) : Int)))
      simpa [oP, oE, rdCells] using this
    · have her' : ((err : Int) != 0) = true := by rw [bne_iff_ne]; omega
      have HER := hide her; clear her
      go_enter Try.func50, Try.ntmps50
      go_wp2_with fail
      refine (rest_any g A l c p w h).mono ?_
      rintro en w1 ⟨rfl, k, rfl⟩
      go_wp2_with fail
      refine (hcut0.out k).mono ?_
      rintro en w1 ⟨rfl, rfl⟩
      go_wp2_with fail
      refine (fail_any g A l c p 0 err herr (w.drewN k) ⟨h.1.drewN k, h.2⟩).mono ?_
      rintro en w2 ⟨rfl, hR, hG⟩
      go_wp2_with fail
      go_ret
      refine ⟨by rw [oV_no _ _ (fun x => HER.out x.2)]; rfl, ?_, (only_drewN (.refl _ _) k).trans hG⟩
      have e1 : oP 0 err p n = p := by unfold oP; rw [if_neg (fun x => HER.out x.2)]
      have e2 : oE 0 err = err := rfl
      rw [e1, e2]; exact hR
  · have he' : ((e : Int) != 0) = true := by rw [bne_iff_ne]; omega
    have HE := hide he; clear he
    go_enter Try.func50, Try.ntmps50
    go_wp2_with fail
    go_ret
    have e1 : oP e err p n = p := by unfold oP; rw [if_neg (fun x => HE.out x.1)]
    have e2 : oE e err = e := by unfold oE; rw [if_neg HE.out]
    rw [e1, e2]
    exact ⟨by rw [oV_no _ _ (fun x => HE.out x.1)]; rfl, h, .refl _ _⟩

set_option maxHeartbeats 1000000 in
theorem step_int (g : Nat) (A : Option Addr) (l : List UInt8) (c p e : Nat) (w : World) (h : Rdr w g A l c p e) (V : Int) (n err : Nat) (hn : p + n ≤ l.length) (herr : err ≤ 30)
    (hcut : ∀ k, Calls Try.prog 15 #[.slice (cutA A c p 1) (l.length - p) (c - p)] (w.drewN k) fun en w' => en = .returned (.tuple #[.int .i64 V, .int .i64 n, .int .i64 err]) ∧ w.drewN k = w') :
    Calls Try.prog 52 #[.pointer (some ⟨g, 0, none⟩), .func (.func 15) #[] #[]] w fun en w' => en = .returned (.int .i64 (oV e err V 0 : Int)) ∧ Rdr w' g A l c (oP e err p n) (oE e err) ∧ w.grownBy w' (some g) := by
  have hc1 : w.cell? ⟨g, 1, none⟩ = some (.int .i64 p) := h.1.cell 1
  have hf1 := h.1.free 1
  have hc2 : w.cell? ⟨g, 2, none⟩ = some (.int .i64 e) := h.1.cell 2
  have hp := h.2.2.2.2.2.1
  have hlc := h.2.2.2.2.1
  by_cases he : e = 0
  · subst he
    have hcut0 := hide hcut; clear hcut
    by_cases her : err = 0
    · subst her
      have hpn : (p : Int) + (n : Int) ≤ 34359738368 := by omega
      have hc1k : ∀ k, (w.drewN k).cell? ⟨g, 1, none⟩ = some (.int .i64 p) := fun _ => hc1
      have hf1k : ∀ k, (w.drewN k).frozen? ⟨g, 1, none⟩ = false := fun _ => hf1
      go_enter Try.func52, Try.ntmps52
      go_wp2_with fail
      refine (rest_any g A l c p w h).mono ?_
      rintro en w1 ⟨rfl, k, rfl⟩
      go_wp2_with (go_at_call 15; refine (hcut0.out k).mono ?_; rintro en w1 ⟨rfl, rfl⟩)
      go_ret
      refine ⟨rfl, h.next (only_set (only_drewN (.refl _ _) _) _ _) ?_ (by simp only [oP, if_pos, and_self]; omega) (by simp [oE]), only_set (only_drewN (.refl _ _) _) _ _⟩
      have := ((h.1.drewN k).set_ 1 (.int .i64 ((p + n : Nat) : Int)))
      simpa [oP, oE, rdCells] using this
    · have her' : ((err : Int) != 0) = true := by rw [bne_iff_ne]; omega
      have HER := hide her; clear her
      go_enter Try.func52, Try.ntmps52
      go_wp2_with fail
      refine (rest_any g A l c p w h).mono ?_
      rintro en w1 ⟨rfl, k, rfl⟩
      go_wp2_with fail
      refine (hcut0.out k).mono ?_
      rintro en w1 ⟨rfl, rfl⟩
      go_wp2_with fail
      refine (fail_any g A l c p 0 err herr (w.drewN k) ⟨h.1.drewN k, h.2⟩).mono ?_
      rintro en w2 ⟨rfl, hR, hG⟩
      go_wp2_with fail
      go_ret
      refine ⟨by rw [oV_no _ _ (fun x => HER.out x.2)]; rfl, ?_, (only_drewN (.refl _ _) k).trans hG⟩
      have e1 : oP 0 err p n = p := by unfold oP; rw [if_neg (fun x => HER.out x.2)]
      have e2 : oE 0 err = err := rfl
      rw [e1, e2]; exact hR
  · have he' : ((e : Int) != 0) = true := by rw [bne_iff_ne]; omega
    have HE := hide he; clear he
    go_enter Try.func52, Try.ntmps52
    go_wp2_with fail
    go_ret
    have e1 : oP e err p n = p := by unfold oP; rw [if_neg (fun x => HE.out x.1)]
    have e2 : oE e err = e := by unfold oE; rw [if_neg HE.out]
    rw [e1, e2]
    exact ⟨by rw [oV_no _ _ (fun x => HE.out x.1)]; rfl, h, .refl _ _⟩

set_option maxHeartbeats 1000000 in
theorem step_text (g : Nat) (A : Option Addr) (l : List UInt8) (c p e : Nat) (w : World) (h : Rdr w g A l c p e) (V : List UInt8) (n err : Nat) (hn : p + n ≤ l.length) (herr : err ≤ 30)
    (hcut : ∀ k, Calls Try.prog 23 #[.slice (cutA A c p 1) (l.length - p) (c - p)] (w.drewN k) fun en w' => en = .returned (.tuple #[.string ⟨V.toArray⟩, .int .i64 n, .int .i64 err]) ∧ w.drewN k = w') :
    Calls Try.prog 53 #[.pointer (some ⟨g, 0, none⟩), .func (.func 23) #[] #[]] w fun en w' => en = .returned (.string ⟨(oV e err V []).toArray⟩) ∧ Rdr w' g A l c (oP e err p n) (oE e err) ∧ w.grownBy w' (some g) := by
  have hc1 : w.cell? ⟨g, 1, none⟩ = some (.int .i64 p) := h.1.cell 1
  have hf1 := h.1.free 1
  have hc2 : w.cell? ⟨g, 2, none⟩ = some (.int .i64 e) := h.1.cell 2
  have hp := h.2.2.2.2.2.1
  have hlc := h.2.2.2.2.1
  by_cases he : e = 0
  · subst he
    have hcut0 := hide hcut; clear hcut
    by_cases her : err = 0
    · subst her
      have hpn : (p : Int) + (n : Int) ≤ 34359738368 := by omega
      have hc1k : ∀ k, (w.drewN k).cell? ⟨g, 1, none⟩ = some (.int .i64 p) := fun _ => hc1
      have hf1k : ∀ k, (w.drewN k).frozen? ⟨g, 1, none⟩ = false := fun _ => hf1
      go_enter Try.func53, Try.ntmps53
      go_wp2_with fail
      refine (rest_any g A l c p w h).mono ?_
      rintro en w1 ⟨rfl, k, rfl⟩
      go_wp2_with (go_at_call 23; refine (hcut0.out k).mono ?_; rintro en w1 ⟨rfl, rfl⟩)
      go_ret
      refine ⟨rfl, h.next (only_set (only_drewN (.refl _ _) _) _ _) ?_ (by simp only [oP, if_pos, and_self]; omega) (by simp [oE]), only_set (only_drewN (.refl _ _) _) _ _⟩
      have := ((h.1.drewN k).set_ 1 (.int .i64 ((p + n : Nat) : Int)))
      simpa [oP, oE, rdCells] using this
    · have her' : ((err : Int) != 0) = true := by rw [bne_iff_ne]; omega
      have HER := hide her; clear her
      go_enter Try.func53, Try.ntmps53
      go_wp2_with fail
      refine (rest_any g A l c p w h).mono ?_
      rintro en w1 ⟨rfl, k, rfl⟩
      go_wp2_with fail
      refine (hcut0.out k).mono ?_
      rintro en w1 ⟨rfl, rfl⟩
      go_wp2_with fail
      refine (fail_any g A l c p 0 err herr (w.drewN k) ⟨h.1.drewN k, h.2⟩).mono ?_
      rintro en w2 ⟨rfl, hR, hG⟩
      go_wp2_with fail
      go_ret
      refine ⟨by rw [oV_no _ _ (fun x => HER.out x.2)]; rfl, ?_, (only_drewN (.refl _ _) k).trans hG⟩
      have e1 : oP 0 err p n = p := by unfold oP; rw [if_neg (fun x => HER.out x.2)]
      have e2 : oE 0 err = err := rfl
      rw [e1, e2]; exact hR
  · have he' : ((e : Int) != 0) = true := by rw [bne_iff_ne]; omega
    have HE := hide he; clear he
    go_enter Try.func53, Try.ntmps53
    go_wp2_with fail
    go_ret
    have e1 : oP e err p n = p := by unfold oP; rw [if_neg (fun x => HE.out x.1)]
    have e2 : oE e err = e := by unfold oE; rw [if_neg HE.out]
    rw [e1, e2]
    exact ⟨by rw [oV_no _ _ (fun x => HE.out x.1)]; rfl, h, .refl _ _⟩

set_option maxHeartbeats 1000000 in
theorem step_byte (g : Nat) (A : Option Addr) (l : List UInt8) (c p e : Nat) (w : World) (h : Rdr w g A l c p e) (V : Nat) (n err : Nat) (hn : p + n ≤ l.length) (herr : err ≤ 30)
    (hcut : ∀ k, Calls Try.prog 55 #[.slice (cutA A c p 1) (l.length - p) (c - p)] (w.drewN k) fun en w' => en = .returned (.tuple #[.int .u8 V, .int .i64 n, .int .i64 err]) ∧ w.drewN k = w') :
    Calls Try.prog 54 #[.pointer (some ⟨g, 0, none⟩), .func (.func 55) #[] #[]] w fun en w' => en = .returned (.int .u8 ((oV e err V 0 : Nat) : Int)) ∧ Rdr w' g A l c (oP e err p n) (oE e err) ∧ w.grownBy w' (some g) := by
  have hc1 : w.cell? ⟨g, 1, none⟩ = some (.int .i64 p) := h.1.cell 1
  have hf1 := h.1.free 1
  have hc2 : w.cell? ⟨g, 2, none⟩ = some (.int .i64 e) := h.1.cell 2
  have hp := h.2.2.2.2.2.1
  have hlc := h.2.2.2.2.1
  by_cases he : e = 0
  · subst he
    have hcut0 := hide hcut; clear hcut
    by_cases her : err = 0
    · subst her
      have hpn : (p : Int) + (n : Int) ≤ 34359738368 := by omega
      have hc1k : ∀ k, (w.drewN k).cell? ⟨g, 1, none⟩ = some (.int .i64 p) := fun _ => hc1
      have hf1k : ∀ k, (w.drewN k).frozen? ⟨g, 1, none⟩ = false := fun _ => hf1
      go_enter Try.func54, Try.ntmps54
      go_wp2_with fail
      refine (rest_any g A l c p w h).mono ?_
      rintro en w1 ⟨rfl, k, rfl⟩
      go_wp2_with (go_at_call 55; refine (hcut0.out k).mono ?_; rintro en w1 ⟨rfl, rfl⟩)
      go_ret
      refine ⟨rfl, h.next (only_set (only_drewN (.refl _ _) _) _ _) ?_ (by simp only [oP, if_pos, and_self]; omega) (by simp [oE]), only_set (only_drewN (.refl _ _) _) _ _⟩
      have := ((h.1.drewN k).set_ 1 (.int .i64 ((p + n : Nat) : Int)))
      simpa [oP, oE, rdCells] using this
    · have her' : ((err : Int) != 0) = true := by rw [bne_iff_ne]; omega
      have HER := hide her; clear her
      go_enter Try.func54, Try.ntmps54
      go_wp2_with fail
      refine (rest_any g A l c p w h).mono ?_
      rintro en w1 ⟨rfl, k, rfl⟩
      go_wp2_with fail
      refine (hcut0.out k).mono ?_
      rintro en w1 ⟨rfl, rfl⟩
      go_wp2_with fail
      refine (fail_any g A l c p 0 err herr (w.drewN k) ⟨h.1.drewN k, h.2⟩).mono ?_
      rintro en w2 ⟨rfl, hR, hG⟩
      go_wp2_with fail
      go_ret
      refine ⟨by rw [oV_no _ _ (fun x => HER.out x.2)]; rfl, ?_, (only_drewN (.refl _ _) k).trans hG⟩
      have e1 : oP 0 err p n = p := by unfold oP; rw [if_neg (fun x => HER.out x.2)]
      have e2 : oE 0 err = err := rfl
      rw [e1, e2]; exact hR
  · have he' : ((e : Int) != 0) = true := by rw [bne_iff_ne]; omega
    have HE := hide he; clear he
    go_enter Try.func54, Try.ntmps54
    go_wp2_with fail
    go_ret
    have e1 : oP e err p n = p := by unfold oP; rw [if_neg (fun x => HE.out x.1)]
    have e2 : oE e err = e := by unfold oE; rw [if_neg HE.out]
    rw [e1, e2]
    exact ⟨by rw [oV_no _ _ (fun x => HE.out x.1)]; rfl, h, .refl _ _⟩
end Go.Proofs.Ytnoahfhnmiibgaa
