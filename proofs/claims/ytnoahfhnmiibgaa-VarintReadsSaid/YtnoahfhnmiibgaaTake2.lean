/-
  The reference's reader: numbers, bytes, flags, its end.
-/
import Derived.Test.YtnoahfhnmiibgaaTake
namespace Go.Proofs.Ytnoahfhnmiibgaa
open Go.RowKit
set_option linter.unusedSimpArgs false
set_option linter.unusedVariables false

set_option maxHeartbeats 1000000 in
theorem tknum_any (g : Nat) (l : List UInt8) (p e most : Nat) (w : World) (h : Tk w g l p e) :
    Calls Try.prog 33 #[.pointer (some ⟨g, 0, none⟩), .int .u64 most] w fun en w' => en = .returned (.int .u64 ((oV e (numE (l.drop p) most) (cut (l.drop p)).1 0 : Nat) : Int)) ∧
      Tk w' g l (oP e (numE (l.drop p) most) p (cut (l.drop p)).2.1) (oE e (numE (l.drop p) most)) ∧ w.grownBy w' (some g) := by
  have hc0 : w.cell? ⟨g, 0, none⟩ = some (.string ⟨l.toArray⟩) := h.1.cell 0
  have hc1 : w.cell? ⟨g, 1, none⟩ = some (.int .i64 p) := h.1.cell 1
  have hc2 : w.cell? ⟨g, 2, none⟩ = some (.int .i64 e) := h.1.cell 2
  have hf1 := h.1.free 1
  have hf2 := h.1.free 2
  by_cases he : e = 0
  · subst he
    have hl := h.2.1
    have hp := h.2.2.1
    have hsl := fun w => run_strCutL Try.underlying9 l p hp (p : Int) rfl w (P := Try.prog)
    have hd : (l.drop p).length ≤ 34359738368 := by rw [List.length_drop]; omega
    have hcut := fun w => rcut_any (l.drop p) w hd
    have hnn := cut_n (l.drop p)
    rw [List.length_drop] at hnn
    have hN : (cut (l.drop p)).2.2 = 0 ∧ most < (cut (l.drop p)).1 ∧ numE (l.drop p) most = 8 ∨ (cut (l.drop p)).2.2 = 0 ∧ ¬ most < (cut (l.drop p)).1 ∧ numE (l.drop p) most = 0 ∨ (cut (l.drop p)).2.2 ≠ 0 ∧ numE (l.drop p) most = (cut (l.drop p)).2.2 := by
      by_cases h0 : (cut (l.drop p)).2.2 = 0
      · by_cases h1 : most < (cut (l.drop p)).1
        · exact .inl ⟨h0, h1, if_pos ⟨h0, h1⟩⟩
        · exact .inr (.inl ⟨h0, h1, by unfold numE; rw [if_neg (fun x => h1 x.2), h0]⟩)
      · exact .inr (.inr ⟨h0, if_neg (fun x => h0 x.1)⟩)
    obtain ⟨n, hn⟩ : ∃ n, (cut (l.drop p)).2.1 = n := ⟨_, rfl⟩
    obtain ⟨er, her⟩ : ∃ er, (cut (l.drop p)).2.2 = er := ⟨_, rfl⟩
    obtain ⟨v, hv⟩ : ∃ v, (cut (l.drop p)).1 = v := ⟨_, rfl⟩
    obtain ⟨E, hE⟩ : ∃ E, numE (l.drop p) most = E := ⟨_, rfl⟩
    simp only [hn, her, hv, hE] at hcut hN hnn ⊢
    have HC := hide hcut; clear hcut
    clear hn her hv hE
    rcases hN with ⟨rfl, h1, rfl⟩ | ⟨rfl, h1, rfl⟩ | ⟨h0, rfl⟩
    · have h1' : (most : Int) < (v : Int) := by omega
      go_enter Try.func33, Try.ntmps33
      go_wp2_with fail
      go_quiet ((go_at_call 16; exact Calls.quiet_of_same ((HC.out _).mono fun _ _ x => ⟨x.1, x.2.symm⟩)))
      go_wp2_with fail
      go_ret
      rw [oV_no _ _ (by omega), oP_no _ _ (by omega)]
      refine ⟨rfl, ⟨?_, hl, hp, by show 8 ≤ 30; omega⟩, only_set (only_drewN (.refl _ _) _) _ _⟩
      have := (h.1.drewN nq).set_ 2 (.int .i64 8)
      simpa [tkCells, oE] using this
    · have h1' : ¬ (most : Int) < (v : Int) := by omega
      have hpn : (p : Int) + (n : Int) ≤ 34359738368 := by omega
      go_enter Try.func33, Try.ntmps33
      go_wp2_with fail
      go_quiet ((go_at_call 16; exact Calls.quiet_of_same ((HC.out _).mono fun _ _ x => ⟨x.1, x.2.symm⟩)))
      go_wp2_with fail
      go_ret
      refine ⟨rfl, ⟨?_, hl, by show p + n ≤ _; omega, by show 0 ≤ 30; omega⟩, only_set (only_drewN (.refl _ _) _) _ _⟩
      have := (h.1.drewN nq).set_ 1 (.int .i64 ((p + n : Nat) : Int))
      simpa [tkCells, oE, oP] using this
    · have h0' : ((E : Int) == 0) = false := by rw [beq_eq_false_iff_ne]; omega
      have h0'' : ((E : Int) != 0) = true := by rw [bne_iff_ne]; omega
      have H0 := hide h0; clear h0
      go_enter Try.func33, Try.ntmps33
      go_wp2_with fail
      go_quiet ((go_at_call 16; exact Calls.quiet_of_same ((HC.out _).mono fun _ _ x => ⟨x.1, x.2.symm⟩)))
      go_wp2_with fail
      go_ret
      rw [oP_no _ _ (fun x => H0.out x.2)]
      refine ⟨by rw [oV_no _ _ (fun x => H0.out x.2)]; rfl, ⟨?_, hl, hp, by show E ≤ 30; omega⟩, only_set (only_drewN (.refl _ _) _) _ _⟩
      have := (h.1.drewN nq).set_ 2 (.int .i64 E)
      simpa [tkCells, oE] using this
  · have he' : ((e : Int) != 0) = true := by rw [bne_iff_ne]; omega
    have HE := hide he; clear he
    go_enter Try.func33, Try.ntmps33
    go_wp2_with fail
    go_ret
    rw [oP_no _ _ (fun x => HE.out x.1), oE_no _ HE.out]
    exact ⟨by rw [oV_no _ _ (fun x => HE.out x.1)]; rfl, h, .refl _ _⟩

theorem oneV_drop (l : List UInt8) (p : Nat) (hp : p < l.length) : oneV (l.drop p) = l[p].toNat := by
  rw [List.drop_eq_getElem_cons hp]; rfl

set_option maxHeartbeats 1000000 in
theorem tkbyte_any (g : Nat) (l : List UInt8) (p e : Nat) (w : World) (h : Tk w g l p e) :
    Calls Try.prog 39 #[.pointer (some ⟨g, 0, none⟩)] w fun en w' => en = .returned (.int .u8 ((oV e (oneE (l.drop p)) (oneV (l.drop p)) 0 : Nat) : Int)) ∧
      Tk w' g l (oP e (oneE (l.drop p)) p (oneN (l.drop p))) (oE e (oneE (l.drop p))) ∧ w.grownBy w' (some g) := by
  have hc0 : w.cell? ⟨g, 0, none⟩ = some (.string ⟨l.toArray⟩) := h.1.cell 0
  have hc1 : w.cell? ⟨g, 1, none⟩ = some (.int .i64 p) := h.1.cell 1
  have hc2 : w.cell? ⟨g, 2, none⟩ = some (.int .i64 e) := h.1.cell 2
  have hf1 := h.1.free 1
  have hf2 := h.1.free 2
  by_cases he : e = 0
  · subst he
    have hl := h.2.1
    have hp := h.2.2.1
    by_cases h1 : p < l.length
    · have h1' : (p : Int) < (l.length : Int) := by omega
      have hlen : (l.drop p).length ≠ 0 := by rw [List.length_drop]; omega
      have F : oneE (l.drop p) = 0 ∧ oneN (l.drop p) = 1 := ⟨if_neg hlen, if_neg hlen⟩
      rw [F.1, F.2, oV_yes, oneV_drop l p h1]
      obtain ⟨d, hd⟩ : ∃ d : Nat, d = l[p].toNat := ⟨_, rfl⟩
      rw [← hd]
      have hix := fun w => run_strIdx Try.underlying9 l p h1 d hd (p : Int) rfl w (P := Try.prog)
      have hb1 : ∀ n, ((w.drewN n).setCell ⟨g, 1, none⟩ (.int .i64 ((p : Int) + 1))).cell? ⟨g, 1, none⟩ = some (.int .i64 ((p : Int) + 1)) := fun n => by have := (((h.1.drewN n).set_ 1 (.int .i64 ((p : Int) + 1))).cell 1); rw [this]; rfl
      have hb0 : ∀ n, ((w.drewN n).setCell ⟨g, 1, none⟩ (.int .i64 ((p : Int) + 1))).cell? ⟨g, 0, none⟩ = some (.string ⟨l.toArray⟩) := fun n => by have := (((h.1.drewN n).set_ 1 (.int .i64 ((p : Int) + 1))).cell 0); rw [this]; rfl
      clear hd hlen F
      go_enter Try.func39, Try.ntmps39
      go_wp2_with fail
      go_quiet (fail)
      go_wp2_with fail
      go_quiet (fail)
      go_wp2_with fail
      go_ret
      have hS := fun n m => ((h.1.drewN n).set_ 1 (.int .i64 ((p + 1 : Nat) : Int))).drewN m
      exact ⟨rfl, ⟨by simpa [tkCells, oE, oP] using hS _ _, hl, by show p + 1 ≤ _; omega, by show 0 ≤ 30; omega⟩, only_drewN (only_set (only_drewN (.refl _ _) _) _ _) _⟩
    · have h1' : ¬ (p : Int) < (l.length : Int) := by omega
      have hlen : (l.drop p).length = 0 := by rw [List.length_drop]; omega
      have F : oneE (l.drop p) = 2 := if_pos hlen
      rw [F, oV_no _ _ (by omega), oP_no _ _ (by omega)]
      clear F hlen
      go_enter Try.func39, Try.ntmps39
      go_wp2_with fail
      go_quiet (fail)
      go_wp2_with fail
      go_ret
      refine ⟨rfl, ⟨?_, hl, hp, by show 2 ≤ 30; omega⟩, only_set (only_drewN (.refl _ _) _) _ _⟩
      have := (h.1.drewN nq).set_ 2 (.int .i64 2)
      simpa [tkCells, oE] using this
  · have he' : ((e : Int) != 0) = true := by rw [bne_iff_ne]; omega
    have HE := hide he; clear he
    go_enter Try.func39, Try.ntmps39
    go_wp2_with fail
    go_ret
    rw [oP_no _ _ (fun x => HE.out x.1), oE_no _ HE.out]
    exact ⟨by rw [oV_no _ _ (fun x => HE.out x.1)]; rfl, h, .refl _ _⟩

theorem flag_low (l : List UInt8) (p e : Nat) (h : ¬ (e = 0 ∧ (l.drop p).length ≠ 0 ∧ 1 < oneV (l.drop p))) : oV e (flagE (l.drop p)) (oneV (l.drop p) == 1) false = (oV e (oneE (l.drop p)) (oneV (l.drop p)) 0 == 1) ∧ oP e (flagE (l.drop p)) p (oneN (l.drop p)) = oP e (oneE (l.drop p)) p (oneN (l.drop p)) ∧ oE e (flagE (l.drop p)) = oE e (oneE (l.drop p)) := by
  by_cases h0 : e = 0
  · have e1 : flagE (l.drop p) = oneE (l.drop p) := by
      unfold flagE oneE
      split
      · rfl
      · rename_i hl; rw [if_neg (fun x => h ⟨h0, hl, x⟩)]
    rw [e1]
    refine ⟨?_, rfl, rfl⟩
    subst h0
    by_cases h2 : oneE (l.drop p) = 0
    · rw [h2]; rfl
    · rw [oV_no _ _ (by omega), oV_no _ _ (by omega)]; rfl
  · rw [oV_no _ _ (by omega), oV_no _ _ (by omega), oP_no _ _ (by omega), oP_no _ _ (by omega), oE_no _ h0, oE_no _ h0]
    exact ⟨rfl, rfl, rfl⟩

set_option maxHeartbeats 1000000 in
theorem tkflag_any (g : Nat) (l : List UInt8) (p e : Nat) (w : World) (h : Tk w g l p e) :
    Calls Try.prog 41 #[.pointer (some ⟨g, 0, none⟩)] w fun en w' => en = .returned (.bool (oV e (flagE (l.drop p)) (oneV (l.drop p) == 1) false)) ∧
      Tk w' g l (oP e (flagE (l.drop p)) p (oneN (l.drop p))) (oE e (flagE (l.drop p))) ∧ w.grownBy w' (some g) := by
  have hc0 : w.cell? ⟨g, 0, none⟩ = some (.string ⟨l.toArray⟩) := h.1.cell 0
  have hc1 : w.cell? ⟨g, 1, none⟩ = some (.int .i64 p) := h.1.cell 1
  have hc2 : w.cell? ⟨g, 2, none⟩ = some (.int .i64 e) := h.1.cell 2
  have hf2 := h.1.free 2
  have hl := h.2.1
  have hp := h.2.2.1
  by_cases he : e = 0
  · subst he
    by_cases h1 : p < l.length
    · have h1' : (p : Int) < (l.length : Int) := by omega
      have hlen : (l.drop p).length ≠ 0 := by rw [List.length_drop]; omega
      obtain ⟨d, hd⟩ : ∃ d : Nat, d = l[p].toNat := ⟨_, rfl⟩
      have hix := fun w => run_strIdx Try.underlying9 l p h1 d hd (p : Int) rfl w (P := Try.prog)
      have hov := oneV_drop l p h1
      rw [← hd] at hov
      by_cases h2 : 1 < d
      · have h2' : (1 : Int) < (d : Int) := by omega
        have F : flagE (l.drop p) = 3 := by unfold flagE; rw [if_neg hlen, if_pos (by omega)]
        rw [F, oV_no _ _ (by omega), oP_no _ _ (by omega)]
        have hT : ∀ n, Tk ((w.drewN n).setCell ⟨g, 2, none⟩ (.int .i64 3)) g l p 3 := fun n => ⟨by have := (h.1.drewN n).set_ 2 (.int .i64 3); simpa [tkCells] using this, hl, hp, by omega⟩
        have hB := fun n => tkbyte_any g l p 3 _ (hT n)
        simp only [oV_no _ _ (show ¬ ((3:Nat) = 0 ∧ oneE (l.drop p) = 0) by omega), oP_no _ _ (show ¬ ((3:Nat) = 0 ∧ oneE (l.drop p) = 0) by omega), oE_no _ (show ¬ ((3:Nat) = 0) by omega)] at hB
        have HB := hide hB; clear hB hT hov hd F hlen
        go_enter Try.func41, Try.ntmps41
        go_wp2_with fail
        go_quiet (fail)
        go_wp2_with fail
        refine (HB.out _).mono ?_
        rintro en w1 ⟨rfl, hR, hG⟩
        go_wp2_with fail
        go_ret
        exact ⟨rfl, hR, (only_set (only_drewN (.refl _ _) _) _ _).trans hG⟩
      · have h2' : ¬ (1 : Int) < (d : Int) := by omega
        obtain ⟨e1, e2, e3⟩ := flag_low l p 0 (by omega)
        rw [e1, e2, e3]
        have hB := fun n => tkbyte_any g l p 0 (w.drewN n) ⟨h.1.drewN n, h.2⟩
        generalize oV 0 (oneE (l.drop p)) (oneV (l.drop p)) 0 = x at hB ⊢
        obtain ⟨b, hb1, hb2⟩ : ∃ b, ((x : Int) == 1) = b ∧ (x == 1) = b := ⟨_, rfl, by rw [Bool.eq_iff_iff, beq_iff_eq, beq_iff_eq]; omega⟩
        rw [hb2]
        have HB := hide hB; clear hB e1 e2 e3 hov hd hb2
        go_enter Try.func41, Try.ntmps41
        go_wp2_with fail
        go_quiet (fail)
        go_wp2_with fail
        refine (HB.out _).mono ?_
        rintro en w1 ⟨rfl, hR, hG⟩
        go_wp2_with fail
        go_ret
        exact ⟨rfl, hR, (only_drewN (.refl _ _) _).trans hG⟩
    · have h1' : ¬ (p : Int) < (l.length : Int) := by omega
      have hlen : (l.drop p).length = 0 := by rw [List.length_drop]; omega
      obtain ⟨e1, e2, e3⟩ := flag_low l p 0 (fun x => x.2.1 hlen)
      rw [e1, e2, e3]
      have hB := fun n => tkbyte_any g l p 0 (w.drewN n) ⟨h.1.drewN n, h.2⟩
      generalize oV 0 (oneE (l.drop p)) (oneV (l.drop p)) 0 = x at hB ⊢
      obtain ⟨b, hb1, hb2⟩ : ∃ b, ((x : Int) == 1) = b ∧ (x == 1) = b := ⟨_, rfl, by rw [Bool.eq_iff_iff, beq_iff_eq, beq_iff_eq]; omega⟩
      rw [hb2]
      have HB := hide hB; clear hB e1 e2 e3 hb2 hlen
      go_enter Try.func41, Try.ntmps41
      go_wp2_with fail
      go_quiet (fail)
      go_wp2_with fail
      refine (HB.out _).mono ?_
      rintro en w1 ⟨rfl, hR, hG⟩
      go_wp2_with fail
      go_ret
      exact ⟨rfl, hR, (only_drewN (.refl _ _) _).trans hG⟩
  · have he' : ((e : Int) == 0) = false := by rw [beq_eq_false_iff_ne]; omega
    obtain ⟨e1, e2, e3⟩ := flag_low l p e (fun x => he x.1)
    rw [e1, e2, e3]
    have hB := fun n => tkbyte_any g l p e (w.drewN n) ⟨h.1.drewN n, h.2⟩
    generalize oV e (oneE (l.drop p)) (oneV (l.drop p)) 0 = x at hB ⊢
    obtain ⟨b, hb1, hb2⟩ : ∃ b, ((x : Int) == 1) = b ∧ (x == 1) = b := ⟨_, rfl, by rw [Bool.eq_iff_iff, beq_iff_eq, beq_iff_eq]; omega⟩
    rw [hb2]
    have HB := hide hB; clear hB e1 e2 e3 hb2
    go_enter Try.func41, Try.ntmps41
    go_wp2_with fail
    go_quiet (fail)
    go_wp2_with fail
    refine (HB.out _).mono ?_
    rintro en w1 ⟨rfl, hR, hG⟩
    go_wp2_with fail
    go_ret
    exact ⟨rfl, hR, (only_drewN (.refl _ _) _).trans hG⟩

set_option maxHeartbeats 400000 in
theorem tkend_any (g : Nat) (l : List UInt8) (p e : Nat) (w : World) (h : Tk w g l p e) :
    Calls Try.prog 45 #[.pointer (some ⟨g, 0, none⟩)] w fun en w' => en = .returned (.tuple #[.int .i64 (endE e p l.length), .int .i64 (endP e p l.length)]) ∧ ∃ k, w' = w.drewN k := by
  have hc0 : w.cell? ⟨g, 0, none⟩ = some (.string ⟨l.toArray⟩) := h.1.cell 0
  have hc1 : w.cell? ⟨g, 1, none⟩ = some (.int .i64 p) := h.1.cell 1
  have hc2 : w.cell? ⟨g, 2, none⟩ = some (.int .i64 e) := h.1.cell 2
  by_cases he : e = 0
  · have he' : ((e : Int) == 0) = true := by rw [he]; rfl
    by_cases hl : p < l.length
    · have hl' : (p : Int) < (l.length : Int) := by omega
      have HF := hide (show endE e p l.length = 7 ∧ endP e p l.length = p from ⟨if_pos ⟨he, hl⟩, if_pos ⟨he, hl⟩⟩)
      have HE := hide he; clear he
      go_enter Try.func45, Try.ntmps45
      go_wp2_with fail
      go_quiet (fail)
      go_wp2_with fail
      go_quiet (fail)
      go_wp2_with fail
      go_ret2
      rw [HF.out.1, HF.out.2]; exact ⟨rfl, _, by rw [World.drewN_drewN]⟩
    · have hl' : ¬ (p : Int) < (l.length : Int) := by omega
      have HF := hide (show endE e p l.length = 0 ∧ endP e p l.length = 0 from ⟨by unfold endE; rw [if_neg (fun x => hl x.2), he], by unfold endP; rw [if_neg (fun x => hl x.2), if_pos he]⟩)
      have HE := hide he; clear he
      go_enter Try.func45, Try.ntmps45
      go_wp2_with fail
      go_quiet (fail)
      go_wp2_with fail
      go_ret2
      rw [HF.out.1, HF.out.2]; exact ⟨rfl, _, rfl⟩
  · have he' : ((e : Int) == 0) = false := by rw [beq_eq_false_iff_ne]; omega
    have HF := hide (show endE e p l.length = e ∧ endP e p l.length = p from ⟨if_neg (fun x => he x.1), by unfold endP; rw [if_neg (fun x => he x.1), if_neg he]⟩)
    go_enter Try.func45, Try.ntmps45
    go_wp2_with fail
    go_quiet (fail)
    go_wp2_with fail
    go_quiet (fail)
    go_wp2_with fail
    go_ret2
    rw [HF.out.1, HF.out.2]; exact ⟨rfl, _, by rw [World.drewN_drewN]⟩
end Go.Proofs.Ytnoahfhnmiibgaa
