/-
  The walks of the reference's reader.
-/
import Derived.Test.YtnoahfhnmiibgaaRdr4
namespace Go.Proofs.Ytnoahfhnmiibgaa
open Go.RowKit
set_option linter.unusedSimpArgs false
set_option linter.unusedVariables false

def tkCells (l : List UInt8) (p e : Nat) : Array Value := #[.string ⟨l.toArray⟩, .int .i64 p, .int .i64 e]
def Tk (w : World) (g : Nat) (l : List UInt8) (p e : Nat) : Prop := Blk w g 65 (tkCells l p e) ∧ l.length ≤ 34359738368 ∧ p ≤ l.length ∧ e ≤ 30
theorem oV_yes {α : Type} (v z : α) : oV 0 0 v z = v := rfl
theorem oP_no {e err : Nat} (p n : Nat) (h : ¬ (e = 0 ∧ err = 0)) : oP e err p n = p := if_neg h
theorem oE_no {e : Nat} (err : Nat) (h : ¬ e = 0) : oE e err = e := if_neg h
theorem cutText_err (l : List UInt8) (h : (CutText l).2.2 ≠ 0) : (CutText l).1 = [] ∧ (CutText l).2.1 = 0 := by
  unfold CutText at h ⊢
  split
  · exact ⟨rfl, rfl⟩
  · rename_i h1; rw [if_neg h1] at h
    split
    · exact ⟨rfl, rfl⟩
    · rename_i h2; rw [if_neg h2] at h
      split
      · exact ⟨rfl, rfl⟩
      · rename_i h3; rw [if_neg h3] at h; exact absurd rfl h

set_option maxHeartbeats 400000 in
theorem tkfail_any (g : Nat) (l : List UInt8) (p e : Nat) (x : Nat) (hx : x ≤ 30) (w : World) (h : Tk w g l p e) :
    Calls Try.prog 43 #[.pointer (some ⟨g, 0, none⟩), .int .i64 x] w fun en w' => en = .returned (.tuple #[]) ∧ Tk w' g l p (oE e x) ∧ w.grownBy w' (some g) := by
  have hc2 : w.cell? ⟨g, 2, none⟩ = some (.int .i64 e) := h.1.cell 2
  have hf2 := h.1.free 2
  by_cases he : e = 0
  · have he' : ((e : Int) == 0) = true := by rw [he]; rfl
    have HE := hide he; clear he
    go_enter Try.func43, Try.ntmps43
    go_wp2_with fail
    go_end0
    have e2 : oE e x = x := by unfold oE; rw [if_pos HE.out]
    rw [e2]
    refine ⟨rfl, ⟨?_, h.2.1, h.2.2.1, hx⟩, only_set (.refl _ _) _ _⟩
    have := h.1.set_ 2 (.int .i64 x)
    simpa [tkCells] using this
  · have he' : ((e : Int) == 0) = false := by rw [beq_eq_false_iff_ne]; omega
    go_enter Try.func43, Try.ntmps43
    go_wp2_with fail
    go_end0
    have e2 : oE e x = e := by unfold oE; rw [if_neg he]
    rw [e2]
    exact ⟨rfl, h, .refl _ _⟩

set_option maxHeartbeats 1000000 in
theorem tkint_any (g : Nat) (l : List UInt8) (p e : Nat) (w : World) (h : Tk w g l p e) :
    Calls Try.prog 35 #[.pointer (some ⟨g, 0, none⟩)] w fun en w' => en = .returned (.int .i64 (oV e (cut (l.drop p)).2.2 (zag (cut (l.drop p)).1) 0)) ∧
      Tk w' g l (oP e (cut (l.drop p)).2.2 p (cut (l.drop p)).2.1) (oE e (cut (l.drop p)).2.2) ∧ w.grownBy w' (some g) := by
  have hc0 : w.cell? ⟨g, 0, none⟩ = some (.string ⟨l.toArray⟩) := h.1.cell 0
  have hc1 : w.cell? ⟨g, 1, none⟩ = some (.int .i64 p) := h.1.cell 1
  have hc2 : w.cell? ⟨g, 2, none⟩ = some (.int .i64 e) := h.1.cell 2
  have hf1 := h.1.free 1
  have hf2 := h.1.free 2
  by_cases he : e = 0
  · subst he
    have hl := h.2.1
    have hp := h.2.2.1
    have hsl := fun w => run_strCutL Try.underlying9 l p hp (p : Int) rfl w (P := Try.prog)
    have hd : (l.drop p).length ≤ 34359738368 := by rw [List.length_drop]; omega
    have hcut := fun w => rcutint_any (l.drop p) w hd
    have hnn := cut_n (l.drop p)
    rw [List.length_drop] at hnn
    have hz : (cut (l.drop p)).2.2 ≠ 0 → zag (cut (l.drop p)).1 = 0 ∧ (cut (l.drop p)).2.1 = 0 := fun hx => ⟨by rw [(cut_zero _ hx).1]; rfl, (cut_zero _ hx).2⟩
    obtain ⟨n, hn⟩ : ∃ n, (cut (l.drop p)).2.1 = n := ⟨_, rfl⟩
    obtain ⟨er, her⟩ : ∃ er, (cut (l.drop p)).2.2 = er := ⟨_, rfl⟩
    obtain ⟨v, hv⟩ : ∃ v, zag (cut (l.drop p)).1 = v := ⟨_, rfl⟩
    simp only [hn, her, hv] at hcut hz hnn ⊢
    have hr : ∀ q, q = Exit.ret → True := fun _ _ => trivial
    have ho : oV 0 er v 0 = v ∧ oP 0 er p n = p + n := by
      by_cases h0 : er = 0
      · subst h0; exact ⟨rfl, rfl⟩
      · rw [oV_no _ _ (by omega), oP_no _ _ (by omega), (hz h0).1, (hz h0).2]; exact ⟨rfl, rfl⟩
    rw [ho.1, ho.2]
    have hpn : (p : Int) + (n : Int) ≤ 34359738368 := by omega
    have HC := hide hcut; have HZ := hide hz; have HO := hide ho; clear hcut hz ho hr
    clear hn her hv
    go_enter Try.func35, Try.ntmps35
    go_wp2_with fail
    go_quiet ((go_at_call 17; exact Calls.quiet_of_same ((HC.out _).mono fun _ _ x => ⟨x.1, x.2.symm⟩)))
    go_wp2_with fail
    go_ret
    refine ⟨rfl, ⟨?_, hl, by omega, by show er ≤ 30; omega⟩, only_set (only_set (only_drewN (.refl _ _) _) _ _) _ _⟩
    have := ((h.1.drewN nq).set_ 1 (.int .i64 ((p + n : Nat) : Int))).set_ 2 (.int .i64 er)
    simpa [tkCells, oE] using this
  · have he' : ((e : Int) != 0) = true := by rw [bne_iff_ne]; omega
    have HE := hide he; clear he
    go_enter Try.func35, Try.ntmps35
    go_wp2_with fail
    go_ret
    rw [oP_no _ _ (fun x => HE.out x.1), oE_no _ HE.out]
    exact ⟨by rw [oV_no _ _ (fun x => HE.out x.1)]; rfl, h, .refl _ _⟩

set_option maxHeartbeats 1000000 in
theorem tktext_any (g : Nat) (l : List UInt8) (p e : Nat) (w : World) (h : Tk w g l p e) :
    Calls Try.prog 37 #[.pointer (some ⟨g, 0, none⟩)] w fun en w' => en = .returned (.string ⟨(oV e (CutText (l.drop p)).2.2 (CutText (l.drop p)).1 []).toArray⟩) ∧
      Tk w' g l (oP e (CutText (l.drop p)).2.2 p (CutText (l.drop p)).2.1) (oE e (CutText (l.drop p)).2.2) ∧ w.grownBy w' (some g) := by
  have hc0 : w.cell? ⟨g, 0, none⟩ = some (.string ⟨l.toArray⟩) := h.1.cell 0
  have hc1 : w.cell? ⟨g, 1, none⟩ = some (.int .i64 p) := h.1.cell 1
  have hc2 : w.cell? ⟨g, 2, none⟩ = some (.int .i64 e) := h.1.cell 2
  have hf1 := h.1.free 1
  have hf2 := h.1.free 2
  by_cases he : e = 0
  · subst he
    have hl := h.2.1
    have hp := h.2.2.1
    have hsl := fun w => run_strCutL Try.underlying9 l p hp (p : Int) rfl w (P := Try.prog)
    have hd : (l.drop p).length ≤ 34359738368 := by rw [List.length_drop]; omega
    have hcut := fun w => rcuttext_any (l.drop p) w hd
    have hnn := cutText_n (l.drop p)
    rw [List.length_drop] at hnn
    have hz : (CutText (l.drop p)).2.2 ≠ 0 → (CutText (l.drop p)).1 = [] ∧ (CutText (l.drop p)).2.1 = 0 := fun hx => cutText_err _ hx
    obtain ⟨n, hn⟩ : ∃ n, (CutText (l.drop p)).2.1 = n := ⟨_, rfl⟩
    obtain ⟨er, her⟩ : ∃ er, (CutText (l.drop p)).2.2 = er := ⟨_, rfl⟩
    obtain ⟨v, hv⟩ : ∃ v, (CutText (l.drop p)).1 = v := ⟨_, rfl⟩
    simp only [hn, her, hv] at hcut hz hnn ⊢
    have hr : ∀ q, q = Exit.ret → True := fun _ _ => trivial
    have ho : oV 0 er v [] = v ∧ oP 0 er p n = p + n := by
      by_cases h0 : er = 0
      · subst h0; exact ⟨rfl, rfl⟩
      · rw [oV_no _ _ (by omega), oP_no _ _ (by omega), (hz h0).1, (hz h0).2]; exact ⟨rfl, rfl⟩
    rw [ho.1, ho.2]
    have hpn : (p : Int) + (n : Int) ≤ 34359738368 := by omega
    have HC := hide hcut; have HZ := hide hz; have HO := hide ho; clear hcut hz ho hr
    clear hn her hv
    go_enter Try.func37, Try.ntmps37
    go_wp2_with fail
    go_quiet ((go_at_call 24; exact Calls.quiet_of_same ((HC.out _).mono fun _ _ x => ⟨x.1, x.2.symm⟩)))
    go_wp2_with fail
    go_ret
    refine ⟨rfl, ⟨?_, hl, by omega, by show er ≤ 30; omega⟩, only_set (only_set (only_drewN (.refl _ _) _) _ _) _ _⟩
    have := ((h.1.drewN nq).set_ 1 (.int .i64 ((p + n : Nat) : Int))).set_ 2 (.int .i64 er)
    simpa [tkCells, oE] using this
  · have he' : ((e : Int) != 0) = true := by rw [bne_iff_ne]; omega
    have HE := hide he; clear he
    go_enter Try.func37, Try.ntmps37
    go_wp2_with fail
    go_ret
    rw [oP_no _ _ (fun x => HE.out x.1), oE_no _ HE.out]
    exact ⟨by rw [oV_no _ _ (fun x => HE.out x.1)]; rfl, h, .refl _ _⟩
end Go.Proofs.Ytnoahfhnmiibgaa
