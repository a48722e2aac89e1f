/-
  varint.Reader's methods.
-/
import Derived.Test.YtnoahfhnmiibgaaRdr3
import Derived.Test.YtnoahfhnmiibgaaVlaw3
namespace Go.Proofs.Ytnoahfhnmiibgaa
open Go.RowKit
set_option linter.unusedSimpArgs false
set_option linter.unusedVariables false

theorem bs_rest {w : World} {A : Option Addr} {l : List UInt8} {c p : Nat} (h : Bs w A l) (hp : p ≤ l.length) (hc : l.length ≤ c) : Bs w (cutA A c p 1) (l.drop p) := by
  have := h.cutA (lo := p) (n := l.length - p) (by omega) hc
  rwa [List.take_of_length_le (by simp)] at this

set_option maxHeartbeats 400000 in
theorem num_any (g : Nat) (A : Option Addr) (l : List UInt8) (c p e most : Nat) (w : World) (h : Rdr w g A l c p e) :
    Calls Try.prog 32 #[.pointer (some ⟨g, 0, none⟩), .int .u64 most] w fun en w' => en = .returned (.int .u64 ((oV e (numE (l.drop p) most) (cut (l.drop p)).1 0 : Nat) : Int)) ∧
      Rdr w' g A l c (oP e (numE (l.drop p) most) p (cut (l.drop p)).2.1) (oE e (numE (l.drop p) most)) ∧ w.grownBy w' (some g) := by
  have hp := h.2.2.2.2.2.1
  have hn := cut_n (l.drop p)
  rw [List.length_drop] at hn
  have he := numE_le (l.drop p) most
  go_enter Try.func32, Try.ntmps32
  go_wp2_with fail
  refine (step_num g A l c p e _ ⟨h.1.alloc _, Rd.alloc h.2.1 _, h.2.2⟩ w.heap.size (cut (l.drop p)).1 (cut (l.drop p)).2.1 (numE (l.drop p) most) (by omega) (by omega) ?_).mono ?_
  · intro k
    have hm : ((w.alloc (.cells #[.int .u64 (most : Int)] 23)).drewN k).cell? ⟨w.heap.size, 0, none⟩ = some (.int .u64 (most : Int)) := by simp
    have := numf_any (cutA A c p 1) (l.drop p) (c - p) most w.heap.size _ (bs_rest (Rd.drewN (Rd.alloc h.2.1 (.cells #[.int .u64 (most : Int)] 23)) k) hp h.2.2.1) (by rw [List.length_drop]; have := h.2.2.2.2.1; omega) hm
    rw [List.length_drop] at this
    exact this
  · rintro en w' ⟨rfl, hR, hG⟩
    go_wp2_with fail
    go_ret
    exact ⟨rfl, hR, (only_alloc (.refl _ _) _).trans hG⟩

set_option maxHeartbeats 400000 in
theorem int_any (g : Nat) (A : Option Addr) (l : List UInt8) (c p e : Nat) (w : World) (h : Rdr w g A l c p e) :
    Calls Try.prog 34 #[.pointer (some ⟨g, 0, none⟩)] w fun en w' => en = .returned (.int .i64 (oV e (cut (l.drop p)).2.2 (zag (cut (l.drop p)).1) 0)) ∧
      Rdr w' g A l c (oP e (cut (l.drop p)).2.2 p (cut (l.drop p)).2.1) (oE e (cut (l.drop p)).2.2) ∧ w.grownBy w' (some g) := by
  have hp := h.2.2.2.2.2.1
  have hn := cut_n (l.drop p)
  rw [List.length_drop] at hn
  go_enter Try.func34, Try.ntmps34
  go_wp2_with fail
  refine (step_int g A l c p e _ h (zag (cut (l.drop p)).1) (cut (l.drop p)).2.1 (cut (l.drop p)).2.2 (by omega) (by omega) ?_).mono ?_
  · intro k
    have := cutint_any (cutA A c p 1) (l.drop p) (c - p) _ (bs_rest (Rd.drewN h.2.1 k) hp h.2.2.1) (by rw [List.length_drop]; have := h.2.2.2.2.1; omega)
    rw [List.length_drop] at this
    exact this
  · rintro en w' ⟨rfl, hR, hG⟩
    go_wp2_with fail
    go_ret
    exact ⟨rfl, hR, hG⟩

set_option maxHeartbeats 400000 in
theorem text_any (g : Nat) (A : Option Addr) (l : List UInt8) (c p e : Nat) (w : World) (h : Rdr w g A l c p e) :
    Calls Try.prog 36 #[.pointer (some ⟨g, 0, none⟩)] w fun en w' => en = .returned (.string ⟨(oV e (CutText (l.drop p)).2.2 (CutText (l.drop p)).1 []).toArray⟩) ∧
      Rdr w' g A l c (oP e (CutText (l.drop p)).2.2 p (CutText (l.drop p)).2.1) (oE e (CutText (l.drop p)).2.2) ∧ w.grownBy w' (some g) := by
  have hp := h.2.2.2.2.2.1
  have hn := cutText_n (l.drop p)
  rw [List.length_drop] at hn
  go_enter Try.func36, Try.ntmps36
  go_wp2_with fail
  refine (step_text g A l c p e _ h (CutText (l.drop p)).1 (CutText (l.drop p)).2.1 (CutText (l.drop p)).2.2 (by omega) (by omega) ?_).mono ?_
  · intro k
    have := cuttext_any (cutA A c p 1) (l.drop p) (c - p) _ (bs_rest (Rd.drewN h.2.1 k) hp h.2.2.1) (by rw [List.length_drop]; have := h.2.2.2.2.1; omega) (by rw [List.length_drop]; have := h.2.2.1; omega) (by have := h.2.2.2.1; omega)
    rw [List.length_drop] at this
    exact this
  · rintro en w' ⟨rfl, hR, hG⟩
    go_wp2_with fail
    go_ret
    exact ⟨rfl, hR, hG⟩

set_option maxHeartbeats 400000 in
theorem byte_any (g : Nat) (A : Option Addr) (l : List UInt8) (c p e : Nat) (w : World) (h : Rdr w g A l c p e) :
    Calls Try.prog 38 #[.pointer (some ⟨g, 0, none⟩)] w fun en w' => en = .returned (.int .u8 ((oV e (oneE (l.drop p)) (oneV (l.drop p)) 0 : Nat) : Int)) ∧
      Rdr w' g A l c (oP e (oneE (l.drop p)) p (oneN (l.drop p))) (oE e (oneE (l.drop p))) ∧ w.grownBy w' (some g) := by
  have hp := h.2.2.2.2.2.1
  have hn : oneN (l.drop p) ≤ l.length - p := by unfold oneN; rw [List.length_drop]; split <;> omega
  have he : oneE (l.drop p) ≤ 2 := by unfold oneE; split <;> omega
  go_enter Try.func38, Try.ntmps38
  go_wp2_with fail
  refine (step_byte g A l c p e _ h (oneV (l.drop p)) (oneN (l.drop p)) (oneE (l.drop p)) (by omega) (by omega) ?_).mono ?_
  · intro k
    have := one_any (cutA A c p 1) (l.drop p) (c - p) _ (bs_rest (Rd.drewN h.2.1 k) hp h.2.2.1) (by rw [List.length_drop]; have := h.2.2.2.2.1; omega)
    rw [List.length_drop] at this
    exact this
  · rintro en w' ⟨rfl, hR, hG⟩
    go_wp2_with fail
    go_ret
    exact ⟨rfl, hR, hG⟩

/-- what is wrong with a flag -/
def flagE (l : List UInt8) : Nat := if l.length = 0 then 2 else if 1 < oneV l then 3 else 0

set_option maxHeartbeats 1000000 in
theorem flag_any (g : Nat) (A : Option Addr) (l : List UInt8) (c p e : Nat) (w : World) (h : Rdr w g A l c p e) :
    Calls Try.prog 40 #[.pointer (some ⟨g, 0, none⟩)] w fun en w' => en = .returned (.bool (oV e (flagE (l.drop p)) (oneV (l.drop p) == 1) false)) ∧
      Rdr w' g A l c (oP e (flagE (l.drop p)) p (oneN (l.drop p))) (oE e (flagE (l.drop p))) ∧ w.grownBy w' (some g) := by
  have hc1 : w.cell? ⟨g, 1, none⟩ = some (.int .i64 p) := h.1.cell 1
  have hp := h.2.2.2.2.2.1
  have he30 := h.2.2.2.2.2.2
  have hby := byte_any g A l c p e w h
  obtain ⟨x, hx⟩ : ∃ x, oV e (oneE (l.drop p)) (oneV (l.drop p)) 0 = x := ⟨_, rfl⟩
  rw [hx] at hby
  have hcase : (1 < x ∧ e = 0 ∧ (l.drop p).length ≠ 0 ∧ oneV (l.drop p) = x) ∨ (x ≤ 1 ∧ oV e (flagE (l.drop p)) (oneV (l.drop p) == 1) false = (x == 1) ∧ oP e (flagE (l.drop p)) p (oneN (l.drop p)) = oP e (oneE (l.drop p)) p (oneN (l.drop p)) ∧ oE e (flagE (l.drop p)) = oE e (oneE (l.drop p))) := by
    by_cases h0 : e = 0
    · by_cases hl : (l.drop p).length = 0
      · right
        have e1 : oneE (l.drop p) = 2 := by unfold oneE; rw [if_pos hl]
        have e2 : flagE (l.drop p) = 2 := by unfold flagE; rw [if_pos hl]
        rw [e1, oV_no _ _ (by omega)] at hx
        rw [e1, e2, oV_no _ _ (by omega), ← hx]
        exact ⟨by omega, rfl, rfl, rfl⟩
      · have e1 : oneE (l.drop p) = 0 := by unfold oneE; rw [if_neg hl]
        rw [e1, show oV e 0 (oneV (l.drop p)) 0 = oneV (l.drop p) from if_pos ⟨h0, rfl⟩] at hx
        by_cases h1 : 1 < x
        · exact .inl ⟨h1, h0, hl, hx⟩
        · right
          have e2 : flagE (l.drop p) = 0 := by unfold flagE; rw [if_neg hl, if_neg (by omega)]
          rw [e1, e2, show oV e 0 (oneV (l.drop p) == 1) false = (oneV (l.drop p) == 1) from if_pos ⟨h0, rfl⟩, hx]
          exact ⟨by omega, rfl, rfl, rfl⟩
    · right
      rw [oV_no _ _ (by omega)] at hx
      rw [oV_no _ _ (by omega), ← hx]
      refine ⟨by omega, rfl, ?_, ?_⟩
      · unfold oP; rw [if_neg (by omega), if_neg (by omega)]
      · unfold oE; rw [if_neg h0, if_neg h0]
  have HX := hide hx; clear hx
  have HB := hide hby; clear hby
  rcases hcase with ⟨h1, h0, hl, hv⟩ | ⟨h1, ev, ep, ee⟩
  · have h1' : (1 : Int) < (x : Int) := by omega
    have e1 : oneE (l.drop p) = 0 := by unfold oneE; rw [if_neg hl]
    have e2 : flagE (l.drop p) = 3 := by unfold flagE; rw [if_neg hl, if_pos (by omega)]
    rw [e1] at HB
    have F := hide (And.intro h0 (And.intro e1 e2)); clear h0 e1 e2 hl hv
    go_enter Try.func40, Try.ntmps40
    go_wp2_with fail
    refine HB.out.mono ?_
    rintro en w1 ⟨rfl, hR, hG⟩
    have hf1 := hR.1.free 1
    have hd1 : ∃ v, w1.cell? ⟨g, 1, none⟩ = some v := ⟨_, hR.1.cell 1⟩
    obtain ⟨v1, hv1⟩ := hd1
    go_wp2_with fail
    refine (fail_any g A l c p e 3 (by omega) _ ⟨?_, hR.2.1.grown (only_set (.refl _ _) _ _) (hR.2.1.ne_blk hR.1 (rdCells_no _ _ _ _ _)), hR.2.2.1, hR.2.2.2.1, hR.2.2.2.2.1, hp, he30⟩).mono ?_
    · have := hR.1.set_ 1 (.int .i64 p)
      rw [F.out.1] at this
      rw [F.out.1]
      simpa [rdCells, oE] using this
    · rintro en w2 ⟨rfl, hR2, hG2⟩
      go_wp2_with fail
      go_ret
      rw [F.out.2.2, oV_no _ _ (by omega), show oP e 3 p (oneN (l.drop p)) = p from if_neg (by omega)]
      exact ⟨rfl, hR2, (hG.trans (only_set (.refl _ _) _ _)).trans hG2⟩
  · have h1' : ¬ (1 : Int) < (x : Int) := by omega
    rw [ev, ep, ee]
    have hx1 : ∃ b, ((x : Int) == 1) = b ∧ (x == 1) = b := ⟨_, rfl, by rw [Bool.eq_iff_iff, beq_iff_eq, beq_iff_eq]; omega⟩
    obtain ⟨b, hb1, hb2⟩ := hx1
    rw [hb2]
    have HB2 := hide hb2; clear hb2 ev ep ee
    go_enter Try.func40, Try.ntmps40
    go_wp2_with fail
    refine HB.out.mono ?_
    rintro en w1 ⟨rfl, hR, hG⟩
    go_wp2_with fail
    go_ret
    exact ⟨rfl, hR, hG⟩

def endE (e p n : Nat) : Nat := if e = 0 ∧ p < n then 7 else e
def endP (e p n : Nat) : Nat := if e = 0 ∧ p < n then p else if e = 0 then 0 else p
def errP (e p : Nat) : Nat := if e = 0 then 0 else p

set_option maxHeartbeats 400000 in
theorem at_any (g : Nat) (A : Option Addr) (l : List UInt8) (c p e : Nat) (w : World) (h : Rdr w g A l c p e) :
    Calls Try.prog 47 #[.pointer (some ⟨g, 0, none⟩)] w fun en w' => en = .returned (.int .i64 p) ∧ w' = w := by
  have hc1 : w.cell? ⟨g, 1, none⟩ = some (.int .i64 p) := h.1.cell 1
  go_enter Try.func47, Try.ntmps47
  go_wp2_with fail
  go_ret
  exact ⟨rfl, rfl⟩

set_option maxHeartbeats 400000 in
theorem err_any (g : Nat) (A : Option Addr) (l : List UInt8) (c p e : Nat) (w : World) (h : Rdr w g A l c p e) :
    Calls Try.prog 46 #[.pointer (some ⟨g, 0, none⟩)] w fun en w' => en = .returned (.tuple #[.int .i64 e, .int .i64 (errP e p)]) ∧ ∃ k, w' = w.drewN k := by
  have hc1 : w.cell? ⟨g, 1, none⟩ = some (.int .i64 p) := h.1.cell 1
  have hc2 : w.cell? ⟨g, 2, none⟩ = some (.int .i64 e) := h.1.cell 2
  by_cases he : e = 0
  · have he' : ((e : Int) == 0) = true := by rw [he]; rfl
    have HF := hide (show errP e p = 0 ∧ e = 0 from ⟨if_pos he, he⟩); clear he
    go_enter Try.func46, Try.ntmps46
    go_wp2_with fail
    go_ret2
    rw [HF.out.1, HF.out.2]; exact ⟨rfl, 0, rfl⟩
  · have he' : ((e : Int) == 0) = false := by rw [beq_eq_false_iff_ne]; omega
    have HF := hide (show errP e p = p from if_neg he); clear he
    go_enter Try.func46, Try.ntmps46
    go_wp2_with fail
    go_quiet (fail)
    go_wp2_with fail
    go_ret2
    rw [HF.out]; exact ⟨rfl, _, rfl⟩

set_option maxHeartbeats 400000 in
theorem end_any (g : Nat) (A : Option Addr) (l : List UInt8) (c p e : Nat) (w : World) (h : Rdr w g A l c p e) :
    Calls Try.prog 44 #[.pointer (some ⟨g, 0, none⟩)] w fun en w' => en = .returned (.tuple #[.int .i64 (endE e p l.length), .int .i64 (endP e p l.length)]) ∧ ∃ k, w' = w.drewN k := by
  have hc0 : w.cell? ⟨g, 0, none⟩ = some (.slice A l.length c) := h.1.cell 0
  have hc1 : w.cell? ⟨g, 1, none⟩ = some (.int .i64 p) := h.1.cell 1
  have hc2 : w.cell? ⟨g, 2, none⟩ = some (.int .i64 e) := h.1.cell 2
  by_cases he : e = 0
  · have he' : ((e : Int) == 0) = true := by rw [he]; rfl
    by_cases hl : p < l.length
    · have hl' : (p : Int) < (l.length : Int) := by omega
      have HF := hide (show endE e p l.length = 7 ∧ endP e p l.length = p from ⟨if_pos ⟨he, hl⟩, if_pos ⟨he, hl⟩⟩)
      have HE := hide he; clear he
      go_enter Try.func44, Try.ntmps44
      go_wp2_with fail
      go_quiet (fail)
      go_wp2_with fail
      go_quiet (fail)
      go_wp2_with fail
      go_ret2
      rw [HF.out.1, HF.out.2]; exact ⟨rfl, _, by rw [World.drewN_drewN]⟩
    · have hl' : ¬ (p : Int) < (l.length : Int) := by omega
      have HF := hide (show endE e p l.length = e ∧ endP e p l.length = errP e p from ⟨if_neg (fun x => hl x.2), by unfold endP errP; rw [if_neg (fun x => hl x.2)]⟩)
      have HE := hide he; clear he
      go_enter Try.func44, Try.ntmps44
      go_wp2_with fail
      go_quiet (fail)
      go_wp2_with fail
      refine (err_any g A l c p e _ ⟨h.1.drewN _, Rd.drewN h.2.1 _, h.2.2⟩).mono ?_
      rintro en w1 ⟨rfl, k, rfl⟩
      go_wp2_with fail
      go_ret2
      rw [HF.out.1, HF.out.2]; exact ⟨rfl, _, rfl⟩
  · have he' : ((e : Int) == 0) = false := by rw [beq_eq_false_iff_ne]; omega
    have HF := hide (show endE e p l.length = e ∧ endP e p l.length = errP e p from ⟨if_neg (fun x => he x.1), by unfold endP errP; rw [if_neg (fun x => he x.1)]⟩)
    go_enter Try.func44, Try.ntmps44
    go_wp2_with fail
    go_quiet (fail)
    go_wp2_with fail
    refine (err_any g A l c p e _ ⟨h.1.drewN _, Rd.drewN h.2.1 _, h.2.2⟩).mono ?_
    rintro en w1 ⟨rfl, k, rfl⟩
    go_wp2_with fail
    go_ret2
    rw [HF.out.1, HF.out.2]; exact ⟨rfl, _, rfl⟩

set_option maxHeartbeats 400000 in
/-- a reader of bytes has them for itself -/
theorem read_any (A : Option Addr) (l : List UInt8) (c : Nat) (w : World) (hb : Bs w A l) (hl : l.length ≤ 34359738368) (hlc : l.length ≤ c) (hcm : c ≤ 9223372036854775807) :
    Calls Try.prog 31 #[.slice A l.length c] w fun en w' => ∃ g A' c', en = .returned (.pointer (some ⟨g, 0, none⟩)) ∧ w.heap.size ≤ g ∧ Rdr w' g A' l c' 0 0 ∧ (∀ b off, A' = some ⟨b, off, none⟩ → 0 < l.length → w.heap.size ≤ b) ∧ Below w.heap.size w w' := by
  go_enter Try.func31, Try.ntmps31
  go_wp2_with (at_builtin; refine wpList_appAny _ rfl (.const (.slice none 0 0)) (.tmp 3) _ rfl w w.heap.size 5 _ 1 1 Try.underlying24 info_u8 rfl (by omega) (by omega) _ 0 [] rfl (World.ownsRow_nil w w.heap.size 5 1) (Below.refl _ _) _ l.length _ _ rfl hb (cB_one _) (by omega) (Nat.le_refl _) ?_; intro A2 c2 w2 hown2 hb2; simp only [Nat.zero_add, List.nil_append] at hown2 ⊢)
  go_ret
  have hcap : l.length ≤ c2 ∧ c2 ≤ 9223372036854775807 ∧ ∀ b off, A2 = some ⟨b, off, none⟩ → w.heap.size ≤ b := by
    rcases hown2.2 with ⟨hv, h0⟩ | ⟨g, cap, cur, hv, hbs, _, h1, h2, _⟩
    · injection hv with v1 v2 v3
      subst v1
      exact ⟨by omega, by omega, fun b off x => by cases x⟩
    · injection hv with v1 v2 v3
      subst v1 v3
      refine ⟨h1, by simpa [maxLen] using h2, fun b off x => ?_⟩
      injection x with x; injection x with x _ _; omega
  refine ⟨w2.heap.size, A2, c2, rfl, hb2.size, ⟨Blk.new _ _ _, Rd.alloc (Bs.of_own hown2) _, hcap.1, hcap.2.1, hl, by omega, by omega⟩, fun b off x _ => hcap.2.2 b off x, hb2.alloc hb2.size _⟩
end Go.Proofs.Ytnoahfhnmiibgaa
