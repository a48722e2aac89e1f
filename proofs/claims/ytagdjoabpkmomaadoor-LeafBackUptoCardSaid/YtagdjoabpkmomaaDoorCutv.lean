/-
  The walk of value.Cut.
-/
import Derived.Test.YtagdjoabpkmomaaDoorFind
namespace Go.Proofs.YtagdjoabpkmomaaDoor
open Go.RowKit
set_option maxRecDepth 100000
set_option linter.unusedSimpArgs false
set_option linter.unusedVariables false

theorem vnil_any (w : World) : Calls Tryd.prog 70 #[] w fun e w' => e = .returned (.agg #[.int .i64 0, .int .i64 0, .string ⟨#[]⟩]) ∧ Below w.heap.size w w' := by
  go_enter Tryd.func70, Tryd.ntmps70
  go_wp2_with fail
  exact bodyPost_ret (v := .agg #[.int .i64 0, .int .i64 0, .string ⟨#[]⟩]) (by simp [results, Tryd.results70, go_sem]) rfl ⟨rfl, by first | exact gr1 _ _ | exact gr2 _ _ _⟩
theorem vint_any (n : Int) (w : World) : Calls Tryd.prog 73 #[.int .i64 n] w fun e w' => e = .returned (.agg #[.int .i64 2, .int .i64 n, .string ⟨#[]⟩]) ∧ Below w.heap.size w w' := by
  go_enter Tryd.func73, Tryd.ntmps73
  go_wp2_with fail
  exact bodyPost_ret (v := .agg #[.int .i64 2, .int .i64 n, .string ⟨#[]⟩]) (by simp [results, Tryd.results73, go_sem]) rfl ⟨rfl, by first | exact gr1 _ _ | exact gr2 _ _ _⟩
theorem vbool_any (b : Bool) (w : World) : Calls Tryd.prog 71 #[.bool b] w fun e w' => e = .returned (.agg #[.int .i64 1, .int .i64 b.toNat, .string ⟨#[]⟩]) ∧ Below w.heap.size w w' := by
  cases b
  all_goals
    go_enter Tryd.func71, Tryd.ntmps71
    go_wp2_with fail
  · exact bodyPost_ret (v := .agg #[.int .i64 1, .int .i64 0, .string ⟨#[]⟩]) (by simp [results, Tryd.results71, go_sem]) rfl ⟨rfl, by first | exact gr1 _ _ | exact gr2 _ _ _⟩
  · exact bodyPost_ret (v := .agg #[.int .i64 1, .int .i64 1, .string ⟨#[]⟩]) (by simp [results, Tryd.results71, go_sem]) rfl ⟨rfl, by first | exact gr1 _ _ | exact gr2 _ _ _⟩
theorem vtext_no (s : Bytes) (h : 64 < s.length) (w : World) : Calls Tryd.prog 74 #[.string ⟨s.toArray⟩] w fun e w' => e = .returned (.tuple #[.agg #[.int .i64 0, .int .i64 0, .string ⟨#[]⟩], .int .i64 5]) ∧ Below w.heap.size w w' := by
  have h' : (64 : Int) < s.length := by omega
  go_enter Tryd.func74, Tryd.ntmps74
  go_wp2_with fail
  exact bodyPost_ret (v := .tuple #[.agg #[.int .i64 0, .int .i64 0, .string ⟨#[]⟩], .int .i64 5]) (by simp [results, Tryd.results74, go_sem]) rfl ⟨rfl, by first | exact gr1 _ _ | exact gr2 _ _ _⟩
theorem vtext_yes (s : Bytes) (h : s.length ≤ 64) (w : World) : Calls Tryd.prog 74 #[.string ⟨s.toArray⟩] w fun e w' => e = .returned (.tuple #[.agg #[.int .i64 3, .int .i64 0, .string ⟨s.toArray⟩], .int .i64 0]) ∧ Below w.heap.size w w' := by
  have h' : ¬ (64 : Int) < s.length := by omega
  go_enter Tryd.func74, Tryd.ntmps74
  go_wp2_with fail
  exact bodyPost_ret (v := .tuple #[.agg #[.int .i64 3, .int .i64 0, .string ⟨s.toArray⟩], .int .i64 0]) (by simp [results, Tryd.results74, go_sem]) rfl ⟨rfl, by first | exact gr1 _ _ | exact gr2 _ _ _⟩
theorem rbool7_any (b : Bool) (w : World) : Calls Tryd.prog 65 #[.bool b] w fun e w' => e = .returned (.agg #[.int .i64 1, .int .i64 b.toNat, .string ⟨#[]⟩]) ∧ Below w.heap.size w w' := by
  cases b
  all_goals
    go_enter Tryd.func65, Tryd.ntmps65
    go_wp2_with fail
  · exact bodyPost_ret (v := .agg #[.int .i64 1, .int .i64 0, .string ⟨#[]⟩]) (by simp [results, Tryd.results65, go_sem]) rfl ⟨rfl, by first | exact gr1 _ _ | exact gr2 _ _ _⟩
  · exact bodyPost_ret (v := .agg #[.int .i64 1, .int .i64 1, .string ⟨#[]⟩]) (by simp [results, Tryd.results65, go_sem]) rfl ⟨rfl, by first | exact gr1 _ _ | exact gr2 _ _ _⟩

/-- a value cut from the front: its kind, its number, its text, how many bytes, the error -/
structure CutV where
  kind : Int
  i : Int
  s : Bytes
  n : Nat
  e : Nat
def cutV : Bytes → CutV
  | [] => ⟨0, 0, [], 0, 2⟩
  | t :: r =>
    if t.toNat = 0 then ⟨0, 0, [], 1, 0⟩
    else if t.toNat = 1 then (match r with | [] => ⟨0, 0, [], 0, 2⟩ | b :: _ => if 1 < b.toNat then ⟨0, 0, [], 0, 3⟩ else ⟨1, b.toNat, [], 2, 0⟩)
    else if t.toNat = 2 then (if (cut r).2.2 = 0 then ⟨2, zag (cut r).1, [], (cut r).2.1 + 1, 0⟩ else ⟨0, 0, [], 0, (cut r).2.2⟩)
    else if t.toNat = 3 then (if (CutText r).2.2 ≠ 0 then ⟨0, 0, [], 0, (CutText r).2.2⟩ else if 64 < (CutText r).1.length then ⟨0, 0, [], 0, 5⟩ else ⟨3, 0, (CutText r).1, (CutText r).2.1 + 1, 0⟩)
    else ⟨0, 0, [], 0, 3⟩
def CutOut (w : World) (x : CutV) (e : Ending) (w' : World) : Prop :=
  e = .returned (.tuple #[.agg #[.int .i64 x.kind, .int .i64 x.i, .string ⟨x.s.toArray⟩], .int .i64 x.n, .int .i64 x.e]) ∧ Below w.heap.size w w'

theorem set3 {w w1 : World} (h : Below w.heap.size w w1) (u0 u1 u2 : Value) :
    Below w.heap.size w (((w1.setCell ⟨w.heap.size, 0, none⟩ u0).setCell ⟨w.heap.size, 1, none⟩ u1).setCell ⟨w.heap.size, 2, none⟩ u2) :=
  ((h.setCell (Nat.le_refl _) _).setCell (Nat.le_refl _) _).setCell (Nat.le_refl _) _
theorem set3a {w w1 : World} (h : Below w.heap.size w w1) (u0 u1 u2 : Value) (o : Obj) :
    Below w.heap.size w ((((w1.setCell ⟨w.heap.size, 0, none⟩ u0).setCell ⟨w.heap.size, 1, none⟩ u1).setCell ⟨w.heap.size, 2, none⟩ u2).alloc o) :=
  (set3 h u0 u1 u2).alloc (set3 h u0 u1 u2).size o
theorem cutOut_of {w w' : World} {x : CutV} {n : Int} (h : (x.n : Int) = n) (hb : Below w.heap.size w w') : CutOut w x (.returned (.tuple #[.agg #[.int .i64 x.kind, .int .i64 x.i, .string ⟨x.s.toArray⟩], .int .i64 n, .int .i64 x.e])) w' := ⟨by rw [← h], hb⟩
theorem cutText_n (l : Bytes) : (CutText l).2.1 ≤ l.length := by
  have := cut_n l
  unfold CutText; split
  · simp
  · split
    · simp
    · split
      · simp
      · simp only; omega
theorem nat_ne8 {n k : Nat} (h : ¬ n = k) : ((n : Int) == (k : Int)) = false := by rw [beq_eq_false_iff_ne]; omega

set_option maxHeartbeats 4000000 in
theorem cutv_any (A : Option Addr) (l : Bytes) (c : Nat) (w : World) (hF : Bs w A l) (hl : l.length ≤ 34359738368) (hlc : l.length ≤ c) (hcm : c ≤ maxLen) :
    Calls Tryd.prog 63 #[.slice A l.length c] w (CutOut w (cutV l)) := by
  have HF := hide hF
  clear hF
  match l with
  | [] =>
    go_enter Tryd.func63, Tryd.ntmps63
    go_wp2_with fail
    exact bodyPost_ret (v := .tuple #[.agg #[.int .i64 0, .int .i64 0, .string ⟨#[]⟩], .int .i64 0, .int .i64 2]) (by simp [results, Tryd.results63, go_sem]) rfl ⟨rfl, by first | exact gr1 _ _ | exact gr2 _ _ _⟩
  | t :: r =>
    have hrl : r.length + 1 ≤ c := hlc
    have hr2 : r.length ≤ 34359738368 := by simp at hl; omega
    obtain ⟨b, off, rfl, hbl, hcell⟩ := HF.out.cell (by simp)
    have h0 : w.cell? ⟨b, off, none⟩ = some (.int .u8 t.toNat) := by have := hcell 0 (by simp); simpa using this
    have hcut := fun w => run_cut_from Tryd.underlying58 size_u8 (some ⟨b, off, none⟩) (r.length + 1) c 1 (by omega) 1 rfl w
    rw [show r.length + 1 - 1 = r.length from rfl] at hcut
    have hR : Bs w (cutA (some ⟨b, off, none⟩) c 1 1) r := by
      have := HF.out.cutA (lo := 1) (n := r.length) (c := c) (by simp; omega) hlc
      simpa using this
    generalize cutA (some ⟨b, off, none⟩) c 1 1 = A2 at hcut hR
    have HRr := hide hR
    clear hcell hR
    show Calls Tryd.prog 63 #[.slice (some ⟨b, off, none⟩) (r.length + 1) c] w _
    by_cases t0 : t.toNat = 0
    · have HR := hide (show cutV (t :: r) = ⟨0, 0, [], 1, 0⟩ from by simp [cutV, t0])
      rw [t0] at h0
      clear t0
      go_enter Tryd.func63, Tryd.ntmps63
      go_wp2_with (go_at_call 70; refine (vnil_any _).mono ?_; rintro e w2 ⟨rfl, hb2⟩; obtain ⟨hc2, hf2⟩ := bcell hb2; have hz2 := bz hb2)
      exact bodyPost_ret (v := .tuple #[.agg #[.int .i64 0, .int .i64 0, .string ⟨#[]⟩], .int .i64 1, .int .i64 0]) (by simp [results, Tryd.results63, go_sem, hc2, hz2]) rfl (by rw [HR.out]; exact cutOut_of (rfl) (set3 (below_trans (gr1 _ _) hb2) _ _ _))
    by_cases t1 : t.toNat = 1
    · rw [t1] at h0
      by_cases hz : r.length = 0
      · have hri : ((r.length : Int) == 0) = true := by rw [hz]; rfl
        have hre : r = [] := List.length_eq_zero_iff.1 hz
        have HR := hide (show cutV (t :: r) = ⟨0, 0, [], 0, 2⟩ from by rw [hre]; simp [cutV, t1])
        clear hre hz
        clear t0 t1
        go_enter Tryd.func63, Tryd.ntmps63
        go_wp2_with fail
        exact bodyPost_ret (v := .tuple #[.agg #[.int .i64 0, .int .i64 0, .string ⟨#[]⟩], .int .i64 0, .int .i64 2]) (by simp [results, Tryd.results63, go_sem]) rfl (by rw [HR.out]; exact cutOut_of (rfl) (gr1 _ _))
      · have hri : ((r.length : Int) == 0) = false := nat_ne8 (k := 0) hz
        have hpos : 0 < r.length := by omega
        obtain ⟨b2, off2, rfl, hbl2, hcell2⟩ := HRr.out.cell hpos
        obtain ⟨b1, r1, hrr0⟩ : ∃ b1 r1, r = b1 :: r1 := by cases r with | nil => simp at hpos | cons x y => exact ⟨x, y, rfl⟩
        have hrr := hide hrr0
        clear hrr0
        have h1 : w.cell? ⟨b2, off2, none⟩ = some (.int .u8 b1.toNat) := by have := hcell2 0 hpos; rw [show r[0] = b1 from by simp [hrr.out]] at this; simpa using this
        clear hcell2 hz
        by_cases hb0 : b1.toNat = 0
        · have HR := hide (show cutV (t :: r) = ⟨1, 0, [], 2, 0⟩ from by rw [hrr.out]; simp [cutV, t1, hb0])
          rw [hb0] at h1
          clear hb0 t0 t1
          go_enter Tryd.func63, Tryd.ntmps63
          go_wp2_with (go_at_call 71; refine (vbool_any false _).mono ?_; rintro e w2 ⟨rfl, hb2⟩; obtain ⟨hc2, hf2⟩ := bcell hb2; have hz2 := bz hb2)
          exact bodyPost_ret (v := .tuple #[.agg #[.int .i64 1, .int .i64 0, .string ⟨#[]⟩], .int .i64 2, .int .i64 0]) (by simp [results, Tryd.results63, go_sem, hc2, hz2]) rfl (by rw [HR.out]; exact cutOut_of (rfl) (set3 (below_trans (gr1 _ _) hb2) _ _ _))
        by_cases hb1' : b1.toNat = 1
        · have HR := hide (show cutV (t :: r) = ⟨1, 1, [], 2, 0⟩ from by rw [hrr.out]; simp [cutV, t1, hb1'])
          rw [hb1'] at h1
          clear hb0 hb1' t0 t1
          go_enter Tryd.func63, Tryd.ntmps63
          go_wp2_with (go_at_call 71; refine (vbool_any true _).mono ?_; rintro e w2 ⟨rfl, hb2⟩; obtain ⟨hc2, hf2⟩ := bcell hb2; have hz2 := bz hb2)
          exact bodyPost_ret (v := .tuple #[.agg #[.int .i64 1, .int .i64 1, .string ⟨#[]⟩], .int .i64 2, .int .i64 0]) (by simp [results, Tryd.results63, go_sem, hc2, hz2]) rfl (by rw [HR.out]; exact cutOut_of (rfl) (set3 (below_trans (gr1 _ _) hb2) _ _ _))
        · have hbg : 1 < b1.toNat := by omega
          have hbg' : (1 : Int) < b1.toNat := by omega
          have HR := hide (show cutV (t :: r) = ⟨0, 0, [], 0, 3⟩ from by rw [hrr.out]; simp [cutV, t1, hbg])
          clear hbg hb0 hb1' t0 t1
          go_enter Tryd.func63, Tryd.ntmps63
          go_wp2_with fail
          exact bodyPost_ret (v := .tuple #[.agg #[.int .i64 0, .int .i64 0, .string ⟨#[]⟩], .int .i64 0, .int .i64 3]) (by simp [results, Tryd.results63, go_sem]) rfl (by rw [HR.out]; exact cutOut_of (rfl) (gr1 _ _))
    by_cases t2 : t.toNat = 2
    · rw [t2] at h0
      have hn := cut_n r
      by_cases he : (cut r).2.2 = 0
      · have he' : (((cut r).2.2 : Int) != 0) = false := by rw [he]; rfl
        have HR := hide (show cutV (t :: r) = ⟨2, zag (cut r).1, [], (cut r).2.1 + 1, 0⟩ from by simp [cutV, t0, t1, t2, he])
        clear t0 t1 t2 he
        go_enter Tryd.func63, Tryd.ntmps63
        go_wp2_with (first
          | (go_at_call 73; refine (vint_any _ _).mono ?_; rintro e w2 ⟨rfl, hb2⟩; obtain ⟨hc2, hf2⟩ := bcell hb2; have hz2 := bz hb2)
          | (go_at_call 72; refine (cutint_any A2 r (c - 1) _ (HRr.out.below (gr1 _ _)) hr2).mono ?_; rintro e w' ⟨rfl, rfl⟩))
        exact bodyPost_ret (v := .tuple #[.agg #[.int .i64 2, .int .i64 (zag (cut r).1), .string ⟨#[]⟩], .int .i64 (1 + ((cut r).2.1 : Int)), .int .i64 0]) (by simp [results, Tryd.results63, go_sem, hc2, hz2]) rfl (by rw [HR.out]; exact cutOut_of (by simp; omega) (set3 (below_trans (gr1 _ _) hb2) _ _ _))
      · have he' : (((cut r).2.2 : Int) != 0) = true := by rw [bne_iff_ne]; omega
        have HR := hide (show cutV (t :: r) = ⟨0, 0, [], 0, (cut r).2.2⟩ from by simp [cutV, t0, t1, t2, he])
        clear t0 t1 t2 he
        go_enter Tryd.func63, Tryd.ntmps63
        go_wp2_with (go_at_call 72; refine (cutint_any A2 r (c - 1) _ (HRr.out.below (gr1 _ _)) hr2).mono ?_; rintro e w' ⟨rfl, rfl⟩)
        exact bodyPost_ret (v := .tuple #[.agg #[.int .i64 0, .int .i64 0, .string ⟨#[]⟩], .int .i64 0, .int .i64 (cut r).2.2]) (by simp [results, Tryd.results63, go_sem]) rfl (by rw [HR.out]; exact cutOut_of (rfl) (gr1 _ _))
    by_cases t3 : t.toNat = 3
    · rw [t3] at h0
      have hcm2 : c - 1 ≤ 9223372036854775807 := by unfold maxLen at hcm; omega
      have hn := cutText_n r
      by_cases he : (CutText r).2.2 = 0
      · have he' : (((CutText r).2.2 : Int) != 0) = false := by rw [he]; rfl
        by_cases hlong : 64 < (CutText r).1.length
        · have HR := hide (show cutV (t :: r) = ⟨0, 0, [], 0, 5⟩ from by simp [cutV, t0, t1, t2, t3, he, hlong])
          clear t0 t1 t2 t3 he
          go_enter Tryd.func63, Tryd.ntmps63
          go_wp2_with (first
            | (go_at_call 74; refine (vtext_no _ hlong _).mono ?_; rintro e w2 ⟨rfl, hb2⟩; obtain ⟨hc2, hf2⟩ := bcell hb2; have hz2 := bz hb2)
            | (go_at_call 62; refine (cuttext_any A2 r (c - 1) _ (HRr.out.below (gr1 _ _)) hr2 (by omega) hcm2).mono ?_; rintro e w' ⟨rfl, rfl⟩))
          exact bodyPost_ret (v := .tuple #[.agg #[.int .i64 0, .int .i64 0, .string ⟨#[]⟩], .int .i64 0, .int .i64 5]) (by simp [results, Tryd.results63, go_sem, hc2, hz2]) rfl (by rw [HR.out]; exact cutOut_of (rfl) (set3a (below_trans (gr1 _ _) hb2) _ _ _ _))
        · have hshort : (CutText r).1.length ≤ 64 := by omega
          have HR := hide (show cutV (t :: r) = ⟨3, 0, (CutText r).1, (CutText r).2.1 + 1, 0⟩ from by simp [cutV, t0, t1, t2, t3, he, hlong])
          clear t0 t1 t2 t3 he hlong
          go_enter Tryd.func63, Tryd.ntmps63
          go_wp2_with (first
            | (go_at_call 74; refine (vtext_yes _ hshort _).mono ?_; rintro e w2 ⟨rfl, hb2⟩; obtain ⟨hc2, hf2⟩ := bcell hb2; have hz2 := bz hb2)
            | (go_at_call 62; refine (cuttext_any A2 r (c - 1) _ (HRr.out.below (gr1 _ _)) hr2 (by omega) hcm2).mono ?_; rintro e w' ⟨rfl, rfl⟩))
          exact bodyPost_ret (v := .tuple #[.agg #[.int .i64 3, .int .i64 0, .string ⟨(CutText r).1.toArray⟩], .int .i64 (1 + ((CutText r).2.1 : Int)), .int .i64 0]) (by simp [results, Tryd.results63, go_sem, hc2, hz2]) rfl (by rw [HR.out]; exact cutOut_of (by simp; omega) (set3a (below_trans (gr1 _ _) hb2) _ _ _ _))
      · have he' : (((CutText r).2.2 : Int) != 0) = true := by rw [bne_iff_ne]; omega
        have HR := hide (show cutV (t :: r) = ⟨0, 0, [], 0, (CutText r).2.2⟩ from by simp [cutV, t0, t1, t2, t3, he])
        clear t0 t1 t2 t3 he
        go_enter Tryd.func63, Tryd.ntmps63
        go_wp2_with (go_at_call 62; refine (cuttext_any A2 r (c - 1) _ (HRr.out.below (gr1 _ _)) hr2 (by omega) hcm2).mono ?_; rintro e w' ⟨rfl, rfl⟩)
        exact bodyPost_ret (v := .tuple #[.agg #[.int .i64 0, .int .i64 0, .string ⟨#[]⟩], .int .i64 0, .int .i64 (CutText r).2.2]) (by simp [results, Tryd.results63, go_sem]) rfl (by rw [HR.out]; exact cutOut_of (rfl) (gr1 _ _))
    have e0 : ((t.toNat : Int) == 0) = false := nat_ne8 (k := 0) t0
    have e1 : ((t.toNat : Int) == 1) = false := nat_ne8 (k := 1) t1
    have e2 : ((t.toNat : Int) == 2) = false := nat_ne8 (k := 2) t2
    have e3 : ((t.toNat : Int) == 3) = false := nat_ne8 (k := 3) t3
    have HR := hide (show cutV (t :: r) = ⟨0, 0, [], 0, 3⟩ from by simp [cutV, t0, t1, t2, t3])
    clear t0 t1 t2 t3
    go_enter Tryd.func63, Tryd.ntmps63
    go_wp2_with fail
    exact bodyPost_ret (v := .tuple #[.agg #[.int .i64 0, .int .i64 0, .string ⟨#[]⟩], .int .i64 0, .int .i64 3]) (by simp [results, Tryd.results63, go_sem]) rfl (by rw [HR.out]; exact cutOut_of (rfl) (gr1 _ _))
end Go.Proofs.YtagdjoabpkmomaaDoor
