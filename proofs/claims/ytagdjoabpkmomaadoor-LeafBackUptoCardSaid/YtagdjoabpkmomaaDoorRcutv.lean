/-
  The walk of the reference's Cut of a value. (UNDER WAY)
-/
import Derived.Test.YtagdjoabpkmomaaDoorCutv
import Derived.Test.YtagdjoabpkmomaaDoorAwk9
namespace Go.Proofs.YtagdjoabpkmomaaDoor
open Go.RowKit
set_option maxRecDepth 100000
set_option linter.unusedSimpArgs false
set_option linter.unusedVariables false

set_option maxHeartbeats 4000000 in
theorem rcutv_any (l : Bytes) (w : World) (hl : l.length ≤ 34359738368) :
    Calls Tryd.prog 53 #[.string ⟨l.toArray⟩] w (CutOut w (cutV l)) := by
  match l with
  | [] =>
    go_enter Tryd.func53, Tryd.ntmps53
    go_wp2_with fail
    exact bodyPost_ret (v := .tuple #[.agg #[.int .i64 0, .int .i64 0, .string ⟨#[]⟩], .int .i64 0, .int .i64 2]) (by simp [results, Tryd.results53, go_sem]) rfl ⟨rfl, gr1 _ _⟩
  | t :: r =>
    have hr2 : r.length ≤ 34359738368 := by simp at hl; omega
    have hcut : ∀ w, (Instr.slice 9 (.string ⟨(t :: r).toArray⟩) (some (.int .i64 1)) none none).run Tryd.prog w = .ok (.string ⟨r.toArray⟩) w := fun w => run_strCutL Tryd.underlying9 (t :: r) 1 (by simp) 1 rfl w
    have hix : ∀ h, ((⟨(t :: r).toArray⟩ : ByteArray)[0]'h) = t := fun _ => rfl
    by_cases t0 : t.toNat = 0
    · have HR := hide (show cutV (t :: r) = ⟨0, 0, [], 1, 0⟩ from by simp [cutV, t0])
      have t0i : (t.toNat : Int) = 0 := by omega
      clear t0
      go_enter Tryd.func53, Tryd.ntmps53
      go_wp2_with fail
      exact bodyPost_ret (v := .tuple #[.agg #[.int .i64 0, .int .i64 0, .string ⟨#[]⟩], .int .i64 1, .int .i64 0]) (by simp [results, Tryd.results53, go_sem]) rfl (by rw [HR.out]; exact cutOut_of rfl (gr1 _ _))
    by_cases t1 : t.toNat = 1
    · have t1i : (t.toNat : Int) = 1 := by omega
      match r with
      | [] =>
        have HR := hide (show cutV [t] = ⟨0, 0, [], 0, 2⟩ from by simp [cutV, t1])
        clear t0 t1
        go_enter Tryd.func53, Tryd.ntmps53
        go_wp2_with fail
        exact bodyPost_ret (v := .tuple #[.agg #[.int .i64 0, .int .i64 0, .string ⟨#[]⟩], .int .i64 0, .int .i64 2]) (by simp [results, Tryd.results53, go_sem]) rfl (by rw [HR.out]; exact cutOut_of (rfl) (gr1 _ _))
      | b1 :: r1 =>
        have hix1 : ∀ h, ((⟨(t :: b1 :: r1).toArray⟩ : ByteArray)[1]'h) = b1 := fun _ => rfl
        have hlen : ¬ ((r1.length : Int) + 1 + 1 < 2) := by omega
        by_cases hb0 : b1.toNat = 0
        · have HR := hide (show cutV (t :: b1 :: r1) = ⟨1, 0, [], 2, 0⟩ from by simp [cutV, t1, hb0])
          have hbi : (b1.toNat : Int) = 0 := by omega
          clear t0 t1 hb0
          go_enter Tryd.func53, Tryd.ntmps53
          go_wp2_with (go_at_call 65; refine (rbool7_any false _).mono ?_; rintro e w2 ⟨rfl, hb2⟩; obtain ⟨hc2, hf2⟩ := bcell hb2; have hz2 := bz hb2)
          exact bodyPost_ret (v := .tuple #[.agg #[.int .i64 1, .int .i64 0, .string ⟨#[]⟩], .int .i64 2, .int .i64 0]) (by simp [results, Tryd.results53, go_sem, hc2, hz2]) rfl (by rw [HR.out]; exact cutOut_of (rfl) (set3 (below_trans (gr1 _ _) hb2) _ _ _))
        by_cases hb1 : b1.toNat = 1
        · have HR := hide (show cutV (t :: b1 :: r1) = ⟨1, 1, [], 2, 0⟩ from by simp [cutV, t1, hb1])
          have hbi : (b1.toNat : Int) = 1 := by omega
          clear t0 t1 hb1
          go_enter Tryd.func53, Tryd.ntmps53
          go_wp2_with (go_at_call 65; refine (rbool7_any true _).mono ?_; rintro e w2 ⟨rfl, hb2⟩; obtain ⟨hc2, hf2⟩ := bcell hb2; have hz2 := bz hb2)
          exact bodyPost_ret (v := .tuple #[.agg #[.int .i64 1, .int .i64 1, .string ⟨#[]⟩], .int .i64 2, .int .i64 0]) (by simp [results, Tryd.results53, go_sem, hc2, hz2]) rfl (by rw [HR.out]; exact cutOut_of (rfl) (set3 (below_trans (gr1 _ _) hb2) _ _ _))
        · have hbi : (1 : Int) < b1.toNat := by omega
          have HR := hide (show cutV (t :: b1 :: r1) = ⟨0, 0, [], 0, 3⟩ from by simp [cutV, t1]; omega)
          clear t0 t1 hb0 hb1
          go_enter Tryd.func53, Tryd.ntmps53
          go_wp2_with fail
          exact bodyPost_ret (v := .tuple #[.agg #[.int .i64 0, .int .i64 0, .string ⟨#[]⟩], .int .i64 0, .int .i64 3]) (by simp [results, Tryd.results53, go_sem]) rfl (by rw [HR.out]; exact cutOut_of (rfl) (gr1 _ _))
    by_cases t2 : t.toNat = 2
    · have t2i : (t.toNat : Int) = 2 := by omega
      have hn := cut_n r
      by_cases he : (cut r).2.2 = 0
      · have he' : (((cut r).2.2 : Int) != 0) = false := by rw [he]; rfl
        have HR := hide (show cutV (t :: r) = ⟨2, zag (cut r).1, [], (cut r).2.1 + 1, 0⟩ from by simp [cutV, t2, he])
        clear t0 t1 t2 he
        go_enter Tryd.func53, Tryd.ntmps53
        go_wp2_with (first
          | (go_at_call 42; refine (rint7_any _ _).mono ?_; rintro e w2 ⟨rfl, hb2⟩; obtain ⟨hc2, hf2⟩ := bcell hb2; have hz2 := bz hb2)
          | (go_at_call 66; refine (rcutint_any r _ hr2).mono ?_; rintro e w' ⟨rfl, rfl⟩))
        exact bodyPost_ret (v := .tuple #[.agg #[.int .i64 2, .int .i64 (zag (cut r).1), .string ⟨#[]⟩], .int .i64 (((cut r).2.1 : Int) + 1), .int .i64 0]) (by simp [results, Tryd.results53, go_sem, hc2, hz2]) rfl (by rw [HR.out]; exact cutOut_of (by simp) (set3 (below_trans (gr1 _ _) hb2) _ _ _))
      · have he' : (((cut r).2.2 : Int) != 0) = true := by rw [bne_iff_ne]; omega
        have HR := hide (show cutV (t :: r) = ⟨0, 0, [], 0, (cut r).2.2⟩ from by simp [cutV, t2, he])
        clear t0 t1 t2 he
        go_enter Tryd.func53, Tryd.ntmps53
        go_wp2_with (go_at_call 66; refine (rcutint_any r _ hr2).mono ?_; rintro e w' ⟨rfl, rfl⟩)
        exact bodyPost_ret (v := .tuple #[.agg #[.int .i64 0, .int .i64 0, .string ⟨#[]⟩], .int .i64 0, .int .i64 (cut r).2.2]) (by simp [results, Tryd.results53, go_sem]) rfl (by rw [HR.out]; exact cutOut_of (rfl) (gr1 _ _))
    by_cases t3 : t.toNat = 3
    · have t3i : (t.toNat : Int) = 3 := by omega
      have hn := cutText_n r
      by_cases he : (CutText r).2.2 = 0
      · have hei : ((CutText r).2.2 : Int) = 0 := by omega
        by_cases hlong : 64 < (CutText r).1.length
        · have hli : (64 : Int) < ((CutText r).1.length : Int) := by omega
          have HR := hide (show cutV (t :: r) = ⟨0, 0, [], 0, 5⟩ from by simp [cutV, t3, he, hlong])
          clear t0 t1 t2 t3 he hlong
          go_enter Tryd.func53, Tryd.ntmps53
          go_wp2_with (go_at_call 52; refine (rcuttext_any r _ hr2).mono ?_; rintro e w' ⟨rfl, rfl⟩)
          exact bodyPost_ret (v := .tuple #[.agg #[.int .i64 0, .int .i64 0, .string ⟨#[]⟩], .int .i64 0, .int .i64 5]) (by simp [results, Tryd.results53, go_sem]) rfl (by rw [HR.out]; exact cutOut_of (rfl) (gr1 _ _))
        · have hli : ¬ (64 : Int) < ((CutText r).1.length : Int) := by omega
          have HR := hide (show cutV (t :: r) = ⟨3, 0, (CutText r).1, (CutText r).2.1 + 1, 0⟩ from by simp [cutV, t3, he, hlong])
          clear t0 t1 t2 t3 he hlong
          go_enter Tryd.func53, Tryd.ntmps53
          go_wp2_with (go_at_call 52; refine (rcuttext_any r _ hr2).mono ?_; rintro e w' ⟨rfl, rfl⟩)
          exact bodyPost_ret (v := .tuple #[.agg #[.int .i64 3, .int .i64 0, .string ⟨(CutText r).1.toArray⟩], .int .i64 (((CutText r).2.1 : Int) + 1), .int .i64 0]) (by simp [results, Tryd.results53, go_sem]) rfl (by rw [HR.out]; exact cutOut_of (by simp) (gr1 _ _))
      · have he0 : (((CutText r).2.2 : Int) == 0) = false := nat_ne8 (k := 0) he
        have he' : (((CutText r).2.2 : Int) != 0) = true := by rw [bne_iff_ne]; omega
        have HR := hide (show cutV (t :: r) = ⟨0, 0, [], 0, (CutText r).2.2⟩ from by simp [cutV, t3, he])
        clear t0 t1 t2 t3 he
        go_enter Tryd.func53, Tryd.ntmps53
        go_wp2_with (go_at_call 52; refine (rcuttext_any r _ hr2).mono ?_; rintro e w' ⟨rfl, rfl⟩)
        exact bodyPost_ret (v := .tuple #[.agg #[.int .i64 0, .int .i64 0, .string ⟨#[]⟩], .int .i64 0, .int .i64 (CutText r).2.2]) (by simp [results, Tryd.results53, go_sem]) rfl (by rw [HR.out]; exact cutOut_of (rfl) (gr1 _ _))
    have tgi : (3 : Int) < (t.toNat : Int) := by omega
    have HR := hide (show cutV (t :: r) = ⟨0, 0, [], 0, 3⟩ from by simp [cutV, t0, t1, t2, t3])
    clear t0 t1 t2 t3
    go_enter Tryd.func53, Tryd.ntmps53
    go_wp2_with fail
    exact bodyPost_ret (v := .tuple #[.agg #[.int .i64 0, .int .i64 0, .string ⟨#[]⟩], .int .i64 0, .int .i64 3]) (by simp [results, Tryd.results53, go_sem]) rfl (by rw [HR.out]; exact cutOut_of (rfl) (gr1 _ _))
end Go.Proofs.YtagdjoabpkmomaaDoor
