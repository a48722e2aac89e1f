/-
  The walk of leaf.item: an item cut from the front.
-/
import Derived.Test.YtagdjoabpkmomaaDoorCutv
import Derived.Test.YtagdjoabpkmomaaDoorFew
namespace Go.Proofs.YtagdjoabpkmomaaDoor
open Go.RowKit
set_option maxRecDepth 100000
set_option linter.unusedSimpArgs false
set_option linter.unusedVariables false

/-- an item cut from the front: the item, how many bytes, the error -/
structure CutI where
  x : Item
  n : Nat
  e : Nat
def clampV (u : Nat) : Nat := if 2147483647 < u then 2147483648 else u
def cutI (l : Bytes) : CutI :=
  let a := CutText l
  let v := cutV (l.drop a.2.1)
  let u := cut (l.drop (a.2.1 + v.n))
  if a.2.2 ≠ 0 then ⟨Item.zero, 0, a.2.2⟩ else if v.e ≠ 0 then ⟨Item.zero, 0, v.e⟩ else if u.2.2 ≠ 0 then ⟨Item.zero, 0, u.2.2⟩
  else ⟨⟨a.1, v.kind, v.i, v.s, clampV u.1⟩, a.2.1 + v.n + u.2.1, 0⟩
def CutIOut (w : World) (c : CutI) (e : Ending) (w' : World) : Prop :=
  e = .returned (.tuple #[.agg #[.string ⟨c.x.key.toArray⟩, .int .i64 c.x.kind, .int .i64 c.x.i, .string ⟨c.x.s.toArray⟩, .int .i64 c.x.ver], .int .i64 c.n, .int .i64 c.e]) ∧ Below w.heap.size w w'
theorem cutV_n (l : Bytes) : (cutV l).n ≤ l.length := by
  match l with
  | [] => simp [cutV]
  | [t] =>
    have h1 := (cut_n []).2.1
    have h2 := cutText_n []
    simp only [List.length_nil, Nat.le_zero] at h1 h2
    simp only [cutV, List.length_cons, List.length_nil]
    repeat' split
    all_goals simp [h1, h2]
  | t :: b :: r1 =>
    have h1 := (cut_n (b :: r1)).2.1
    have h2 := cutText_n (b :: r1)
    simp only [List.length_cons] at h1 h2
    simp only [cutV, List.length_cons]
    repeat' split
    all_goals first | omega | (simp; done) | (simp; omega)
theorem set5a {w w1 : World} (h : Below w.heap.size w w1) (u0 u1 u2 u3 u4 : Value) (o : Obj) :
    Below w.heap.size w ((((((w1.setCell ⟨w.heap.size, 0, none⟩ u0).setCell ⟨w.heap.size, 1, none⟩ u1).setCell ⟨w.heap.size, 2, none⟩ u2).setCell ⟨w.heap.size, 3, none⟩ u3).setCell ⟨w.heap.size, 4, none⟩ u4).alloc o) :=
  (set5 h u0 u1 u2 u3 u4).alloc (set5 h u0 u1 u2 u3 u4).size o
set_option maxHeartbeats 4000000 in
theorem cuti_any (A : Option Addr) (l : Bytes) (c : Nat) (w : World) (hF : Bs w A l) (hl : l.length ≤ 34359738368) (hlc : l.length ≤ c) (hcm : c ≤ maxLen) :
    Calls Tryd.prog 51 #[.slice A l.length c] w (CutIOut w (cutI l)) := by
  have HF := hide hF
  clear hF
  have hcm2 : c ≤ 9223372036854775807 := by unfold maxLen at hcm; omega
  have ha := cutText_n l
  by_cases he : (CutText l).2.2 = 0
  · have he' : (((CutText l).2.2 : Int) != 0) = false := by rw [he]; rfl
    have hcut1 := fun w => run_cut_from Tryd.underlying58 size_u8 A l.length c (CutText l).2.1 ha ((CutText l).2.1 : Int) rfl w
    have hB1 : Bs w (cutA A c (CutText l).2.1 1) (l.drop (CutText l).2.1) := by
      have := HF.out.cutA (lo := (CutText l).2.1) (n := l.length - (CutText l).2.1) (c := c) (by omega) hlc
      rwa [List.take_of_length_le (by simp)] at this
    have HF1 := hide hB1
    have HCV := hide (show ∀ w', Bs w' (cutA A c (CutText l).2.1 1) (l.drop (CutText l).2.1) → Calls Tryd.prog 63 #[.slice (cutA A c (CutText l).2.1 1) (l.length - (CutText l).2.1) (c - (CutText l).2.1)] w' (CutOut w' (cutV (l.drop (CutText l).2.1))) from fun w' h => by
      have := cutv_any _ _ (c - (CutText l).2.1) w' h (by simp; omega) (by simp; omega) (by omega)
      rwa [List.length_drop] at this)
    have hvn := cutV_n (l.drop (CutText l).2.1)
    rw [List.length_drop] at hvn
    generalize hA1 : cutA A c (CutText l).2.1 1 = A1 at hcut1 HF1 HCV
    clear hB1 hA1
    have HVV := hide (show cutI l = if (cutV (l.drop (CutText l).2.1)).e ≠ 0 then ⟨Item.zero, 0, (cutV (l.drop (CutText l).2.1)).e⟩ else if (cut (l.drop ((CutText l).2.1 + (cutV (l.drop (CutText l).2.1)).n))).2.2 ≠ 0 then ⟨Item.zero, 0, (cut (l.drop ((CutText l).2.1 + (cutV (l.drop (CutText l).2.1)).n))).2.2⟩ else ⟨⟨(CutText l).1, (cutV (l.drop (CutText l).2.1)).kind, (cutV (l.drop (CutText l).2.1)).i, (cutV (l.drop (CutText l).2.1)).s, clampV (cut (l.drop ((CutText l).2.1 + (cutV (l.drop (CutText l).2.1)).n))).1⟩, (CutText l).2.1 + (cutV (l.drop (CutText l).2.1)).n + (cut (l.drop ((CutText l).2.1 + (cutV (l.drop (CutText l).2.1)).n))).2.1, 0⟩ from by simp [cutI, he])
    clear he
    generalize cutV (l.drop (CutText l).2.1) = V at HCV hvn HVV
    obtain ⟨vk, vi, vs, vn, ve⟩ := V
    simp only at hvn
    by_cases hv : ve = 0
    · have hv' : ((ve : Int) != 0) = false := by rw [hv]; rfl
      have hcut2 := fun w => run_cut_from Tryd.underlying58 size_u8 A l.length c ((CutText l).2.1 + vn) (by omega) (((CutText l).2.1 : Int) + (vn : Int)) (by omega) w
      have hB2 : Bs w (cutA A c ((CutText l).2.1 + vn) 1) (l.drop ((CutText l).2.1 + vn)) := by
        have := HF.out.cutA (lo := (CutText l).2.1 + vn) (n := l.length - ((CutText l).2.1 + vn)) (c := c) (by omega) hlc
        rwa [List.take_of_length_le (by simp)] at this
      have HF2 := hide hB2
      have HCC := hide (show ∀ w', Bs w' (cutA A c ((CutText l).2.1 + vn) 1) (l.drop ((CutText l).2.1 + vn)) → Calls Tryd.prog 64 #[.slice (cutA A c ((CutText l).2.1 + vn) 1) (l.length - ((CutText l).2.1 + vn)) (c - ((CutText l).2.1 + vn))] w' (fun e w2 => e = .returned (.tuple #[.int .u64 (cut (l.drop ((CutText l).2.1 + vn))).1, .int .i64 (cut (l.drop ((CutText l).2.1 + vn))).2.1, .int .i64 (cut (l.drop ((CutText l).2.1 + vn))).2.2]) ∧ w' = w2) from fun w' h => by
        have := cut_any _ _ (c - ((CutText l).2.1 + vn)) w' h (by simp; omega)
        rwa [List.length_drop] at this)
      have hun := cut_n (l.drop ((CutText l).2.1 + vn))
      have hul := cut_lt (l.drop ((CutText l).2.1 + vn))
      generalize cutA A c ((CutText l).2.1 + vn) 1 = A3 at hcut2 HF2 HCC
      clear hB2
      generalize cut (l.drop ((CutText l).2.1 + vn)) = U at HCC HVV hun hul
      obtain ⟨u1, un, ue⟩ := U
      simp only at hun hul
      by_cases hu : ue = 0
      · have hu' : ((ue : Int) != 0) = false := by rw [hu]; rfl
        by_cases hbig : 2147483647 < u1
        · have hbi : (2147483647 : Int) < (u1 : Int) := by omega
          have HR := hide (show cutI l = ⟨⟨(CutText l).1, vk, vi, vs, ((2147483648 : Nat) : Int)⟩, (CutText l).2.1 + vn + un, 0⟩ from by rw [HVV.out]; simp [hv, hu, clampV, hbig])
          clear hv hu hbig
          go_enter Tryd.func51, Tryd.ntmps51
          go_wp2_with (first
            | (go_at_call 64; refine (HCC.out _ ((HF2.out.below (below_trans (gr1 _ _) hb2)).alloc _)).mono ?_; rintro e w' ⟨rfl, rfl⟩)
            | (go_at_call 63; refine (HCV.out _ (HF1.out.below (gr1 _ _))).mono ?_; rintro e w2 ⟨rfl, hb2⟩; obtain ⟨hc2, hf2⟩ := bcell hb2; have hz2 := bz hb2)
            | (go_at_call 62; refine (cuttext_any A l c _ (HF.out.below (gr1 _ _)) hl hlc hcm2).mono ?_; rintro e w' ⟨rfl, rfl⟩))
          exact bodyPost_ret (v := .tuple #[.agg #[.string ⟨(CutText l).1.toArray⟩, .int .i64 vk, .int .i64 vi, .string ⟨vs.toArray⟩, .int .i64 2147483648], .int .i64 (((CutText l).2.1 : Int) + (vn : Int) + (un : Int)), .int .i64 0]) (by simp [results, Tryd.results51, go_sem, hc2, hz2]) rfl (by rw [HR.out]; exact ⟨by simp, set5a (below_trans (gr1 _ _) hb2) _ _ _ _ _ _⟩)
        · have hbi : ¬ (2147483647 : Int) < (u1 : Int) := by omega
          have HR := hide (show cutI l = ⟨⟨(CutText l).1, vk, vi, vs, (u1 : Int)⟩, (CutText l).2.1 + vn + un, 0⟩ from by rw [HVV.out]; simp [hv, hu, clampV, hbig])
          clear hv hu hbig
          go_enter Tryd.func51, Tryd.ntmps51
          go_wp2_with (first
            | (go_at_call 64; refine (HCC.out _ ((HF2.out.below (below_trans (gr1 _ _) hb2)).alloc _)).mono ?_; rintro e w' ⟨rfl, rfl⟩)
            | (go_at_call 63; refine (HCV.out _ (HF1.out.below (gr1 _ _))).mono ?_; rintro e w2 ⟨rfl, hb2⟩; obtain ⟨hc2, hf2⟩ := bcell hb2; have hz2 := bz hb2)
            | (go_at_call 62; refine (cuttext_any A l c _ (HF.out.below (gr1 _ _)) hl hlc hcm2).mono ?_; rintro e w' ⟨rfl, rfl⟩))
          exact bodyPost_ret (v := .tuple #[.agg #[.string ⟨(CutText l).1.toArray⟩, .int .i64 vk, .int .i64 vi, .string ⟨vs.toArray⟩, .int .i64 u1], .int .i64 (((CutText l).2.1 : Int) + (vn : Int) + (un : Int)), .int .i64 0]) (by simp [results, Tryd.results51, go_sem, hc2, hz2]) rfl (by rw [HR.out]; exact ⟨by simp, set5a (below_trans (gr1 _ _) hb2) _ _ _ _ _ _⟩)
      · have hu' : ((ue : Int) != 0) = true := by rw [bne_iff_ne]; omega
        have HR := hide (show cutI l = ⟨Item.zero, 0, ue⟩ from by rw [HVV.out]; simp [hv, hu])
        clear hv hu
        go_enter Tryd.func51, Tryd.ntmps51
        go_wp2_with (first
          | (go_at_call 64; refine (HCC.out _ ((HF2.out.below (below_trans (gr1 _ _) hb2)).alloc _)).mono ?_; rintro e w' ⟨rfl, rfl⟩)
          | (go_at_call 63; refine (HCV.out _ (HF1.out.below (gr1 _ _))).mono ?_; rintro e w2 ⟨rfl, hb2⟩; obtain ⟨hc2, hf2⟩ := bcell hb2; have hz2 := bz hb2)
          | (go_at_call 62; refine (cuttext_any A l c _ (HF.out.below (gr1 _ _)) hl hlc hcm2).mono ?_; rintro e w' ⟨rfl, rfl⟩))
        exact bodyPost_ret (v := .tuple #[.agg #[.string ⟨#[]⟩, .int .i64 0, .int .i64 0, .string ⟨#[]⟩, .int .i64 0], .int .i64 0, .int .i64 ue]) (by simp [results, Tryd.results51, go_sem, hc2, hz2]) rfl (by rw [HR.out]; exact ⟨rfl, set5a (below_trans (gr1 _ _) hb2) _ _ _ _ _ _⟩)
    · have hv' : ((ve : Int) != 0) = true := by rw [bne_iff_ne]; omega
      have HR := hide (show cutI l = ⟨Item.zero, 0, ve⟩ from by rw [HVV.out]; simp [hv])
      clear hv
      go_enter Tryd.func51, Tryd.ntmps51
      go_wp2_with (first
        | (go_at_call 63; refine (HCV.out _ (HF1.out.below (gr1 _ _))).mono ?_; rintro e w2 ⟨rfl, hb2⟩; obtain ⟨hc2, hf2⟩ := bcell hb2; have hz2 := bz hb2)
        | (go_at_call 62; refine (cuttext_any A l c _ (HF.out.below (gr1 _ _)) hl hlc hcm2).mono ?_; rintro e w' ⟨rfl, rfl⟩))
      exact bodyPost_ret (v := .tuple #[.agg #[.string ⟨#[]⟩, .int .i64 0, .int .i64 0, .string ⟨#[]⟩, .int .i64 0], .int .i64 0, .int .i64 ve]) (by simp [results, Tryd.results51, go_sem, hc2, hz2]) rfl (by rw [HR.out]; exact ⟨rfl, set5a (below_trans (gr1 _ _) hb2) _ _ _ _ _ _⟩)
  · have he' : (((CutText l).2.2 : Int) != 0) = true := by rw [bne_iff_ne]; omega
    have HR := hide (show cutI l = ⟨Item.zero, 0, (CutText l).2.2⟩ from by simp [cutI, he])
    clear he
    go_enter Tryd.func51, Tryd.ntmps51
    go_wp2_with (go_at_call 62; refine (cuttext_any A l c _ (HF.out.below (gr1 _ _)) hl hlc hcm2).mono ?_; rintro e w' ⟨rfl, rfl⟩)
    exact bodyPost_ret (v := .tuple #[.agg #[.string ⟨#[]⟩, .int .i64 0, .int .i64 0, .string ⟨#[]⟩, .int .i64 0], .int .i64 0, .int .i64 (CutText l).2.2]) (by simp [results, Tryd.results51, go_sem]) rfl (by rw [HR.out]; exact ⟨rfl, gr1 _ _⟩)
end Go.Proofs.YtagdjoabpkmomaaDoor
