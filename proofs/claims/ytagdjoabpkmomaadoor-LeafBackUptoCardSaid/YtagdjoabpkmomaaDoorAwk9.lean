/-
  The walk of the law's awake: the chapter's examples.
-/
import Derived.Test.YtagdjoabpkmomaaDoorChunk
import Derived.Test.YtagdjoabpkmomaaDoorEqIt
namespace Go.Proofs.YtagdjoabpkmomaaDoor
open Go.RowKit
set_option maxRecDepth 100000
set_option linter.unusedSimpArgs false
set_option linter.unusedVariables false

theorem rint7_any (n : Int) (w : World) : Calls Tryd.prog 42 #[.int .i64 n] w fun e w' => e = .returned (.agg #[.int .i64 2, .int .i64 n, .string ⟨#[]⟩]) ∧ Below w.heap.size w w' := by
  go_enter Tryd.func42, Tryd.ntmps42
  go_wp2_with fail
  exact bodyPost_ret (v := .agg #[.int .i64 2, .int .i64 n, .string ⟨#[]⟩]) (by simp [results, Tryd.results42, go_sem]) rfl ⟨rfl, by first | exact gr1 _ _ | exact gr2 _ _ _⟩

theorem own_cap {w : World} {base : Nat} {e : TypeId} {size : Nat} {A : Option Addr} {n c : Nat} {xs : List Value} (h : w.ownsRow base e size (.slice A n c) n xs) : n ≤ c ∧ c ≤ maxLen := by
  rcases h.2 with ⟨h1, h2⟩ | ⟨g, cap, cur, h1, _, _, h3, h4, _⟩
  · injection h1 with _ h5 h6; subst h6; rw [h2]; exact ⟨Nat.le_refl _, by simp [maxLen]⟩
  · injection h1 with _ _ h6; subst h6; exact ⟨h3, h4⟩
def exX : Item := ⟨[97], 2, 1, [], 5⟩
theorem exLeaf : leafB [exX] = true := by decide
theorem exThere : thereK [exX] [97] = true := by decide
theorem exPut : putK [] ⟨[97], 2, 1, [], 5⟩ = ([exX], 0) := by decide
theorem exGet : getK [exX] [97] = some exX := by decide
theorem exDel : delK [exX] [97] = ([], 0) := by decide
theorem exDel2 : delK [] [97] = ([], 6) := by decide
theorem exChunks : chunksP [exX] = [[1, 1, 97, 2, 2, 5]] := by
  have h : encI exX = [1, 97, 2, 2, 5] := by
    unfold encI exX encV
    simp only [List.length_cons, List.length_nil]
    rw [put_lt (0 + 1) (by omega), put_lt (zig 1) (by decide), put_lt (Int.toNat 5) (by decide)]
    decide
  unfold chunksP
  rw [exLeaf, if_pos rfl, chunksL_cons _ (by decide)]
  simp only [List.take_succ_cons, List.take_nil, List.drop_succ_cons, List.drop_nil, grpB, List.map_cons, List.map_nil, h]
  rfl
theorem exWeight : weightP [exX] = 3 := by
  unfold weightP
  rw [exLeaf, if_pos rfl]
  unfold weight exX encV
  simp only [List.map_cons, List.map_nil]
  rw [put_lt _ (by decide)]
  rfl

theorem alloc_size {w w1 : World} (h : Below w.heap.size w w1) (o : Obj) : Below w.heap.size w (w1.alloc o) := h.alloc h.size o
set_option maxHeartbeats 8000000 in
theorem awake_any (w : World) (hS : Sig w) : Calls Tryd.prog 14 #[] w fun e w' => e = .returned (.bool true) ∧ Below w.heap.size w w' := by
  have hput : ∀ w, Sig w → Calls Tryd.prog 18 #[.slice none 0 0, .agg #[.string ⟨#[97]⟩, .int .i64 2, .int .i64 1, .string ⟨#[]⟩, .int .i64 5]] w fun e w' => ∃ A c, e = .returned (.tuple #[.slice A 1 c, .int .i64 0]) ∧ Fs Item.cells 5 w' A [exX] ∧ 1 ≤ c ∧ c ≤ maxLen ∧ Below w.heap.size w w' := fun w hS =>
    (put_item_any none [] 0 [97] 2 1 [] 5 w hS (Fs.empty _ _) (Nat.le_refl _) (by simp)).mono fun e w' h => by
      rw [exPut] at h
      obtain ⟨A, c, he, hown, hb⟩ := h
      exact ⟨A, c, he, Fs.of_own rfl hown, (own_cap hown).1, (own_cap hown).2, hb⟩
  have hget : ∀ A c w, Sig w → Fs Item.cells 5 w A [exX] → Calls Tryd.prog 17 #[.slice A 1 c, .string ⟨#[97]⟩] w fun e w' => e = .returned (.tuple #[.agg #[.string ⟨#[97]⟩, .int .i64 2, .int .i64 1, .string ⟨#[]⟩, .int .i64 5], .bool true]) ∧ Below w.heap.size w w' := fun A c w hS hF =>
    (get_any A [exX] c [97] w hS hF (by simp)).mono fun e w' h => by rw [exGet] at h; exact h
  have hdel : ∀ A c w, Sig w → Fs Item.cells 5 w A [exX] → 1 ≤ c → Calls Tryd.prog 19 #[.slice A 1 c, .string ⟨#[97]⟩] w fun e w' => ∃ A' c', e = .returned (.tuple #[.slice A' 0 c', .int .i64 0]) ∧ Below w.heap.size w w' := fun A c w hS hF hc =>
    (del_any A [exX] c [97] w hS hF hc (by simp)).mono fun e w' h => by
      rw [exDel] at h
      obtain ⟨A', c', he, hown, hb⟩ := h
      exact ⟨A', c', he, hb⟩
  have hdel2 : ∀ A c w, Sig w → Calls Tryd.prog 19 #[.slice A 0 c, .string ⟨#[97]⟩] w fun e w' => ∃ A' c', e = .returned (.tuple #[.slice A' 0 c', .int .i64 6]) ∧ Below w.heap.size w w' := fun A c w hS =>
    (del_any A [] c [97] w hS (Fs.empty _ _) (Nat.zero_le _) (by simp)).mono fun e w' h => by
      rw [exDel2] at h
      obtain ⟨A', c', he, hown, hb⟩ := h
      exact ⟨A', c', he, hb⟩
  have hchk : ∀ A c w, Sig w → Fs Item.cells 5 w A [exX] → 1 ≤ c → c ≤ maxLen → Calls Tryd.prog 29 #[.slice A 1 c] w fun e w' => ∃ g cap A' c', e = .returned (.slice (some ⟨g, 0, none⟩) 1 cap) ∧ g < w'.heap.size ∧ w'.cell? ⟨g, 0, none⟩ = some (.slice A' 6 c') ∧ Bs w' A' [1, 1, 97, 2, 2, 5] ∧ Below w.heap.size w w' := fun A c w hS hF hc hm =>
    (chunks_any A [exX] c w hS hF (by simp [NumOk, exX]) hc hm (by simp)).mono fun e w' h => by
      rw [exChunks] at h
      obtain ⟨A', c', vs, he, hown, hoa, hb⟩ := h
      obtain ⟨hl, hall⟩ := hoa
      obtain ⟨Ab, cb, hv, hob⟩ := hall 0 (by simp)
      obtain ⟨g, cap, hform, _, hlt⟩ := hown.form (by simp)
      injection hform with hA _ _
      subst hA
      refine ⟨g, c', Ab, cb, he, hlt, ?_, Bs.of_own hob, hb⟩
      have := hown.cells (g := g) rfl 0 _ hv
      rw [show (⟨g, 0, none⟩ : Addr).add 0 = ⟨g, 0, none⟩ from rfl] at this
      exact this
  have hwgt : ∀ A c w, Sig w → Fs Item.cells 5 w A [exX] → Calls Tryd.prog 13 #[.slice A 1 c] w fun e w' => e = .returned (.int .i64 3) ∧ Below w.heap.size w w' := fun A c w hS hF =>
    (weight_any A [exX] c w hS hF (by simp [NumOk, exX]) (by simp)).mono fun e w' h => by rw [exWeight] at h; exact h
  have HPUT := hide hput; have HGET := hide hget; have HDEL := hide hdel; have HDEL2 := hide hdel2; have HCHK := hide hchk; have HWGT := hide hwgt
  have HSg := hide hS
  clear hput hget hdel hdel2 hchk hwgt hS
  go_enter Tryd.func14, Tryd.ntmps14
  go_wp2_with (first
    | (go_at_call 42; refine (rint7_any 1 _).mono ?_; rintro e w1 ⟨rfl, hb1⟩; obtain ⟨hc1, hf1⟩ := bcell hb1; have hbl1 := alloc_size hb1 (.cells #[.string ⟨#[97]⟩, .int .i64 2, .int .i64 1, .string ⟨#[]⟩, .int .i64 5] 32))
    | (go_at_call 18; refine (HPUT.out _ (HSg.out.below hbl1)).mono ?_; rintro e w2 ⟨A2, c2, rfl, hF2, h12, hm2, hb2⟩; obtain ⟨hc2, hf2⟩ := bcell hb2; have hbl2 := below_trans hbl1 hb2; have hz2 : w1.heap.size < w2.heap.size := bz hb2; have HF2 := hide hF2; clear hF2)
    | (go_at_call 17; refine (HGET.out A2 c2 _ (HSg.out.below hbl2) HF2.out).mono ?_; rintro e w3 ⟨rfl, hb3⟩; obtain ⟨hc3, hf3⟩ := bcell hb3; have hbl3 := below_trans hbl2 (alloc_size hb3 (.cells #[.string ⟨#[97]⟩, .int .i64 2, .int .i64 1, .string ⟨#[]⟩, .int .i64 5] 32)); have hz3 : w1.heap.size < w3.heap.size := Nat.lt_of_lt_of_le hz2 hb3.size; have HF3 := hide ((HF2.out.below hb3).alloc (.cells #[.string ⟨#[97]⟩, .int .i64 2, .int .i64 1, .string ⟨#[]⟩, .int .i64 5] 32)))
    | (go_at_call 19; refine (HDEL2.out A4 c4 _ (HSg.out.below hbl4)).mono ?_; rintro e w5 ⟨A5, c5, rfl, hb5⟩; obtain ⟨hc5, hf5⟩ := bcell hb5; have hbl5 := below_trans hbl4 hb5; have hz5 : w3.heap.size < w5.heap.size := Nat.lt_of_lt_of_le hz4 hb5.size; have HF5 := hide (HF4.out.below hb5))
    | (go_at_call 19; refine (HDEL.out A2 c2 _ (HSg.out.below hbl3) HF3.out h12).mono ?_; rintro e w4 ⟨A4, c4, rfl, hb4⟩; obtain ⟨hc4, hf4⟩ := bcell hb4; have hbl4 := below_trans hbl3 hb4; have hz4 : w3.heap.size < w4.heap.size := bz hb4; have HF4 := hide (HF3.out.below hb4))
    | (go_at_call 29; refine (HCHK.out A2 c2 _ (HSg.out.below hbl5) HF5.out h12 hm2).mono ?_; rintro e w6 ⟨g6, cap6, A6, c6, rfl, hg6, hcg6, hbs6, hb6⟩; obtain ⟨hc6, hf6⟩ := bcell hb6; have hbl6 := below_trans hbl5 hb6; have hz6 : w3.heap.size < w6.heap.size := Nat.lt_of_lt_of_le hz5 hb6.size; have hz61 : w1.heap.size < w6.heap.size := Nat.lt_trans hz3 hz6; have hz51 : w1.heap.size < w5.heap.size := Nat.lt_trans hz3 hz5; have hz41 : w1.heap.size < w4.heap.size := Nat.lt_trans hz3 hz4; have HF6 := hide (HF5.out.below hb6); have hstr : (_root_.Go.convert 58 9 (.slice A6 6 c6)).run Tryd.prog w6 = .ok (.string ⟨#[1, 1, 97, 2, 2, 5]⟩) w6 := run_str _ _ c6 _ hbs6; clear hbs6)
    | (go_at_call 13; refine (HWGT.out A2 c2 _ (HSg.out.below hbl6) HF6.out).mono ?_; rintro e w7 ⟨rfl, hb7⟩))
  go_ret
  exact ⟨rfl, below_trans hbl6 hb7⟩
end Go.Proofs.YtagdjoabpkmomaaDoor
