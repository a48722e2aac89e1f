/-
  The walk of the law LeafDoes. (Printed by gen_does.py.)
-/
import Derived.Test.YtagdjoabpkmomaaDoorDoes0
namespace Go.Proofs.YtagdjoabpkmomaaDoor
open Go.RowKit
set_option maxRecDepth 100000
set_option linter.unusedSimpArgs false
set_option linter.unusedVariables false
attribute [local go_sem ↓] Go.wp_at_zero Go.wp_at_succ

set_option maxHeartbeats 16000000 in
theorem does_n (w : World) (hS : Sig w) (A : Option Addr) (l m : List Item) (c : Nat) (xk : Bytes) (xd xi : Int) (xs : Bytes) (xv : Int) (k yk ys q : Bytes)
    (hml : m.length ≤ 66) (hfew : Calls Tryd.prog 9 #[.slice A l.length c] (w.alloc (.cells #[.string ⟨xk.toArray⟩, .int .i64 xd, .int .i64 xi, .string ⟨xs.toArray⟩, .int .i64 xv] 32)).drew (FsOut Item.cells 5 32 (w.alloc (.cells #[.string ⟨xk.toArray⟩, .int .i64 xd, .int .i64 xi, .string ⟨xs.toArray⟩, .int .i64 xv] 32)).drew m))
    (hs1 : ∀ w, Calls Tryd.prog 16 #[.string ⟨k.toArray⟩] w fun e w' => e = .returned (.string ⟨q.toArray⟩) ∧ w = w')
    (hone : ∀ w, Calls Tryd.prog 15 #[.agg #[.string ⟨xk.toArray⟩, .int .i64 xd, .int .i64 xi, .string ⟨xs.toArray⟩, .int .i64 xv]] w fun e w' => e = .returned (.agg #[.string ⟨yk.toArray⟩, .int .i64 xd, .int .i64 xi, .string ⟨ys.toArray⟩, .int .i64 xv]) ∧ Below w.heap.size w w')
    (hget : ∀ (A : Option Addr) (c : Nat) w, Sig w → Fs Item.cells 5 w A m → Calls Tryd.prog 17 #[.slice A m.length c, .string ⟨q.toArray⟩] w (fun e w' => e = .returned (.tuple #[.agg #[.string ⟨#[]⟩, .int .i64 0, .int .i64 0, .string ⟨#[]⟩, .int .i64 0], .bool false]) ∧ Below w.heap.size w w'))
    (hput : ∀ (A : Option Addr) (c : Nat) w, Sig w → Fs Item.cells 5 w A m → m.length ≤ c → Calls Tryd.prog 18 #[.slice A m.length c, .agg #[.string ⟨yk.toArray⟩, .int .i64 xd, .int .i64 xi, .string ⟨ys.toArray⟩, .int .i64 xv]] w (fun e w' => ∃ (A2 : Option Addr) (c2 : Nat), e = .returned (.tuple #[.slice A2 0 c2, .int .i64 1]) ∧ Below w.heap.size w w'))
    (hdel : ∀ (A : Option Addr) (c : Nat) w, Sig w → Fs Item.cells 5 w A m → m.length ≤ c → Calls Tryd.prog 19 #[.slice A m.length c, .string ⟨q.toArray⟩] w (fun e w' => ∃ (A2 : Option Addr) (c2 : Nat), e = .returned (.tuple #[.slice A2 0 c2, .int .i64 1]) ∧ Below w.heap.size w w'))
    (hsm : ∀ (A B : Option Addr) (c d : Nat) (l : List Item) w, Fs Item.cells 5 w A l → Fs Item.cells 5 w B l → l.length ≤ 100 → Calls Tryd.prog 20 #[.slice A l.length c, .slice B l.length d] w (fun e w' => e = .returned (.bool true) ∧ Below w.heap.size w w'))
    (his : ∀ (A : Option Addr) (c : Nat) w, Fs Item.cells 5 w A m → Calls Tryd.prog 21 #[.slice A m.length c] w (fun e w' => e = .returned (.bool false) ∧ Below w.heap.size w w'))
    :
    Calls Tryd.prog 4 #[.slice A l.length c, .agg #[.string ⟨xk.toArray⟩, .int .i64 xd, .int .i64 xi, .string ⟨xs.toArray⟩, .int .i64 xv], .string ⟨k.toArray⟩] w fun e w' => e = .returned (.bool true) ∧ Below w.heap.size w w' := by
  have HFEW := hide hfew; clear hfew
  have HS1 := hide hs1; clear hs1
  have HONE := hide hone; clear hone
  have HS := hide hS; clear hS
  have HGET := hide hget; clear hget
  have HPUT := hide hput; clear hput
  have HDEL := hide hdel; clear hdel
  have HSM := hide hsm; clear hsm
  have HIS := hide his; clear his
  go_enter Tryd.func4, Tryd.ntmps4
  go_wp2_with fail
  go_region_with
    (first
      | (go_at_call 9; refine HFEW.out.mono ?_; rintro e w1 ⟨A1, c1, rfl, hown1, hb1⟩; obtain ⟨hc1, hf1⟩ := bcell hb1; have hz1 : w.heap.size < w1.heap.size := by have := hb1.size; simp at this; omega)
      | (go_at_call 15; refine (HONE.out _).mono ?_; rintro e w2 ⟨rfl, hb2⟩; obtain ⟨hc2, hf2⟩ := bcell hb2; have hz2 : w.heap.size < w2.heap.size := Nat.lt_of_lt_of_le hz1 hb2.size)
      | (go_at_call 16; refine (HS1.out _).mono ?_; rintro e w' ⟨rfl, rfl⟩))
  all_goals
    have hcc := hide (own_cap hown1)
    have hxx := st5_bx (w := w2) (b := w.heap.size) (v0 := .string ⟨xk.toArray⟩) (v1 := .int .i64 xd) (v2 := .int .i64 xi) (v3 := .string ⟨xs.toArray⟩) (v4 := .int .i64 xv) yk xd xi ys xv hz2 (by rw [hc2 _ _ hz1, hc1 _ _ (by simp)]; simp) (by rw [hc2 _ _ hz1, hc1 _ _ (by simp)]; simp) (by rw [hc2 _ _ hz1, hc1 _ _ (by simp)]; simp) (by rw [hc2 _ _ hz1, hc1 _ _ (by simp)]; simp) (by rw [hc2 _ _ hz1, hc1 _ _ (by simp)]; simp)
    have hbw := set5 (below_trans (below_trans (gr1d w _) hb1) hb2) (.string ⟨yk.toArray⟩) (.int .i64 xd) (.int .i64 xi) (.string ⟨ys.toArray⟩) (.int .i64 xv)
    have hF2 := (Fs.of_own rfl hown1).below hb2
    have hF3 : Fs Item.cells 5 (((((w2.setCell ⟨w.heap.size, 0, none⟩ (.string ⟨yk.toArray⟩)).setCell ⟨w.heap.size, 1, none⟩ (.int .i64 xd)).setCell ⟨w.heap.size, 2, none⟩ (.int .i64 xi)).setCell ⟨w.heap.size, 3, none⟩ (.string ⟨ys.toArray⟩)).setCell ⟨w.heap.size, 4, none⟩ (.int .i64 xv)) A1 m := by
      exact hF2.set5 (own_far hown1 (by simp)) _ _ _ _ _
    generalize ((((w2.setCell ⟨w.heap.size, 0, none⟩ (.string ⟨yk.toArray⟩)).setCell ⟨w.heap.size, 1, none⟩ (.int .i64 xd)).setCell ⟨w.heap.size, 2, none⟩ (.int .i64 xi)).setCell ⟨w.heap.size, 3, none⟩ (.string ⟨ys.toArray⟩)).setCell ⟨w.heap.size, 4, none⟩ (.int .i64 xv) = w3 at hxx hbw hF3
    have HX3 := hide hxx; have HB3 := hide hbw; have HF3 := hide hF3
    clear hxx hbw hF3 hF2 hown1 hb1 hb2 hc1 hf1 hc2 hf2 hz1 hz2
    have hzz : ∀ w, (binOp .eql 32 (.agg #[.string ⟨#[]⟩, .int .i64 0, .int .i64 0, .string ⟨#[]⟩, .int .i64 0]) (.agg #[.string ⟨#[]⟩, .int .i64 0, .int .i64 0, .string ⟨#[]⟩, .int .i64 0])).run Tryd.prog w = .ok (.bool true) w := fun w => by have := run_eq_item w [] 0 0 [] 0 [] 0 0 [] 0; simpa using this
    have hzn : ∀ w, (binOp .neq 32 (.agg #[.string ⟨#[]⟩, .int .i64 0, .int .i64 0, .string ⟨#[]⟩, .int .i64 0]) (.agg #[.string ⟨#[]⟩, .int .i64 0, .int .i64 0, .string ⟨#[]⟩, .int .i64 0])).run Tryd.prog w = .ok (.bool false) w := fun w => by have := run_neq_item w [] 0 0 [] 0 [] 0 0 [] 0; simpa using this
    go_wp2_with (first
    | (go_at_call 14; refine (awake_any _ (HS.out.below HB10.out)).mono ?_; rintro e w11 ⟨rfl, hb11⟩)
    | (go_at_call 21; refine (HIS.out A1 c1 _ HF9.out).mono ?_; rintro e w10 ⟨rfl, hb10⟩; have hbb10 := hb10; have HX10 := hide (HX9.out.below hbb10); have HD10 := hide (HD9.out.below hbb10); have HF10 := hide (HF9.out.below hbb10); have HB10 := hide (below_trans HB9.out hbb10); obtain ⟨qD10, pD10_0, pD10_1, pD10_2, pD10_3, pD10_4⟩ := HD10.out; have eD10 := Nat.ne_of_lt qD10; have gD10 := Nat.ne_of_gt qD10; clear hidx hroom; clear hb10 hbb10)
    | (go_at_call 20; refine (HSM.out (some ⟨g5, 0, none⟩) A1 c5 c1 m _ (room_take HP8.out) HF8.out (by omega)).mono ?_; rintro e w9 ⟨rfl, hb9⟩; have hbb9 := hb9; have HX9 := hide (HX8.out.below hbb9); have HD9 := hide (HD8.out.below hbb9); have HF9 := hide (HF8.out.below hbb9); have HP9 := hide (HP8.out.below hbb9); have HB9 := hide (below_trans HB8.out hbb9); have hidx := fun w => run_elemAddr Tryd.underlying22 size_item g5 0 (m.length + 1) c5 m.length (by omega) (m.length : Int) rfl w; simp only [Nat.zero_add] at hidx; have hroom := room_cell HP9.out; clear hb9 hbb9)
    | (go_at_call 19; refine (HDEL.out (some ⟨g5, 0, none⟩) c5 _ (HS.out.below HB7.out) (room_take HP7.out) (by omega)).mono ?_; rintro e w8 ⟨A8, c8, rfl, hb8⟩; have hbb8 := hb8; have HX8 := hide (HX7.out.below hbb8); have HD8 := hide (HD7.out.below hbb8); have HF8 := hide (HF7.out.below hbb8); have HP8 := hide (HP7.out.below hbb8); have HB8 := hide (below_trans HB7.out hbb8); clear hb8 hbb8)
    | (go_at_call 18; refine (HPUT.out (some ⟨g5, 0, none⟩) c5 _ (HS.out.below (below_trans HB6.out (gr1 _ _))) (room_take (HP6.out.below (gr1 _ _))) (by omega)).mono ?_; rintro e w7 ⟨A7, c7, rfl, hb7⟩; have hbb7 := below_trans (gr1 _ _) hb7; have HX7 := hide (HX6.out.below hbb7); have HF7 := hide (HF6.out.below hbb7); have HP7 := hide (HP6.out.below hbb7); have HD7 := hide ((box_bx w6 _ [] 0 0 [] 0).below hb7); have HB7 := hide (below_trans HB6.out hbb7); clear hb7 hbb7 eX6 gX6 pX6_0 pX6_1 pX6_2 pX6_3 pX6_4)
    | (go_at_call 17; refine (HGET.out (some ⟨g5, 0, none⟩) c5 _ (HS.out.below HB5.out) (room_take HP5.out)).mono ?_; rintro e w6 ⟨rfl, hb6⟩; have hbb6 := hb6; have HX6 := hide (HX5.out.below hbb6); have HF6 := hide (HF5.out.below hbb6); have HP6 := hide (HP5.out.below hbb6); have HB6 := hide (below_trans HB5.out hbb6); obtain ⟨qX6, pX6_0, pX6_1, pX6_2, pX6_3, pX6_4⟩ := HX6.out; have eX6 := Nat.ne_of_lt qX6; have gX6 := Nat.ne_of_gt qX6; clear hb6 hbb6)
    | (at_builtin; refine wpList_appE w4 rfl (.tmp 24) (.tmp 26) _ rfl w3 w3.heap.size 32 32 _ 5 56 Tryd.underlying22 info_item rfl (by omega) (by omega) _ m.length _ #[.string ⟨#[]⟩, .int .i64 0, .int .i64 0, .string ⟨#[]⟩, .int .i64 77] (by rfl) w4.heap.size rfl (by rfl) rfl (item_one [] 0 0 [] 77) hown4 hb4 hb4.size (by omega) ?_; intro g5 c5 w5 hown5 hb5; have HP5 := hide (Fs.of_own (f := Item.cells) (l := m ++ [⟨[], 0, 0, [], 77⟩]) (n := m.length + 1) (by simp) (by rw [cells_snoc]; exact hown5)); have HX5 := hide (HX3.out.below hb5); have HF5 := hide (HF3.out.below hb5); have HB5 := hide (below_trans HB3.out hb5); have hcap := own_cap hown5; have hcut := fun w => run_cutH Tryd.underlying22 size_item (some ⟨g5, 0, none⟩) (m.length + 1) c5 m.length (by omega) (m.length : Int) rfl w; clear hown4 hown5 hb4 hb5)
    | (at_builtin; refine wpList_appAny _ rfl (.tmp 22) (.tmp 23) _ rfl w3 w3.heap.size 32 _ 5 56 Tryd.underlying22 info_item rfl (by omega) (by omega) _ 0 _ (by rfl) (show (w3.alloc (.cells #[] 32)).ownsRow w3.heap.size 32 5 (.slice (some ⟨w3.heap.size, 0, none⟩) 0 0) 0 [] from own_new w3 w3.heap.size _ 5 0 #[] (Nat.le_refl _) rfl (by simp [maxLen])) (gr1 w3 _) _ _ _ _ (by rfl) (HF3.out.alloc _) (cells_one _) (by omega) (by simp) ?_; intro A4 c4 w4 hown4 hb4; simp only [Nat.zero_add, List.nil_append] at hown4))
    go_ret
    exact ⟨rfl, below_trans HB10.out hb11⟩

set_option maxHeartbeats 16000000 in
theorem does_am (w : World) (hS : Sig w) (A : Option Addr) (l m : List Item) (c : Nat) (xk : Bytes) (xd xi : Int) (xs : Bytes) (xv : Int) (k yk ys q : Bytes)
    (hml : m.length ≤ 66) (hfew : Calls Tryd.prog 9 #[.slice A l.length c] (w.alloc (.cells #[.string ⟨xk.toArray⟩, .int .i64 xd, .int .i64 xi, .string ⟨xs.toArray⟩, .int .i64 xv] 32)).drew (FsOut Item.cells 5 32 (w.alloc (.cells #[.string ⟨xk.toArray⟩, .int .i64 xd, .int .i64 xi, .string ⟨xs.toArray⟩, .int .i64 xv] 32)).drew m))
    (hs1 : ∀ w, Calls Tryd.prog 16 #[.string ⟨k.toArray⟩] w fun e w' => e = .returned (.string ⟨q.toArray⟩) ∧ w = w')
    (hone : ∀ w, Calls Tryd.prog 15 #[.agg #[.string ⟨xk.toArray⟩, .int .i64 xd, .int .i64 xi, .string ⟨xs.toArray⟩, .int .i64 xv]] w fun e w' => e = .returned (.agg #[.string ⟨yk.toArray⟩, .int .i64 xd, .int .i64 xi, .string ⟨ys.toArray⟩, .int .i64 xv]) ∧ Below w.heap.size w w')
    (hget : ∀ (A : Option Addr) (c : Nat) w, Sig w → Fs Item.cells 5 w A m → Calls Tryd.prog 17 #[.slice A m.length c, .string ⟨q.toArray⟩] w (fun e w' => e = .returned (.tuple #[.agg #[.string ⟨#[]⟩, .int .i64 0, .int .i64 0, .string ⟨#[]⟩, .int .i64 0], .bool false]) ∧ Below w.heap.size w w'))
    (hput : ∀ (A : Option Addr) (c : Nat) w, Sig w → Fs Item.cells 5 w A m → m.length ≤ c → Calls Tryd.prog 18 #[.slice A m.length c, .agg #[.string ⟨yk.toArray⟩, .int .i64 xd, .int .i64 xi, .string ⟨ys.toArray⟩, .int .i64 xv]] w (fun e w' => ∃ (A2 : Option Addr) (c2 : Nat), e = .returned (.tuple #[.slice A2 0 c2, .int .i64 1]) ∧ Below w.heap.size w w'))
    (hdel : ∀ (A : Option Addr) (c : Nat) w, Sig w → Fs Item.cells 5 w A m → m.length ≤ c → Calls Tryd.prog 19 #[.slice A m.length c, .string ⟨q.toArray⟩] w (fun e w' => ∃ (A2 : Option Addr) (c2 : Nat), e = .returned (.tuple #[.slice A2 0 c2, .int .i64 6]) ∧ Below w.heap.size w w'))
    (hsm : ∀ (A B : Option Addr) (c d : Nat) (l : List Item) w, Fs Item.cells 5 w A l → Fs Item.cells 5 w B l → l.length ≤ 100 → Calls Tryd.prog 20 #[.slice A l.length c, .slice B l.length d] w (fun e w' => e = .returned (.bool true) ∧ Below w.heap.size w w'))
    (his : ∀ (A : Option Addr) (c : Nat) w, Fs Item.cells 5 w A m → Calls Tryd.prog 21 #[.slice A m.length c] w (fun e w' => e = .returned (.bool true) ∧ Below w.heap.size w w'))
    (hrat : ∀ (A : Option Addr) (c : Nat) w, Fs Item.cells 5 w A m → Calls Tryd.prog 22 #[.slice A m.length c, .string ⟨q.toArray⟩] w (fun e w' => e = .returned (.int .i64 (-1)) ∧ Below w.heap.size w w'))
    (hmay : ∀ w, Calls Tryd.prog 24 #[.agg #[.string ⟨yk.toArray⟩, .int .i64 xd, .int .i64 xi, .string ⟨ys.toArray⟩, .int .i64 xv]] w (fun e w' => e = .returned (.bool false) ∧ Below w.heap.size w w'))
    :
    Calls Tryd.prog 4 #[.slice A l.length c, .agg #[.string ⟨xk.toArray⟩, .int .i64 xd, .int .i64 xi, .string ⟨xs.toArray⟩, .int .i64 xv], .string ⟨k.toArray⟩] w fun e w' => e = .returned (.bool true) ∧ Below w.heap.size w w' := by
  have HFEW := hide hfew; clear hfew
  have HS1 := hide hs1; clear hs1
  have HONE := hide hone; clear hone
  have HS := hide hS; clear hS
  have HGET := hide hget; clear hget
  have HPUT := hide hput; clear hput
  have HDEL := hide hdel; clear hdel
  have HSM := hide hsm; clear hsm
  have HIS := hide his; clear his
  have HRAT := hide hrat; clear hrat
  have HMAY := hide hmay; clear hmay
  go_enter Tryd.func4, Tryd.ntmps4
  go_wp2_with fail
  go_region_with
    (first
      | (go_at_call 9; refine HFEW.out.mono ?_; rintro e w1 ⟨A1, c1, rfl, hown1, hb1⟩; obtain ⟨hc1, hf1⟩ := bcell hb1; have hz1 : w.heap.size < w1.heap.size := by have := hb1.size; simp at this; omega)
      | (go_at_call 15; refine (HONE.out _).mono ?_; rintro e w2 ⟨rfl, hb2⟩; obtain ⟨hc2, hf2⟩ := bcell hb2; have hz2 : w.heap.size < w2.heap.size := Nat.lt_of_lt_of_le hz1 hb2.size)
      | (go_at_call 16; refine (HS1.out _).mono ?_; rintro e w' ⟨rfl, rfl⟩))
  all_goals
    have hcc := hide (own_cap hown1)
    have hxx := st5_bx (w := w2) (b := w.heap.size) (v0 := .string ⟨xk.toArray⟩) (v1 := .int .i64 xd) (v2 := .int .i64 xi) (v3 := .string ⟨xs.toArray⟩) (v4 := .int .i64 xv) yk xd xi ys xv hz2 (by rw [hc2 _ _ hz1, hc1 _ _ (by simp)]; simp) (by rw [hc2 _ _ hz1, hc1 _ _ (by simp)]; simp) (by rw [hc2 _ _ hz1, hc1 _ _ (by simp)]; simp) (by rw [hc2 _ _ hz1, hc1 _ _ (by simp)]; simp) (by rw [hc2 _ _ hz1, hc1 _ _ (by simp)]; simp)
    have hbw := set5 (below_trans (below_trans (gr1d w _) hb1) hb2) (.string ⟨yk.toArray⟩) (.int .i64 xd) (.int .i64 xi) (.string ⟨ys.toArray⟩) (.int .i64 xv)
    have hF2 := (Fs.of_own rfl hown1).below hb2
    have hF3 : Fs Item.cells 5 (((((w2.setCell ⟨w.heap.size, 0, none⟩ (.string ⟨yk.toArray⟩)).setCell ⟨w.heap.size, 1, none⟩ (.int .i64 xd)).setCell ⟨w.heap.size, 2, none⟩ (.int .i64 xi)).setCell ⟨w.heap.size, 3, none⟩ (.string ⟨ys.toArray⟩)).setCell ⟨w.heap.size, 4, none⟩ (.int .i64 xv)) A1 m := by
      exact hF2.set5 (own_far hown1 (by simp)) _ _ _ _ _
    generalize ((((w2.setCell ⟨w.heap.size, 0, none⟩ (.string ⟨yk.toArray⟩)).setCell ⟨w.heap.size, 1, none⟩ (.int .i64 xd)).setCell ⟨w.heap.size, 2, none⟩ (.int .i64 xi)).setCell ⟨w.heap.size, 3, none⟩ (.string ⟨ys.toArray⟩)).setCell ⟨w.heap.size, 4, none⟩ (.int .i64 xv) = w3 at hxx hbw hF3
    have HX3 := hide hxx; have HB3 := hide hbw; have HF3 := hide hF3
    clear hxx hbw hF3 hF2 hown1 hb1 hb2 hc1 hf1 hc2 hf2 hz1 hz2
    have hzz : ∀ w, (binOp .eql 32 (.agg #[.string ⟨#[]⟩, .int .i64 0, .int .i64 0, .string ⟨#[]⟩, .int .i64 0]) (.agg #[.string ⟨#[]⟩, .int .i64 0, .int .i64 0, .string ⟨#[]⟩, .int .i64 0])).run Tryd.prog w = .ok (.bool true) w := fun w => by have := run_eq_item w [] 0 0 [] 0 [] 0 0 [] 0; simpa using this
    have hzn : ∀ w, (binOp .neq 32 (.agg #[.string ⟨#[]⟩, .int .i64 0, .int .i64 0, .string ⟨#[]⟩, .int .i64 0]) (.agg #[.string ⟨#[]⟩, .int .i64 0, .int .i64 0, .string ⟨#[]⟩, .int .i64 0])).run Tryd.prog w = .ok (.bool false) w := fun w => by have := run_neq_item w [] 0 0 [] 0 [] 0 0 [] 0; simpa using this
    go_wp2_with (first
    | (go_at_call 14; refine (awake_any _ (HS.out.below HB12.out)).mono ?_; rintro e w13 ⟨rfl, hb13⟩)
    | (go_at_call 24; refine (HMAY.out _).mono ?_; rintro e w12 ⟨rfl, hb12⟩; have hbb12 := hb12; have HX12 := hide (HX11.out.below hbb12); have HF12 := hide (HF11.out.below hbb12); have HB12 := hide (below_trans HB11.out hbb12); clear pX11_0 pX11_1 pX11_2 pX11_3 pX11_4; clear hb12 hbb12)
    | (go_at_call 22; refine (HRAT.out A1 c1 _ HF10.out).mono ?_; rintro e w11 ⟨rfl, hb11⟩; have hbb11 := hb11; have HX11 := hide (HX10.out.below hbb11); have HD11 := hide (HD10.out.below hbb11); have HF11 := hide (HF10.out.below hbb11); have HB11 := hide (below_trans HB10.out hbb11); obtain ⟨qD11, pD11_0, pD11_1, pD11_2, pD11_3, pD11_4⟩ := HD11.out; have eD11 := Nat.ne_of_lt qD11; have gD11 := Nat.ne_of_gt qD11; clear hb11 hbb11 eD10 gD10 pD10_0 pD10_1 pD10_2 pD10_3 pD10_4; obtain ⟨qX11, pX11_0, pX11_1, pX11_2, pX11_3, pX11_4⟩ := HX11.out)
    | (go_at_call 21; refine (HIS.out A1 c1 _ HF9.out).mono ?_; rintro e w10 ⟨rfl, hb10⟩; have hbb10 := hb10; have HX10 := hide (HX9.out.below hbb10); have HD10 := hide (HD9.out.below hbb10); have HF10 := hide (HF9.out.below hbb10); have HB10 := hide (below_trans HB9.out hbb10); obtain ⟨qD10, pD10_0, pD10_1, pD10_2, pD10_3, pD10_4⟩ := HD10.out; have eD10 := Nat.ne_of_lt qD10; have gD10 := Nat.ne_of_gt qD10; clear hidx hroom; clear hb10 hbb10)
    | (go_at_call 20; refine (HSM.out (some ⟨g5, 0, none⟩) A1 c5 c1 m _ (room_take HP8.out) HF8.out (by omega)).mono ?_; rintro e w9 ⟨rfl, hb9⟩; have hbb9 := hb9; have HX9 := hide (HX8.out.below hbb9); have HD9 := hide (HD8.out.below hbb9); have HF9 := hide (HF8.out.below hbb9); have HP9 := hide (HP8.out.below hbb9); have HB9 := hide (below_trans HB8.out hbb9); have hidx := fun w => run_elemAddr Tryd.underlying22 size_item g5 0 (m.length + 1) c5 m.length (by omega) (m.length : Int) rfl w; simp only [Nat.zero_add] at hidx; have hroom := room_cell HP9.out; clear hb9 hbb9)
    | (go_at_call 19; refine (HDEL.out (some ⟨g5, 0, none⟩) c5 _ (HS.out.below HB7.out) (room_take HP7.out) (by omega)).mono ?_; rintro e w8 ⟨A8, c8, rfl, hb8⟩; have hbb8 := hb8; have HX8 := hide (HX7.out.below hbb8); have HD8 := hide (HD7.out.below hbb8); have HF8 := hide (HF7.out.below hbb8); have HP8 := hide (HP7.out.below hbb8); have HB8 := hide (below_trans HB7.out hbb8); clear hb8 hbb8)
    | (go_at_call 18; refine (HPUT.out (some ⟨g5, 0, none⟩) c5 _ (HS.out.below (below_trans HB6.out (gr1 _ _))) (room_take (HP6.out.below (gr1 _ _))) (by omega)).mono ?_; rintro e w7 ⟨A7, c7, rfl, hb7⟩; have hbb7 := below_trans (gr1 _ _) hb7; have HX7 := hide (HX6.out.below hbb7); have HF7 := hide (HF6.out.below hbb7); have HP7 := hide (HP6.out.below hbb7); have HD7 := hide ((box_bx w6 _ [] 0 0 [] 0).below hb7); have HB7 := hide (below_trans HB6.out hbb7); clear hb7 hbb7 eX6 gX6 pX6_0 pX6_1 pX6_2 pX6_3 pX6_4)
    | (go_at_call 17; refine (HGET.out (some ⟨g5, 0, none⟩) c5 _ (HS.out.below HB5.out) (room_take HP5.out)).mono ?_; rintro e w6 ⟨rfl, hb6⟩; have hbb6 := hb6; have HX6 := hide (HX5.out.below hbb6); have HF6 := hide (HF5.out.below hbb6); have HP6 := hide (HP5.out.below hbb6); have HB6 := hide (below_trans HB5.out hbb6); obtain ⟨qX6, pX6_0, pX6_1, pX6_2, pX6_3, pX6_4⟩ := HX6.out; have eX6 := Nat.ne_of_lt qX6; have gX6 := Nat.ne_of_gt qX6; clear hb6 hbb6)
    | (at_builtin; refine wpList_appE w4 rfl (.tmp 24) (.tmp 26) _ rfl w3 w3.heap.size 32 32 _ 5 56 Tryd.underlying22 info_item rfl (by omega) (by omega) _ m.length _ #[.string ⟨#[]⟩, .int .i64 0, .int .i64 0, .string ⟨#[]⟩, .int .i64 77] (by rfl) w4.heap.size rfl (by rfl) rfl (item_one [] 0 0 [] 77) hown4 hb4 hb4.size (by omega) ?_; intro g5 c5 w5 hown5 hb5; have HP5 := hide (Fs.of_own (f := Item.cells) (l := m ++ [⟨[], 0, 0, [], 77⟩]) (n := m.length + 1) (by simp) (by rw [cells_snoc]; exact hown5)); have HX5 := hide (HX3.out.below hb5); have HF5 := hide (HF3.out.below hb5); have HB5 := hide (below_trans HB3.out hb5); have hcap := own_cap hown5; have hcut := fun w => run_cutH Tryd.underlying22 size_item (some ⟨g5, 0, none⟩) (m.length + 1) c5 m.length (by omega) (m.length : Int) rfl w; clear hown4 hown5 hb4 hb5)
    | (at_builtin; refine wpList_appAny _ rfl (.tmp 22) (.tmp 23) _ rfl w3 w3.heap.size 32 _ 5 56 Tryd.underlying22 info_item rfl (by omega) (by omega) _ 0 _ (by rfl) (show (w3.alloc (.cells #[] 32)).ownsRow w3.heap.size 32 5 (.slice (some ⟨w3.heap.size, 0, none⟩) 0 0) 0 [] from own_new w3 w3.heap.size _ 5 0 #[] (Nat.le_refl _) rfl (by simp [maxLen])) (gr1 w3 _) _ _ _ _ (by rfl) (HF3.out.alloc _) (cells_one _) (by omega) (by simp) ?_; intro A4 c4 w4 hown4 hb4; simp only [Nat.zero_add, List.nil_append] at hown4))
    go_ret
    exact ⟨rfl, below_trans HB12.out hb13⟩

set_option maxHeartbeats 16000000 in
theorem does_af (w : World) (hS : Sig w) (A : Option Addr) (l m : List Item) (c : Nat) (xk : Bytes) (xd xi : Int) (xs : Bytes) (xv : Int) (k yk ys q : Bytes)
    (hml : m.length ≤ 66) (hfew : Calls Tryd.prog 9 #[.slice A l.length c] (w.alloc (.cells #[.string ⟨xk.toArray⟩, .int .i64 xd, .int .i64 xi, .string ⟨xs.toArray⟩, .int .i64 xv] 32)).drew (FsOut Item.cells 5 32 (w.alloc (.cells #[.string ⟨xk.toArray⟩, .int .i64 xd, .int .i64 xi, .string ⟨xs.toArray⟩, .int .i64 xv] 32)).drew m))
    (hs1 : ∀ w, Calls Tryd.prog 16 #[.string ⟨k.toArray⟩] w fun e w' => e = .returned (.string ⟨q.toArray⟩) ∧ w = w')
    (hone : ∀ w, Calls Tryd.prog 15 #[.agg #[.string ⟨xk.toArray⟩, .int .i64 xd, .int .i64 xi, .string ⟨xs.toArray⟩, .int .i64 xv]] w fun e w' => e = .returned (.agg #[.string ⟨yk.toArray⟩, .int .i64 xd, .int .i64 xi, .string ⟨ys.toArray⟩, .int .i64 xv]) ∧ Below w.heap.size w w')
    (hget : ∀ (A : Option Addr) (c : Nat) w, Sig w → Fs Item.cells 5 w A m → Calls Tryd.prog 17 #[.slice A m.length c, .string ⟨q.toArray⟩] w (fun e w' => e = .returned (.tuple #[.agg #[.string ⟨#[]⟩, .int .i64 0, .int .i64 0, .string ⟨#[]⟩, .int .i64 0], .bool false]) ∧ Below w.heap.size w w'))
    (hput : ∀ (A : Option Addr) (c : Nat) w, Sig w → Fs Item.cells 5 w A m → m.length ≤ c → Calls Tryd.prog 18 #[.slice A m.length c, .agg #[.string ⟨yk.toArray⟩, .int .i64 xd, .int .i64 xi, .string ⟨ys.toArray⟩, .int .i64 xv]] w (fun e w' => ∃ (A2 : Option Addr) (c2 : Nat), e = .returned (.tuple #[.slice A2 0 c2, .int .i64 5]) ∧ Below w.heap.size w w'))
    (hdel : ∀ (A : Option Addr) (c : Nat) w, Sig w → Fs Item.cells 5 w A m → m.length ≤ c → Calls Tryd.prog 19 #[.slice A m.length c, .string ⟨q.toArray⟩] w (fun e w' => ∃ (A2 : Option Addr) (c2 : Nat), e = .returned (.tuple #[.slice A2 0 c2, .int .i64 6]) ∧ Below w.heap.size w w'))
    (hsm : ∀ (A B : Option Addr) (c d : Nat) (l : List Item) w, Fs Item.cells 5 w A l → Fs Item.cells 5 w B l → l.length ≤ 100 → Calls Tryd.prog 20 #[.slice A l.length c, .slice B l.length d] w (fun e w' => e = .returned (.bool true) ∧ Below w.heap.size w w'))
    (his : ∀ (A : Option Addr) (c : Nat) w, Fs Item.cells 5 w A m → Calls Tryd.prog 21 #[.slice A m.length c] w (fun e w' => e = .returned (.bool true) ∧ Below w.heap.size w w'))
    (hrat : ∀ (A : Option Addr) (c : Nat) w, Fs Item.cells 5 w A m → Calls Tryd.prog 22 #[.slice A m.length c, .string ⟨q.toArray⟩] w (fun e w' => e = .returned (.int .i64 (-1)) ∧ Below w.heap.size w w'))
    (hmay : ∀ w, Calls Tryd.prog 24 #[.agg #[.string ⟨yk.toArray⟩, .int .i64 xd, .int .i64 xi, .string ⟨ys.toArray⟩, .int .i64 xv]] w (fun e w' => e = .returned (.bool true) ∧ Below w.heap.size w w'))
    (hrat2 : ∀ (A : Option Addr) (c : Nat) w, Fs Item.cells 5 w A m → Calls Tryd.prog 22 #[.slice A m.length c, .string ⟨yk.toArray⟩] w (fun e w' => e = .returned (.int .i64 (-1)) ∧ Below w.heap.size w w'))
    (h64 : m.length = 64)
    :
    Calls Tryd.prog 4 #[.slice A l.length c, .agg #[.string ⟨xk.toArray⟩, .int .i64 xd, .int .i64 xi, .string ⟨xs.toArray⟩, .int .i64 xv], .string ⟨k.toArray⟩] w fun e w' => e = .returned (.bool true) ∧ Below w.heap.size w w' := by
  have HFEW := hide hfew; clear hfew
  have HS1 := hide hs1; clear hs1
  have HONE := hide hone; clear hone
  have HS := hide hS; clear hS
  have HGET := hide hget; clear hget
  have HPUT := hide hput; clear hput
  have HDEL := hide hdel; clear hdel
  have HSM := hide hsm; clear hsm
  have HIS := hide his; clear his
  have HRAT := hide hrat; clear hrat
  have HMAY := hide hmay; clear hmay
  have HRAT2 := hide hrat2; clear hrat2
  have h64i : ((m.length : Int) == 64) = true := by rw [h64]; rfl
  have H64 := hide h64i; clear h64i h64
  go_enter Tryd.func4, Tryd.ntmps4
  go_wp2_with fail
  go_region_with
    (first
      | (go_at_call 9; refine HFEW.out.mono ?_; rintro e w1 ⟨A1, c1, rfl, hown1, hb1⟩; obtain ⟨hc1, hf1⟩ := bcell hb1; have hz1 : w.heap.size < w1.heap.size := by have := hb1.size; simp at this; omega)
      | (go_at_call 15; refine (HONE.out _).mono ?_; rintro e w2 ⟨rfl, hb2⟩; obtain ⟨hc2, hf2⟩ := bcell hb2; have hz2 : w.heap.size < w2.heap.size := Nat.lt_of_lt_of_le hz1 hb2.size)
      | (go_at_call 16; refine (HS1.out _).mono ?_; rintro e w' ⟨rfl, rfl⟩))
  all_goals
    have hcc := hide (own_cap hown1)
    have hxx := st5_bx (w := w2) (b := w.heap.size) (v0 := .string ⟨xk.toArray⟩) (v1 := .int .i64 xd) (v2 := .int .i64 xi) (v3 := .string ⟨xs.toArray⟩) (v4 := .int .i64 xv) yk xd xi ys xv hz2 (by rw [hc2 _ _ hz1, hc1 _ _ (by simp)]; simp) (by rw [hc2 _ _ hz1, hc1 _ _ (by simp)]; simp) (by rw [hc2 _ _ hz1, hc1 _ _ (by simp)]; simp) (by rw [hc2 _ _ hz1, hc1 _ _ (by simp)]; simp) (by rw [hc2 _ _ hz1, hc1 _ _ (by simp)]; simp)
    have hbw := set5 (below_trans (below_trans (gr1d w _) hb1) hb2) (.string ⟨yk.toArray⟩) (.int .i64 xd) (.int .i64 xi) (.string ⟨ys.toArray⟩) (.int .i64 xv)
    have hF2 := (Fs.of_own rfl hown1).below hb2
    have hF3 : Fs Item.cells 5 (((((w2.setCell ⟨w.heap.size, 0, none⟩ (.string ⟨yk.toArray⟩)).setCell ⟨w.heap.size, 1, none⟩ (.int .i64 xd)).setCell ⟨w.heap.size, 2, none⟩ (.int .i64 xi)).setCell ⟨w.heap.size, 3, none⟩ (.string ⟨ys.toArray⟩)).setCell ⟨w.heap.size, 4, none⟩ (.int .i64 xv)) A1 m := by
      exact hF2.set5 (own_far hown1 (by simp)) _ _ _ _ _
    generalize ((((w2.setCell ⟨w.heap.size, 0, none⟩ (.string ⟨yk.toArray⟩)).setCell ⟨w.heap.size, 1, none⟩ (.int .i64 xd)).setCell ⟨w.heap.size, 2, none⟩ (.int .i64 xi)).setCell ⟨w.heap.size, 3, none⟩ (.string ⟨ys.toArray⟩)).setCell ⟨w.heap.size, 4, none⟩ (.int .i64 xv) = w3 at hxx hbw hF3
    have HX3 := hide hxx; have HB3 := hide hbw; have HF3 := hide hF3
    clear hxx hbw hF3 hF2 hown1 hb1 hb2 hc1 hf1 hc2 hf2 hz1 hz2
    have hzz : ∀ w, (binOp .eql 32 (.agg #[.string ⟨#[]⟩, .int .i64 0, .int .i64 0, .string ⟨#[]⟩, .int .i64 0]) (.agg #[.string ⟨#[]⟩, .int .i64 0, .int .i64 0, .string ⟨#[]⟩, .int .i64 0])).run Tryd.prog w = .ok (.bool true) w := fun w => by have := run_eq_item w [] 0 0 [] 0 [] 0 0 [] 0; simpa using this
    have hzn : ∀ w, (binOp .neq 32 (.agg #[.string ⟨#[]⟩, .int .i64 0, .int .i64 0, .string ⟨#[]⟩, .int .i64 0]) (.agg #[.string ⟨#[]⟩, .int .i64 0, .int .i64 0, .string ⟨#[]⟩, .int .i64 0])).run Tryd.prog w = .ok (.bool false) w := fun w => by have := run_neq_item w [] 0 0 [] 0 [] 0 0 [] 0; simpa using this
    have h64 := H64.out
    go_wp2_with (first
    | (go_at_call 14; refine (awake_any _ (HS.out.below HB13.out)).mono ?_; rintro e w14 ⟨rfl, hb14⟩)
    | (go_at_call 22; refine (HRAT2.out A1 c1 _ HF12.out).mono ?_; rintro e w13 ⟨rfl, hb13⟩; have hbb13 := hb13; have HX13 := hide (HX12.out.below hbb13); have HF13 := hide (HF12.out.below hbb13); have HB13 := hide (below_trans HB12.out hbb13); obtain ⟨qX13, pX13_0, pX13_1, pX13_2, pX13_3, pX13_4⟩ := HX13.out; have eX13 := Nat.ne_of_lt qX13; have gX13 := Nat.ne_of_gt qX13; clear hb13 hbb13 eX12 gX12 pX12_0 pX12_1 pX12_2 pX12_3 pX12_4)
    | (go_at_call 24; refine (HMAY.out _).mono ?_; rintro e w12 ⟨rfl, hb12⟩; have hbb12 := hb12; have HX12 := hide (HX11.out.below hbb12); have HF12 := hide (HF11.out.below hbb12); have HB12 := hide (below_trans HB11.out hbb12); obtain ⟨qX12, pX12_0, pX12_1, pX12_2, pX12_3, pX12_4⟩ := HX12.out; have eX12 := Nat.ne_of_lt qX12; have gX12 := Nat.ne_of_gt qX12; clear pX11_0 pX11_1 pX11_2 pX11_3 pX11_4; clear hb12 hbb12)
    | (go_at_call 22; refine (HRAT.out A1 c1 _ HF10.out).mono ?_; rintro e w11 ⟨rfl, hb11⟩; have hbb11 := hb11; have HX11 := hide (HX10.out.below hbb11); have HD11 := hide (HD10.out.below hbb11); have HF11 := hide (HF10.out.below hbb11); have HB11 := hide (below_trans HB10.out hbb11); obtain ⟨qD11, pD11_0, pD11_1, pD11_2, pD11_3, pD11_4⟩ := HD11.out; have eD11 := Nat.ne_of_lt qD11; have gD11 := Nat.ne_of_gt qD11; clear hb11 hbb11 eD10 gD10 pD10_0 pD10_1 pD10_2 pD10_3 pD10_4; obtain ⟨qX11, pX11_0, pX11_1, pX11_2, pX11_3, pX11_4⟩ := HX11.out)
    | (go_at_call 21; refine (HIS.out A1 c1 _ HF9.out).mono ?_; rintro e w10 ⟨rfl, hb10⟩; have hbb10 := hb10; have HX10 := hide (HX9.out.below hbb10); have HD10 := hide (HD9.out.below hbb10); have HF10 := hide (HF9.out.below hbb10); have HB10 := hide (below_trans HB9.out hbb10); obtain ⟨qD10, pD10_0, pD10_1, pD10_2, pD10_3, pD10_4⟩ := HD10.out; have eD10 := Nat.ne_of_lt qD10; have gD10 := Nat.ne_of_gt qD10; clear hidx hroom; clear hb10 hbb10)
    | (go_at_call 20; refine (HSM.out (some ⟨g5, 0, none⟩) A1 c5 c1 m _ (room_take HP8.out) HF8.out (by omega)).mono ?_; rintro e w9 ⟨rfl, hb9⟩; have hbb9 := hb9; have HX9 := hide (HX8.out.below hbb9); have HD9 := hide (HD8.out.below hbb9); have HF9 := hide (HF8.out.below hbb9); have HP9 := hide (HP8.out.below hbb9); have HB9 := hide (below_trans HB8.out hbb9); have hidx := fun w => run_elemAddr Tryd.underlying22 size_item g5 0 (m.length + 1) c5 m.length (by omega) (m.length : Int) rfl w; simp only [Nat.zero_add] at hidx; have hroom := room_cell HP9.out; clear hb9 hbb9)
    | (go_at_call 19; refine (HDEL.out (some ⟨g5, 0, none⟩) c5 _ (HS.out.below HB7.out) (room_take HP7.out) (by omega)).mono ?_; rintro e w8 ⟨A8, c8, rfl, hb8⟩; have hbb8 := hb8; have HX8 := hide (HX7.out.below hbb8); have HD8 := hide (HD7.out.below hbb8); have HF8 := hide (HF7.out.below hbb8); have HP8 := hide (HP7.out.below hbb8); have HB8 := hide (below_trans HB7.out hbb8); clear hb8 hbb8)
    | (go_at_call 18; refine (HPUT.out (some ⟨g5, 0, none⟩) c5 _ (HS.out.below (below_trans HB6.out (gr1 _ _))) (room_take (HP6.out.below (gr1 _ _))) (by omega)).mono ?_; rintro e w7 ⟨A7, c7, rfl, hb7⟩; have hbb7 := below_trans (gr1 _ _) hb7; have HX7 := hide (HX6.out.below hbb7); have HF7 := hide (HF6.out.below hbb7); have HP7 := hide (HP6.out.below hbb7); have HD7 := hide ((box_bx w6 _ [] 0 0 [] 0).below hb7); have HB7 := hide (below_trans HB6.out hbb7); clear hb7 hbb7 eX6 gX6 pX6_0 pX6_1 pX6_2 pX6_3 pX6_4)
    | (go_at_call 17; refine (HGET.out (some ⟨g5, 0, none⟩) c5 _ (HS.out.below HB5.out) (room_take HP5.out)).mono ?_; rintro e w6 ⟨rfl, hb6⟩; have hbb6 := hb6; have HX6 := hide (HX5.out.below hbb6); have HF6 := hide (HF5.out.below hbb6); have HP6 := hide (HP5.out.below hbb6); have HB6 := hide (below_trans HB5.out hbb6); obtain ⟨qX6, pX6_0, pX6_1, pX6_2, pX6_3, pX6_4⟩ := HX6.out; have eX6 := Nat.ne_of_lt qX6; have gX6 := Nat.ne_of_gt qX6; clear hb6 hbb6)
    | (at_builtin; refine wpList_appE w4 rfl (.tmp 24) (.tmp 26) _ rfl w3 w3.heap.size 32 32 _ 5 56 Tryd.underlying22 info_item rfl (by omega) (by omega) _ m.length _ #[.string ⟨#[]⟩, .int .i64 0, .int .i64 0, .string ⟨#[]⟩, .int .i64 77] (by rfl) w4.heap.size rfl (by rfl) rfl (item_one [] 0 0 [] 77) hown4 hb4 hb4.size (by omega) ?_; intro g5 c5 w5 hown5 hb5; have HP5 := hide (Fs.of_own (f := Item.cells) (l := m ++ [⟨[], 0, 0, [], 77⟩]) (n := m.length + 1) (by simp) (by rw [cells_snoc]; exact hown5)); have HX5 := hide (HX3.out.below hb5); have HF5 := hide (HF3.out.below hb5); have HB5 := hide (below_trans HB3.out hb5); have hcap := own_cap hown5; have hcut := fun w => run_cutH Tryd.underlying22 size_item (some ⟨g5, 0, none⟩) (m.length + 1) c5 m.length (by omega) (m.length : Int) rfl w; clear hown4 hown5 hb4 hb5)
    | (at_builtin; refine wpList_appAny _ rfl (.tmp 22) (.tmp 23) _ rfl w3 w3.heap.size 32 _ 5 56 Tryd.underlying22 info_item rfl (by omega) (by omega) _ 0 _ (by rfl) (show (w3.alloc (.cells #[] 32)).ownsRow w3.heap.size 32 5 (.slice (some ⟨w3.heap.size, 0, none⟩) 0 0) 0 [] from own_new w3 w3.heap.size _ 5 0 #[] (Nat.le_refl _) rfl (by simp [maxLen])) (gr1 w3 _) _ _ _ _ (by rfl) (HF3.out.alloc _) (cells_one _) (by omega) (by simp) ?_; intro A4 c4 w4 hown4 hb4; simp only [Nat.zero_add, List.nil_append] at hown4))
    go_ret
    exact ⟨rfl, below_trans HB13.out hb14⟩

set_option maxHeartbeats 16000000 in
theorem does_ao (w : World) (hS : Sig w) (A : Option Addr) (l m : List Item) (c : Nat) (xk : Bytes) (xd xi : Int) (xs : Bytes) (xv : Int) (k yk ys q : Bytes)
    (hml : m.length ≤ 66) (hfew : Calls Tryd.prog 9 #[.slice A l.length c] (w.alloc (.cells #[.string ⟨xk.toArray⟩, .int .i64 xd, .int .i64 xi, .string ⟨xs.toArray⟩, .int .i64 xv] 32)).drew (FsOut Item.cells 5 32 (w.alloc (.cells #[.string ⟨xk.toArray⟩, .int .i64 xd, .int .i64 xi, .string ⟨xs.toArray⟩, .int .i64 xv] 32)).drew m))
    (hs1 : ∀ w, Calls Tryd.prog 16 #[.string ⟨k.toArray⟩] w fun e w' => e = .returned (.string ⟨q.toArray⟩) ∧ w = w')
    (hone : ∀ w, Calls Tryd.prog 15 #[.agg #[.string ⟨xk.toArray⟩, .int .i64 xd, .int .i64 xi, .string ⟨xs.toArray⟩, .int .i64 xv]] w fun e w' => e = .returned (.agg #[.string ⟨yk.toArray⟩, .int .i64 xd, .int .i64 xi, .string ⟨ys.toArray⟩, .int .i64 xv]) ∧ Below w.heap.size w w')
    (hget : ∀ (A : Option Addr) (c : Nat) w, Sig w → Fs Item.cells 5 w A m → Calls Tryd.prog 17 #[.slice A m.length c, .string ⟨q.toArray⟩] w (fun e w' => e = .returned (.tuple #[.agg #[.string ⟨#[]⟩, .int .i64 0, .int .i64 0, .string ⟨#[]⟩, .int .i64 0], .bool false]) ∧ Below w.heap.size w w'))
    (r : List Item) (hput : ∀ (A : Option Addr) (c : Nat) w, Sig w → Fs Item.cells 5 w A m → m.length ≤ c → Calls Tryd.prog 18 #[.slice A m.length c, .agg #[.string ⟨yk.toArray⟩, .int .i64 xd, .int .i64 xi, .string ⟨ys.toArray⟩, .int .i64 xv]] w (fun e w' => ∃ (A2 : Option Addr) (c2 : Nat), e = .returned (.tuple #[.slice A2 r.length c2, .int .i64 0]) ∧ Fs Item.cells 5 w' A2 r ∧ Below w.heap.size w w'))
    (hdel : ∀ (A : Option Addr) (c : Nat) w, Sig w → Fs Item.cells 5 w A m → m.length ≤ c → Calls Tryd.prog 19 #[.slice A m.length c, .string ⟨q.toArray⟩] w (fun e w' => ∃ (A2 : Option Addr) (c2 : Nat), e = .returned (.tuple #[.slice A2 0 c2, .int .i64 6]) ∧ Below w.heap.size w w'))
    (hsm : ∀ (A B : Option Addr) (c d : Nat) (l : List Item) w, Fs Item.cells 5 w A l → Fs Item.cells 5 w B l → l.length ≤ 100 → Calls Tryd.prog 20 #[.slice A l.length c, .slice B l.length d] w (fun e w' => e = .returned (.bool true) ∧ Below w.heap.size w w'))
    (his : ∀ (A : Option Addr) (c : Nat) w, Fs Item.cells 5 w A m → Calls Tryd.prog 21 #[.slice A m.length c] w (fun e w' => e = .returned (.bool true) ∧ Below w.heap.size w w'))
    (hrat : ∀ (A : Option Addr) (c : Nat) w, Fs Item.cells 5 w A m → Calls Tryd.prog 22 #[.slice A m.length c, .string ⟨q.toArray⟩] w (fun e w' => e = .returned (.int .i64 (-1)) ∧ Below w.heap.size w w'))
    (hmay : ∀ w, Calls Tryd.prog 24 #[.agg #[.string ⟨yk.toArray⟩, .int .i64 xd, .int .i64 xi, .string ⟨ys.toArray⟩, .int .i64 xv]] w (fun e w' => e = .returned (.bool true) ∧ Below w.heap.size w w'))
    (hrat2 : ∀ (A : Option Addr) (c : Nat) w, Fs Item.cells 5 w A m → Calls Tryd.prog 22 #[.slice A m.length c, .string ⟨yk.toArray⟩] w (fun e w' => e = .returned (.int .i64 (-1)) ∧ Below w.heap.size w w'))
    (h64 : ((m.length : Int) == 64) = false)
    (hlr : r.length ≤ 100) (hwith : ∀ (A : Option Addr) (c : Nat) w, Fs Item.cells 5 w A m → Calls Tryd.prog 25 #[.slice A m.length c, .agg #[.string ⟨yk.toArray⟩, .int .i64 xd, .int .i64 xi, .string ⟨ys.toArray⟩, .int .i64 xv]] w (fun e w' => ∃ (A2 : Option Addr) (c2 : Nat), e = .returned (.slice A2 r.length c2) ∧ Fs Item.cells 5 w' A2 r ∧ Below w.heap.size w w'))
    :
    Calls Tryd.prog 4 #[.slice A l.length c, .agg #[.string ⟨xk.toArray⟩, .int .i64 xd, .int .i64 xi, .string ⟨xs.toArray⟩, .int .i64 xv], .string ⟨k.toArray⟩] w fun e w' => e = .returned (.bool true) ∧ Below w.heap.size w w' := by
  have HFEW := hide hfew; clear hfew
  have HS1 := hide hs1; clear hs1
  have HONE := hide hone; clear hone
  have HS := hide hS; clear hS
  have HGET := hide hget; clear hget
  have HPUT := hide hput; clear hput
  have HDEL := hide hdel; clear hdel
  have HSM := hide hsm; clear hsm
  have HIS := hide his; clear his
  have HRAT := hide hrat; clear hrat
  have HMAY := hide hmay; clear hmay
  have HRAT2 := hide hrat2; clear hrat2
  have H64 := hide h64; clear h64
  have HWITH := hide hwith; clear hwith
  go_enter Tryd.func4, Tryd.ntmps4
  go_wp2_with fail
  go_region_with
    (first
      | (go_at_call 9; refine HFEW.out.mono ?_; rintro e w1 ⟨A1, c1, rfl, hown1, hb1⟩; obtain ⟨hc1, hf1⟩ := bcell hb1; have hz1 : w.heap.size < w1.heap.size := by have := hb1.size; simp at this; omega)
      | (go_at_call 15; refine (HONE.out _).mono ?_; rintro e w2 ⟨rfl, hb2⟩; obtain ⟨hc2, hf2⟩ := bcell hb2; have hz2 : w.heap.size < w2.heap.size := Nat.lt_of_lt_of_le hz1 hb2.size)
      | (go_at_call 16; refine (HS1.out _).mono ?_; rintro e w' ⟨rfl, rfl⟩))
  all_goals
    have hcc := hide (own_cap hown1)
    have hxx := st5_bx (w := w2) (b := w.heap.size) (v0 := .string ⟨xk.toArray⟩) (v1 := .int .i64 xd) (v2 := .int .i64 xi) (v3 := .string ⟨xs.toArray⟩) (v4 := .int .i64 xv) yk xd xi ys xv hz2 (by rw [hc2 _ _ hz1, hc1 _ _ (by simp)]; simp) (by rw [hc2 _ _ hz1, hc1 _ _ (by simp)]; simp) (by rw [hc2 _ _ hz1, hc1 _ _ (by simp)]; simp) (by rw [hc2 _ _ hz1, hc1 _ _ (by simp)]; simp) (by rw [hc2 _ _ hz1, hc1 _ _ (by simp)]; simp)
    have hbw := set5 (below_trans (below_trans (gr1d w _) hb1) hb2) (.string ⟨yk.toArray⟩) (.int .i64 xd) (.int .i64 xi) (.string ⟨ys.toArray⟩) (.int .i64 xv)
    have hF2 := (Fs.of_own rfl hown1).below hb2
    have hF3 : Fs Item.cells 5 (((((w2.setCell ⟨w.heap.size, 0, none⟩ (.string ⟨yk.toArray⟩)).setCell ⟨w.heap.size, 1, none⟩ (.int .i64 xd)).setCell ⟨w.heap.size, 2, none⟩ (.int .i64 xi)).setCell ⟨w.heap.size, 3, none⟩ (.string ⟨ys.toArray⟩)).setCell ⟨w.heap.size, 4, none⟩ (.int .i64 xv)) A1 m := by
      exact hF2.set5 (own_far hown1 (by simp)) _ _ _ _ _
    generalize ((((w2.setCell ⟨w.heap.size, 0, none⟩ (.string ⟨yk.toArray⟩)).setCell ⟨w.heap.size, 1, none⟩ (.int .i64 xd)).setCell ⟨w.heap.size, 2, none⟩ (.int .i64 xi)).setCell ⟨w.heap.size, 3, none⟩ (.string ⟨ys.toArray⟩)).setCell ⟨w.heap.size, 4, none⟩ (.int .i64 xv) = w3 at hxx hbw hF3
    have HX3 := hide hxx; have HB3 := hide hbw; have HF3 := hide hF3
    clear hxx hbw hF3 hF2 hown1 hb1 hb2 hc1 hf1 hc2 hf2 hz1 hz2
    have hzz : ∀ w, (binOp .eql 32 (.agg #[.string ⟨#[]⟩, .int .i64 0, .int .i64 0, .string ⟨#[]⟩, .int .i64 0]) (.agg #[.string ⟨#[]⟩, .int .i64 0, .int .i64 0, .string ⟨#[]⟩, .int .i64 0])).run Tryd.prog w = .ok (.bool true) w := fun w => by have := run_eq_item w [] 0 0 [] 0 [] 0 0 [] 0; simpa using this
    have hzn : ∀ w, (binOp .neq 32 (.agg #[.string ⟨#[]⟩, .int .i64 0, .int .i64 0, .string ⟨#[]⟩, .int .i64 0]) (.agg #[.string ⟨#[]⟩, .int .i64 0, .int .i64 0, .string ⟨#[]⟩, .int .i64 0])).run Tryd.prog w = .ok (.bool false) w := fun w => by have := run_neq_item w [] 0 0 [] 0 [] 0 0 [] 0; simpa using this
    have h64 := H64.out
    go_wp2_with (first
    | (go_at_call 14; refine (awake_any _ (HS.out.below HB15.out)).mono ?_; rintro e w16 ⟨rfl, hb16⟩)
    | (go_at_call 20; refine (HSM.out A7 AW c7 cW r _ HU14.out HW14.out hlr).mono ?_; rintro e w15 ⟨rfl, hb15⟩; have hbb15 := hb15; have HB15 := hide (below_trans HB14.out hbb15); clear hb15 hbb15)
    | (go_at_call 25; refine (HWITH.out A1 c1 _ HF13.out).mono ?_; rintro e w14 ⟨AW, cW, rfl, hW14, hb14⟩; have hbb14 := hb14; have HU14 := hide (HU13.out.below hbb14); have HW14 := hide hW14; have HB14 := hide (below_trans HB13.out hbb14); clear hb14 hbb14 hW14 eX13 gX13 pX13_0 pX13_1 pX13_2 pX13_3 pX13_4)
    | (go_at_call 22; refine (HRAT2.out A1 c1 _ HF12.out).mono ?_; rintro e w13 ⟨rfl, hb13⟩; have hbb13 := hb13; have HX13 := hide (HX12.out.below hbb13); have HF13 := hide (HF12.out.below hbb13); have HU13 := hide (HU12.out.below hbb13); have HB13 := hide (below_trans HB12.out hbb13); obtain ⟨qX13, pX13_0, pX13_1, pX13_2, pX13_3, pX13_4⟩ := HX13.out; have eX13 := Nat.ne_of_lt qX13; have gX13 := Nat.ne_of_gt qX13; clear hb13 hbb13 eX12 gX12 pX12_0 pX12_1 pX12_2 pX12_3 pX12_4)
    | (go_at_call 24; refine (HMAY.out _).mono ?_; rintro e w12 ⟨rfl, hb12⟩; have hbb12 := hb12; have HX12 := hide (HX11.out.below hbb12); have HF12 := hide (HF11.out.below hbb12); have HU12 := hide (HU11.out.below hbb12); have HB12 := hide (below_trans HB11.out hbb12); obtain ⟨qX12, pX12_0, pX12_1, pX12_2, pX12_3, pX12_4⟩ := HX12.out; have eX12 := Nat.ne_of_lt qX12; have gX12 := Nat.ne_of_gt qX12; clear pX11_0 pX11_1 pX11_2 pX11_3 pX11_4; clear hb12 hbb12)
    | (go_at_call 22; refine (HRAT.out A1 c1 _ HF10.out).mono ?_; rintro e w11 ⟨rfl, hb11⟩; have hbb11 := hb11; have HX11 := hide (HX10.out.below hbb11); have HD11 := hide (HD10.out.below hbb11); have HF11 := hide (HF10.out.below hbb11); have HU11 := hide (HU10.out.below hbb11); have HB11 := hide (below_trans HB10.out hbb11); obtain ⟨qD11, pD11_0, pD11_1, pD11_2, pD11_3, pD11_4⟩ := HD11.out; have eD11 := Nat.ne_of_lt qD11; have gD11 := Nat.ne_of_gt qD11; clear hb11 hbb11 eD10 gD10 pD10_0 pD10_1 pD10_2 pD10_3 pD10_4; obtain ⟨qX11, pX11_0, pX11_1, pX11_2, pX11_3, pX11_4⟩ := HX11.out)
    | (go_at_call 21; refine (HIS.out A1 c1 _ HF9.out).mono ?_; rintro e w10 ⟨rfl, hb10⟩; have hbb10 := hb10; have HX10 := hide (HX9.out.below hbb10); have HD10 := hide (HD9.out.below hbb10); have HF10 := hide (HF9.out.below hbb10); have HU10 := hide (HU9.out.below hbb10); have HB10 := hide (below_trans HB9.out hbb10); obtain ⟨qD10, pD10_0, pD10_1, pD10_2, pD10_3, pD10_4⟩ := HD10.out; have eD10 := Nat.ne_of_lt qD10; have gD10 := Nat.ne_of_gt qD10; clear hidx hroom; clear hb10 hbb10)
    | (go_at_call 20; refine (HSM.out (some ⟨g5, 0, none⟩) A1 c5 c1 m _ (room_take HP8.out) HF8.out (by omega)).mono ?_; rintro e w9 ⟨rfl, hb9⟩; have hbb9 := hb9; have HX9 := hide (HX8.out.below hbb9); have HD9 := hide (HD8.out.below hbb9); have HF9 := hide (HF8.out.below hbb9); have HP9 := hide (HP8.out.below hbb9); have HU9 := hide (HU8.out.below hbb9); have HB9 := hide (below_trans HB8.out hbb9); have hidx := fun w => run_elemAddr Tryd.underlying22 size_item g5 0 (m.length + 1) c5 m.length (by omega) (m.length : Int) rfl w; simp only [Nat.zero_add] at hidx; have hroom := room_cell HP9.out; clear hb9 hbb9)
    | (go_at_call 19; refine (HDEL.out (some ⟨g5, 0, none⟩) c5 _ (HS.out.below HB7.out) (room_take HP7.out) (by omega)).mono ?_; rintro e w8 ⟨A8, c8, rfl, hb8⟩; have hbb8 := hb8; have HX8 := hide (HX7.out.below hbb8); have HD8 := hide (HD7.out.below hbb8); have HF8 := hide (HF7.out.below hbb8); have HP8 := hide (HP7.out.below hbb8); have HU8 := hide (HU7.out.below hbb8); have HB8 := hide (below_trans HB7.out hbb8); clear hb8 hbb8)
    | (go_at_call 18; refine (HPUT.out (some ⟨g5, 0, none⟩) c5 _ (HS.out.below (below_trans HB6.out (gr1 _ _))) (room_take (HP6.out.below (gr1 _ _))) (by omega)).mono ?_; rintro e w7 ⟨A7, c7, rfl, hU7, hb7⟩; have hbb7 := below_trans (gr1 _ _) hb7; have HX7 := hide (HX6.out.below hbb7); have HF7 := hide (HF6.out.below hbb7); have HP7 := hide (HP6.out.below hbb7); have HD7 := hide ((box_bx w6 _ [] 0 0 [] 0).below hb7); have HU7 := hide hU7; have HB7 := hide (below_trans HB6.out hbb7); clear hb7 hbb7 hU7 eX6 gX6 pX6_0 pX6_1 pX6_2 pX6_3 pX6_4)
    | (go_at_call 17; refine (HGET.out (some ⟨g5, 0, none⟩) c5 _ (HS.out.below HB5.out) (room_take HP5.out)).mono ?_; rintro e w6 ⟨rfl, hb6⟩; have hbb6 := hb6; have HX6 := hide (HX5.out.below hbb6); have HF6 := hide (HF5.out.below hbb6); have HP6 := hide (HP5.out.below hbb6); have HB6 := hide (below_trans HB5.out hbb6); obtain ⟨qX6, pX6_0, pX6_1, pX6_2, pX6_3, pX6_4⟩ := HX6.out; have eX6 := Nat.ne_of_lt qX6; have gX6 := Nat.ne_of_gt qX6; clear hb6 hbb6)
    | (at_builtin; refine wpList_appE w4 rfl (.tmp 24) (.tmp 26) _ rfl w3 w3.heap.size 32 32 _ 5 56 Tryd.underlying22 info_item rfl (by omega) (by omega) _ m.length _ #[.string ⟨#[]⟩, .int .i64 0, .int .i64 0, .string ⟨#[]⟩, .int .i64 77] (by rfl) w4.heap.size rfl (by rfl) rfl (item_one [] 0 0 [] 77) hown4 hb4 hb4.size (by omega) ?_; intro g5 c5 w5 hown5 hb5; have HP5 := hide (Fs.of_own (f := Item.cells) (l := m ++ [⟨[], 0, 0, [], 77⟩]) (n := m.length + 1) (by simp) (by rw [cells_snoc]; exact hown5)); have HX5 := hide (HX3.out.below hb5); have HF5 := hide (HF3.out.below hb5); have HB5 := hide (below_trans HB3.out hb5); have hcap := own_cap hown5; have hcut := fun w => run_cutH Tryd.underlying22 size_item (some ⟨g5, 0, none⟩) (m.length + 1) c5 m.length (by omega) (m.length : Int) rfl w; clear hown4 hown5 hb4 hb5)
    | (at_builtin; refine wpList_appAny _ rfl (.tmp 22) (.tmp 23) _ rfl w3 w3.heap.size 32 _ 5 56 Tryd.underlying22 info_item rfl (by omega) (by omega) _ 0 _ (by rfl) (show (w3.alloc (.cells #[] 32)).ownsRow w3.heap.size 32 5 (.slice (some ⟨w3.heap.size, 0, none⟩) 0 0) 0 [] from own_new w3 w3.heap.size _ 5 0 #[] (Nat.le_refl _) rfl (by simp [maxLen])) (gr1 w3 _) _ _ _ _ (by rfl) (HF3.out.alloc _) (cells_one _) (by omega) (by simp) ?_; intro A4 c4 w4 hown4 hb4; simp only [Nat.zero_add, List.nil_append] at hown4))
    go_ret
    exact ⟨rfl, below_trans HB15.out hb16⟩

set_option maxHeartbeats 16000000 in
theorem does_aw (w : World) (hS : Sig w) (A : Option Addr) (l m : List Item) (c : Nat) (xk : Bytes) (xd xi : Int) (xs : Bytes) (xv : Int) (k yk ys q : Bytes)
    (hml : m.length ≤ 66) (hfew : Calls Tryd.prog 9 #[.slice A l.length c] (w.alloc (.cells #[.string ⟨xk.toArray⟩, .int .i64 xd, .int .i64 xi, .string ⟨xs.toArray⟩, .int .i64 xv] 32)).drew (FsOut Item.cells 5 32 (w.alloc (.cells #[.string ⟨xk.toArray⟩, .int .i64 xd, .int .i64 xi, .string ⟨xs.toArray⟩, .int .i64 xv] 32)).drew m))
    (hs1 : ∀ w, Calls Tryd.prog 16 #[.string ⟨k.toArray⟩] w fun e w' => e = .returned (.string ⟨q.toArray⟩) ∧ w = w')
    (hone : ∀ w, Calls Tryd.prog 15 #[.agg #[.string ⟨xk.toArray⟩, .int .i64 xd, .int .i64 xi, .string ⟨xs.toArray⟩, .int .i64 xv]] w fun e w' => e = .returned (.agg #[.string ⟨yk.toArray⟩, .int .i64 xd, .int .i64 xi, .string ⟨ys.toArray⟩, .int .i64 xv]) ∧ Below w.heap.size w w')
    (hget : ∀ (A : Option Addr) (c : Nat) w, Sig w → Fs Item.cells 5 w A m → Calls Tryd.prog 17 #[.slice A m.length c, .string ⟨q.toArray⟩] w (fun e w' => e = .returned (.tuple #[.agg #[.string ⟨#[]⟩, .int .i64 0, .int .i64 0, .string ⟨#[]⟩, .int .i64 0], .bool false]) ∧ Below w.heap.size w w'))
    (r : List Item) (hput : ∀ (A : Option Addr) (c : Nat) w, Sig w → Fs Item.cells 5 w A m → m.length ≤ c → Calls Tryd.prog 18 #[.slice A m.length c, .agg #[.string ⟨yk.toArray⟩, .int .i64 xd, .int .i64 xi, .string ⟨ys.toArray⟩, .int .i64 xv]] w (fun e w' => ∃ (A2 : Option Addr) (c2 : Nat), e = .returned (.tuple #[.slice A2 r.length c2, .int .i64 0]) ∧ Fs Item.cells 5 w' A2 r ∧ Below w.heap.size w w'))
    (hdel : ∀ (A : Option Addr) (c : Nat) w, Sig w → Fs Item.cells 5 w A m → m.length ≤ c → Calls Tryd.prog 19 #[.slice A m.length c, .string ⟨q.toArray⟩] w (fun e w' => ∃ (A2 : Option Addr) (c2 : Nat), e = .returned (.tuple #[.slice A2 0 c2, .int .i64 6]) ∧ Below w.heap.size w w'))
    (hsm : ∀ (A B : Option Addr) (c d : Nat) (l : List Item) w, Fs Item.cells 5 w A l → Fs Item.cells 5 w B l → l.length ≤ 100 → Calls Tryd.prog 20 #[.slice A l.length c, .slice B l.length d] w (fun e w' => e = .returned (.bool true) ∧ Below w.heap.size w w'))
    (his : ∀ (A : Option Addr) (c : Nat) w, Fs Item.cells 5 w A m → Calls Tryd.prog 21 #[.slice A m.length c] w (fun e w' => e = .returned (.bool true) ∧ Below w.heap.size w w'))
    (hrat : ∀ (A : Option Addr) (c : Nat) w, Fs Item.cells 5 w A m → Calls Tryd.prog 22 #[.slice A m.length c, .string ⟨q.toArray⟩] w (fun e w' => e = .returned (.int .i64 (-1)) ∧ Below w.heap.size w w'))
    (hmay : ∀ w, Calls Tryd.prog 24 #[.agg #[.string ⟨yk.toArray⟩, .int .i64 xd, .int .i64 xi, .string ⟨ys.toArray⟩, .int .i64 xv]] w (fun e w' => e = .returned (.bool true) ∧ Below w.heap.size w w'))
    (pos2 : Nat) (hrat2 : ∀ (A : Option Addr) (c : Nat) w, Fs Item.cells 5 w A m → Calls Tryd.prog 22 #[.slice A m.length c, .string ⟨yk.toArray⟩] w (fun e w' => e = .returned (.int .i64 pos2) ∧ Below w.heap.size w w'))
    (hlr : r.length ≤ 100) (hwith : ∀ (A : Option Addr) (c : Nat) w, Fs Item.cells 5 w A m → Calls Tryd.prog 25 #[.slice A m.length c, .agg #[.string ⟨yk.toArray⟩, .int .i64 xd, .int .i64 xi, .string ⟨ys.toArray⟩, .int .i64 xv]] w (fun e w' => ∃ (A2 : Option Addr) (c2 : Nat), e = .returned (.slice A2 r.length c2) ∧ Fs Item.cells 5 w' A2 r ∧ Below w.heap.size w w'))
    :
    Calls Tryd.prog 4 #[.slice A l.length c, .agg #[.string ⟨xk.toArray⟩, .int .i64 xd, .int .i64 xi, .string ⟨xs.toArray⟩, .int .i64 xv], .string ⟨k.toArray⟩] w fun e w' => e = .returned (.bool true) ∧ Below w.heap.size w w' := by
  have HFEW := hide hfew; clear hfew
  have HS1 := hide hs1; clear hs1
  have HONE := hide hone; clear hone
  have HS := hide hS; clear hS
  have HGET := hide hget; clear hget
  have HPUT := hide hput; clear hput
  have HDEL := hide hdel; clear hdel
  have HSM := hide hsm; clear hsm
  have HIS := hide his; clear his
  have HRAT := hide hrat; clear hrat
  have HMAY := hide hmay; clear hmay
  have HRAT2 := hide hrat2; clear hrat2
  have HWITH := hide hwith; clear hwith
  go_enter Tryd.func4, Tryd.ntmps4
  go_wp2_with fail
  go_region_with
    (first
      | (go_at_call 9; refine HFEW.out.mono ?_; rintro e w1 ⟨A1, c1, rfl, hown1, hb1⟩; obtain ⟨hc1, hf1⟩ := bcell hb1; have hz1 : w.heap.size < w1.heap.size := by have := hb1.size; simp at this; omega)
      | (go_at_call 15; refine (HONE.out _).mono ?_; rintro e w2 ⟨rfl, hb2⟩; obtain ⟨hc2, hf2⟩ := bcell hb2; have hz2 : w.heap.size < w2.heap.size := Nat.lt_of_lt_of_le hz1 hb2.size)
      | (go_at_call 16; refine (HS1.out _).mono ?_; rintro e w' ⟨rfl, rfl⟩))
  all_goals
    have hcc := hide (own_cap hown1)
    have hxx := st5_bx (w := w2) (b := w.heap.size) (v0 := .string ⟨xk.toArray⟩) (v1 := .int .i64 xd) (v2 := .int .i64 xi) (v3 := .string ⟨xs.toArray⟩) (v4 := .int .i64 xv) yk xd xi ys xv hz2 (by rw [hc2 _ _ hz1, hc1 _ _ (by simp)]; simp) (by rw [hc2 _ _ hz1, hc1 _ _ (by simp)]; simp) (by rw [hc2 _ _ hz1, hc1 _ _ (by simp)]; simp) (by rw [hc2 _ _ hz1, hc1 _ _ (by simp)]; simp) (by rw [hc2 _ _ hz1, hc1 _ _ (by simp)]; simp)
    have hbw := set5 (below_trans (below_trans (gr1d w _) hb1) hb2) (.string ⟨yk.toArray⟩) (.int .i64 xd) (.int .i64 xi) (.string ⟨ys.toArray⟩) (.int .i64 xv)
    have hF2 := (Fs.of_own rfl hown1).below hb2
    have hF3 : Fs Item.cells 5 (((((w2.setCell ⟨w.heap.size, 0, none⟩ (.string ⟨yk.toArray⟩)).setCell ⟨w.heap.size, 1, none⟩ (.int .i64 xd)).setCell ⟨w.heap.size, 2, none⟩ (.int .i64 xi)).setCell ⟨w.heap.size, 3, none⟩ (.string ⟨ys.toArray⟩)).setCell ⟨w.heap.size, 4, none⟩ (.int .i64 xv)) A1 m := by
      exact hF2.set5 (own_far hown1 (by simp)) _ _ _ _ _
    generalize ((((w2.setCell ⟨w.heap.size, 0, none⟩ (.string ⟨yk.toArray⟩)).setCell ⟨w.heap.size, 1, none⟩ (.int .i64 xd)).setCell ⟨w.heap.size, 2, none⟩ (.int .i64 xi)).setCell ⟨w.heap.size, 3, none⟩ (.string ⟨ys.toArray⟩)).setCell ⟨w.heap.size, 4, none⟩ (.int .i64 xv) = w3 at hxx hbw hF3
    have HX3 := hide hxx; have HB3 := hide hbw; have HF3 := hide hF3
    clear hxx hbw hF3 hF2 hown1 hb1 hb2 hc1 hf1 hc2 hf2 hz1 hz2
    have hzz : ∀ w, (binOp .eql 32 (.agg #[.string ⟨#[]⟩, .int .i64 0, .int .i64 0, .string ⟨#[]⟩, .int .i64 0]) (.agg #[.string ⟨#[]⟩, .int .i64 0, .int .i64 0, .string ⟨#[]⟩, .int .i64 0])).run Tryd.prog w = .ok (.bool true) w := fun w => by have := run_eq_item w [] 0 0 [] 0 [] 0 0 [] 0; simpa using this
    have hzn : ∀ w, (binOp .neq 32 (.agg #[.string ⟨#[]⟩, .int .i64 0, .int .i64 0, .string ⟨#[]⟩, .int .i64 0]) (.agg #[.string ⟨#[]⟩, .int .i64 0, .int .i64 0, .string ⟨#[]⟩, .int .i64 0])).run Tryd.prog w = .ok (.bool false) w := fun w => by have := run_neq_item w [] 0 0 [] 0 [] 0 0 [] 0; simpa using this
    go_wp2_with (first
    | (go_at_call 14; refine (awake_any _ (HS.out.below HB15.out)).mono ?_; rintro e w16 ⟨rfl, hb16⟩)
    | (go_at_call 20; refine (HSM.out A7 AW c7 cW r _ HU14.out HW14.out hlr).mono ?_; rintro e w15 ⟨rfl, hb15⟩; have hbb15 := hb15; have HB15 := hide (below_trans HB14.out hbb15); clear hb15 hbb15)
    | (go_at_call 25; refine (HWITH.out A1 c1 _ HF13.out).mono ?_; rintro e w14 ⟨AW, cW, rfl, hW14, hb14⟩; have hbb14 := hb14; have HU14 := hide (HU13.out.below hbb14); have HW14 := hide hW14; have HB14 := hide (below_trans HB13.out hbb14); clear hb14 hbb14 hW14 eX13 gX13 pX13_0 pX13_1 pX13_2 pX13_3 pX13_4)
    | (go_at_call 22; refine (HRAT2.out A1 c1 _ HF12.out).mono ?_; rintro e w13 ⟨rfl, hb13⟩; have hbb13 := hb13; have HX13 := hide (HX12.out.below hbb13); have HF13 := hide (HF12.out.below hbb13); have HU13 := hide (HU12.out.below hbb13); have HB13 := hide (below_trans HB12.out hbb13); obtain ⟨qX13, pX13_0, pX13_1, pX13_2, pX13_3, pX13_4⟩ := HX13.out; have eX13 := Nat.ne_of_lt qX13; have gX13 := Nat.ne_of_gt qX13; clear hb13 hbb13 eX12 gX12 pX12_0 pX12_1 pX12_2 pX12_3 pX12_4)
    | (go_at_call 24; refine (HMAY.out _).mono ?_; rintro e w12 ⟨rfl, hb12⟩; have hbb12 := hb12; have HX12 := hide (HX11.out.below hbb12); have HF12 := hide (HF11.out.below hbb12); have HU12 := hide (HU11.out.below hbb12); have HB12 := hide (below_trans HB11.out hbb12); obtain ⟨qX12, pX12_0, pX12_1, pX12_2, pX12_3, pX12_4⟩ := HX12.out; have eX12 := Nat.ne_of_lt qX12; have gX12 := Nat.ne_of_gt qX12; clear pX11_0 pX11_1 pX11_2 pX11_3 pX11_4; clear hb12 hbb12)
    | (go_at_call 22; refine (HRAT.out A1 c1 _ HF10.out).mono ?_; rintro e w11 ⟨rfl, hb11⟩; have hbb11 := hb11; have HX11 := hide (HX10.out.below hbb11); have HD11 := hide (HD10.out.below hbb11); have HF11 := hide (HF10.out.below hbb11); have HU11 := hide (HU10.out.below hbb11); have HB11 := hide (below_trans HB10.out hbb11); obtain ⟨qD11, pD11_0, pD11_1, pD11_2, pD11_3, pD11_4⟩ := HD11.out; have eD11 := Nat.ne_of_lt qD11; have gD11 := Nat.ne_of_gt qD11; clear hb11 hbb11 eD10 gD10 pD10_0 pD10_1 pD10_2 pD10_3 pD10_4; obtain ⟨qX11, pX11_0, pX11_1, pX11_2, pX11_3, pX11_4⟩ := HX11.out)
    | (go_at_call 21; refine (HIS.out A1 c1 _ HF9.out).mono ?_; rintro e w10 ⟨rfl, hb10⟩; have hbb10 := hb10; have HX10 := hide (HX9.out.below hbb10); have HD10 := hide (HD9.out.below hbb10); have HF10 := hide (HF9.out.below hbb10); have HU10 := hide (HU9.out.below hbb10); have HB10 := hide (below_trans HB9.out hbb10); obtain ⟨qD10, pD10_0, pD10_1, pD10_2, pD10_3, pD10_4⟩ := HD10.out; have eD10 := Nat.ne_of_lt qD10; have gD10 := Nat.ne_of_gt qD10; clear hidx hroom; clear hb10 hbb10)
    | (go_at_call 20; refine (HSM.out (some ⟨g5, 0, none⟩) A1 c5 c1 m _ (room_take HP8.out) HF8.out (by omega)).mono ?_; rintro e w9 ⟨rfl, hb9⟩; have hbb9 := hb9; have HX9 := hide (HX8.out.below hbb9); have HD9 := hide (HD8.out.below hbb9); have HF9 := hide (HF8.out.below hbb9); have HP9 := hide (HP8.out.below hbb9); have HU9 := hide (HU8.out.below hbb9); have HB9 := hide (below_trans HB8.out hbb9); have hidx := fun w => run_elemAddr Tryd.underlying22 size_item g5 0 (m.length + 1) c5 m.length (by omega) (m.length : Int) rfl w; simp only [Nat.zero_add] at hidx; have hroom := room_cell HP9.out; clear hb9 hbb9)
    | (go_at_call 19; refine (HDEL.out (some ⟨g5, 0, none⟩) c5 _ (HS.out.below HB7.out) (room_take HP7.out) (by omega)).mono ?_; rintro e w8 ⟨A8, c8, rfl, hb8⟩; have hbb8 := hb8; have HX8 := hide (HX7.out.below hbb8); have HD8 := hide (HD7.out.below hbb8); have HF8 := hide (HF7.out.below hbb8); have HP8 := hide (HP7.out.below hbb8); have HU8 := hide (HU7.out.below hbb8); have HB8 := hide (below_trans HB7.out hbb8); clear hb8 hbb8)
    | (go_at_call 18; refine (HPUT.out (some ⟨g5, 0, none⟩) c5 _ (HS.out.below (below_trans HB6.out (gr1 _ _))) (room_take (HP6.out.below (gr1 _ _))) (by omega)).mono ?_; rintro e w7 ⟨A7, c7, rfl, hU7, hb7⟩; have hbb7 := below_trans (gr1 _ _) hb7; have HX7 := hide (HX6.out.below hbb7); have HF7 := hide (HF6.out.below hbb7); have HP7 := hide (HP6.out.below hbb7); have HD7 := hide ((box_bx w6 _ [] 0 0 [] 0).below hb7); have HU7 := hide hU7; have HB7 := hide (below_trans HB6.out hbb7); clear hb7 hbb7 hU7 eX6 gX6 pX6_0 pX6_1 pX6_2 pX6_3 pX6_4)
    | (go_at_call 17; refine (HGET.out (some ⟨g5, 0, none⟩) c5 _ (HS.out.below HB5.out) (room_take HP5.out)).mono ?_; rintro e w6 ⟨rfl, hb6⟩; have hbb6 := hb6; have HX6 := hide (HX5.out.below hbb6); have HF6 := hide (HF5.out.below hbb6); have HP6 := hide (HP5.out.below hbb6); have HB6 := hide (below_trans HB5.out hbb6); obtain ⟨qX6, pX6_0, pX6_1, pX6_2, pX6_3, pX6_4⟩ := HX6.out; have eX6 := Nat.ne_of_lt qX6; have gX6 := Nat.ne_of_gt qX6; clear hb6 hbb6)
    | (at_builtin; refine wpList_appE w4 rfl (.tmp 24) (.tmp 26) _ rfl w3 w3.heap.size 32 32 _ 5 56 Tryd.underlying22 info_item rfl (by omega) (by omega) _ m.length _ #[.string ⟨#[]⟩, .int .i64 0, .int .i64 0, .string ⟨#[]⟩, .int .i64 77] (by rfl) w4.heap.size rfl (by rfl) rfl (item_one [] 0 0 [] 77) hown4 hb4 hb4.size (by omega) ?_; intro g5 c5 w5 hown5 hb5; have HP5 := hide (Fs.of_own (f := Item.cells) (l := m ++ [⟨[], 0, 0, [], 77⟩]) (n := m.length + 1) (by simp) (by rw [cells_snoc]; exact hown5)); have HX5 := hide (HX3.out.below hb5); have HF5 := hide (HF3.out.below hb5); have HB5 := hide (below_trans HB3.out hb5); have hcap := own_cap hown5; have hcut := fun w => run_cutH Tryd.underlying22 size_item (some ⟨g5, 0, none⟩) (m.length + 1) c5 m.length (by omega) (m.length : Int) rfl w; clear hown4 hown5 hb4 hb5)
    | (at_builtin; refine wpList_appAny _ rfl (.tmp 22) (.tmp 23) _ rfl w3 w3.heap.size 32 _ 5 56 Tryd.underlying22 info_item rfl (by omega) (by omega) _ 0 _ (by rfl) (show (w3.alloc (.cells #[] 32)).ownsRow w3.heap.size 32 5 (.slice (some ⟨w3.heap.size, 0, none⟩) 0 0) 0 [] from own_new w3 w3.heap.size _ 5 0 #[] (Nat.le_refl _) rfl (by simp [maxLen])) (gr1 w3 _) _ _ _ _ (by rfl) (HF3.out.alloc _) (cells_one _) (by omega) (by simp) ?_; intro A4 c4 w4 hown4 hb4; simp only [Nat.zero_add, List.nil_append] at hown4))
    go_ret
    exact ⟨rfl, below_trans HB15.out hb16⟩

end Go.Proofs.YtagdjoabpkmomaaDoor
