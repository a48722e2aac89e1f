/-
  The walk of the law LeafDoes. (Printed by gen_does.py.)
-/
import Derived.Test.YtagdjoabpkmomaaDoorDoes0
namespace Go.Proofs.YtagdjoabpkmomaaDoor
open Go.RowKit
set_option maxRecDepth 100000
set_option linter.unusedSimpArgs false
set_option linter.unusedVariables false
attribute [local go_sem ↓] Go.wp_at_zero Go.wp_at_succ

set_option maxHeartbeats 16000000 in
theorem does_tm (w : World) (hS : Sig w) (A : Option Addr) (l m : List Item) (c : Nat) (xk : Bytes) (xd xi : Int) (xs : Bytes) (xv : Int) (k yk ys q : Bytes)
    (hml : m.length ≤ 66) (hfew : Calls Tryd.prog 9 #[.slice A l.length c] (w.alloc (.cells #[.string ⟨xk.toArray⟩, .int .i64 xd, .int .i64 xi, .string ⟨xs.toArray⟩, .int .i64 xv] 32)).drew (FsOut Item.cells 5 32 (w.alloc (.cells #[.string ⟨xk.toArray⟩, .int .i64 xd, .int .i64 xi, .string ⟨xs.toArray⟩, .int .i64 xv] 32)).drew m))
    (hs1 : ∀ w, Calls Tryd.prog 16 #[.string ⟨k.toArray⟩] w fun e w' => e = .returned (.string ⟨q.toArray⟩) ∧ w = w')
    (hone : ∀ w, Calls Tryd.prog 15 #[.agg #[.string ⟨xk.toArray⟩, .int .i64 xd, .int .i64 xi, .string ⟨xs.toArray⟩, .int .i64 xv]] w fun e w' => e = .returned (.agg #[.string ⟨yk.toArray⟩, .int .i64 xd, .int .i64 xi, .string ⟨ys.toArray⟩, .int .i64 xv]) ∧ Below w.heap.size w w')
    (hk hs : Bytes) (hd hi hv : Int) (pos : Nat) (hpos : pos < m.length) (hat : m[pos] = ⟨hk, hd, hi, hs, hv⟩)
    (hget : ∀ (A : Option Addr) (c : Nat) w, Sig w → Fs Item.cells 5 w A m → Calls Tryd.prog 17 #[.slice A m.length c, .string ⟨q.toArray⟩] w (fun e w' => e = .returned (.tuple #[.agg #[.string ⟨hk.toArray⟩, .int .i64 hd, .int .i64 hi, .string ⟨hs.toArray⟩, .int .i64 hv], .bool true]) ∧ Below w.heap.size w w'))
    (hput : ∀ (A : Option Addr) (c : Nat) w, Sig w → Fs Item.cells 5 w A m → m.length ≤ c → Calls Tryd.prog 18 #[.slice A m.length c, .agg #[.string ⟨yk.toArray⟩, .int .i64 xd, .int .i64 xi, .string ⟨ys.toArray⟩, .int .i64 xv]] w (fun e w' => ∃ (A2 : Option Addr) (c2 : Nat), e = .returned (.tuple #[.slice A2 0 c2, .int .i64 1]) ∧ Below w.heap.size w w'))
    (r2 : List Item) (hdel : ∀ (A : Option Addr) (c : Nat) w, Sig w → Fs Item.cells 5 w A m → m.length ≤ c → Calls Tryd.prog 19 #[.slice A m.length c, .string ⟨q.toArray⟩] w (fun e w' => ∃ (A2 : Option Addr) (c2 : Nat), e = .returned (.tuple #[.slice A2 r2.length c2, .int .i64 0]) ∧ Fs Item.cells 5 w' A2 r2 ∧ Below w.heap.size w w'))
    (hsm : ∀ (A B : Option Addr) (c d : Nat) (l : List Item) w, Fs Item.cells 5 w A l → Fs Item.cells 5 w B l → l.length ≤ 100 → Calls Tryd.prog 20 #[.slice A l.length c, .slice B l.length d] w (fun e w' => e = .returned (.bool true) ∧ Below w.heap.size w w'))
    (his : ∀ (A : Option Addr) (c : Nat) w, Fs Item.cells 5 w A m → Calls Tryd.prog 21 #[.slice A m.length c] w (fun e w' => e = .returned (.bool true) ∧ Below w.heap.size w w'))
    (hrat : ∀ (A : Option Addr) (c : Nat) w, Fs Item.cells 5 w A m → Calls Tryd.prog 22 #[.slice A m.length c, .string ⟨q.toArray⟩] w (fun e w' => e = .returned (.int .i64 pos) ∧ Below w.heap.size w w'))
    (hlr2 : r2.length ≤ 66) (hwo : ∀ (A : Option Addr) (c : Nat) w, Fs Item.cells 5 w A m → Calls Tryd.prog 23 #[.slice A m.length c, .string ⟨q.toArray⟩] w (fun e w' => ∃ (A2 : Option Addr) (c2 : Nat), e = .returned (.slice A2 r2.length c2) ∧ Fs Item.cells 5 w' A2 r2 ∧ Below w.heap.size w w'))
    (hmay : ∀ w, Calls Tryd.prog 24 #[.agg #[.string ⟨yk.toArray⟩, .int .i64 xd, .int .i64 xi, .string ⟨ys.toArray⟩, .int .i64 xv]] w (fun e w' => e = .returned (.bool false) ∧ Below w.heap.size w w'))
    :
    Calls Tryd.prog 4 #[.slice A l.length c, .agg #[.string ⟨xk.toArray⟩, .int .i64 xd, .int .i64 xi, .string ⟨xs.toArray⟩, .int .i64 xv], .string ⟨k.toArray⟩] w fun e w' => e = .returned (.bool true) ∧ Below w.heap.size w w' := by
  have HFEW := hide hfew; clear hfew
  have HS1 := hide hs1; clear hs1
  have HONE := hide hone; clear hone
  have HS := hide hS; clear hS
  have HGET := hide hget; clear hget
  have HPUT := hide hput; clear hput
  have HDEL := hide hdel; clear hdel
  have HSM := hide hsm; clear hsm
  have HIS := hide his; clear his
  have HRAT := hide hrat; clear hrat
  have HWO := hide hwo; clear hwo
  have HMAY := hide hmay; clear hmay
  have HAT := hide hat; clear hat
  go_enter Tryd.func4, Tryd.ntmps4
  go_wp2_with fail
  go_region_with
    (first
      | (go_at_call 9; refine HFEW.out.mono ?_; rintro e w1 ⟨A1, c1, rfl, hown1, hb1⟩; obtain ⟨hc1, hf1⟩ := bcell hb1; have hz1 : w.heap.size < w1.heap.size := by have := hb1.size; simp at this; omega)
      | (go_at_call 15; refine (HONE.out _).mono ?_; rintro e w2 ⟨rfl, hb2⟩; obtain ⟨hc2, hf2⟩ := bcell hb2; have hz2 : w.heap.size < w2.heap.size := Nat.lt_of_lt_of_le hz1 hb2.size)
      | (go_at_call 16; refine (HS1.out _).mono ?_; rintro e w' ⟨rfl, rfl⟩))
  all_goals
    have hcc := hide (own_cap hown1)
    have hxx := st5_bx (w := w2) (b := w.heap.size) (v0 := .string ⟨xk.toArray⟩) (v1 := .int .i64 xd) (v2 := .int .i64 xi) (v3 := .string ⟨xs.toArray⟩) (v4 := .int .i64 xv) yk xd xi ys xv hz2 (by rw [hc2 _ _ hz1, hc1 _ _ (by simp)]; simp) (by rw [hc2 _ _ hz1, hc1 _ _ (by simp)]; simp) (by rw [hc2 _ _ hz1, hc1 _ _ (by simp)]; simp) (by rw [hc2 _ _ hz1, hc1 _ _ (by simp)]; simp) (by rw [hc2 _ _ hz1, hc1 _ _ (by simp)]; simp)
    have hbw := set5 (below_trans (below_trans (gr1d w _) hb1) hb2) (.string ⟨yk.toArray⟩) (.int .i64 xd) (.int .i64 xi) (.string ⟨ys.toArray⟩) (.int .i64 xv)
    have hF2 := (Fs.of_own rfl hown1).below hb2
    have hF3 : Fs Item.cells 5 (((((w2.setCell ⟨w.heap.size, 0, none⟩ (.string ⟨yk.toArray⟩)).setCell ⟨w.heap.size, 1, none⟩ (.int .i64 xd)).setCell ⟨w.heap.size, 2, none⟩ (.int .i64 xi)).setCell ⟨w.heap.size, 3, none⟩ (.string ⟨ys.toArray⟩)).setCell ⟨w.heap.size, 4, none⟩ (.int .i64 xv)) A1 m := by
      exact hF2.set5 (own_far hown1 (by simp)) _ _ _ _ _
    generalize ((((w2.setCell ⟨w.heap.size, 0, none⟩ (.string ⟨yk.toArray⟩)).setCell ⟨w.heap.size, 1, none⟩ (.int .i64 xd)).setCell ⟨w.heap.size, 2, none⟩ (.int .i64 xi)).setCell ⟨w.heap.size, 3, none⟩ (.string ⟨ys.toArray⟩)).setCell ⟨w.heap.size, 4, none⟩ (.int .i64 xv) = w3 at hxx hbw hF3
    have HX3 := hide hxx; have HB3 := hide hbw; have HF3 := hide hF3
    clear hxx hbw hF3 hF2 hown1 hb1 hb2 hc1 hf1 hc2 hf2 hz1 hz2
    obtain ⟨b, off, rfl, hbl, hcell⟩ := HF3.out.cell (fun _ => rfl) (by omega)
    obtain ⟨u0, u1, u2, u3, u4⟩ := five hcell (Below.refl _ _) hbl hpos
    have hy : By w3 b (off + pos * 5) m[pos] := ⟨hbl, u0, u1, u2, u3, u4⟩
    rw [HAT.out] at hy
    have HY3 := hide hy
    have hp0 : ¬ (pos : Int) < 0 := by omega
    clear hy u0 u1 u2 u3 u4 hcell hbl
    have hzz : ∀ w, (binOp .eql 32 (.agg #[.string ⟨#[]⟩, .int .i64 0, .int .i64 0, .string ⟨#[]⟩, .int .i64 0]) (.agg #[.string ⟨#[]⟩, .int .i64 0, .int .i64 0, .string ⟨#[]⟩, .int .i64 0])).run Tryd.prog w = .ok (.bool true) w := fun w => by have := run_eq_item w [] 0 0 [] 0 [] 0 0 [] 0; simpa using this
    have hzn : ∀ w, (binOp .neq 32 (.agg #[.string ⟨#[]⟩, .int .i64 0, .int .i64 0, .string ⟨#[]⟩, .int .i64 0]) (.agg #[.string ⟨#[]⟩, .int .i64 0, .int .i64 0, .string ⟨#[]⟩, .int .i64 0])).run Tryd.prog w = .ok (.bool false) w := fun w => by have := run_neq_item w [] 0 0 [] 0 [] 0 0 [] 0; simpa using this
    have hhh : ∀ w, (binOp .neq 32 (.agg #[.string ⟨hk.toArray⟩, .int .i64 hd, .int .i64 hi, .string ⟨hs.toArray⟩, .int .i64 hv]) (.agg #[.string ⟨hk.toArray⟩, .int .i64 hd, .int .i64 hi, .string ⟨hs.toArray⟩, .int .i64 hv])).run Tryd.prog w = .ok (.bool false) w := fun w => by rw [run_neq_item]; simp
    go_wp2_with (first
    | (go_at_call 22; refine (HRAT.out (some ⟨b, off, none⟩) c1 _ HF10.out).mono ?_; rintro e w11 ⟨rfl, hb11⟩; have hbb11 := hb11; have HX11 := hide (HX10.out.below hbb11); have HD11 := hide (HD10.out.below hbb11); have HF11 := hide (HF10.out.below hbb11); have HY11 := hide (HY10.out.below hbb11); have HV11 := hide (HV10.out.below hbb11); have HB11 := hide (below_trans HB10.out hbb11); obtain ⟨qD11, pD11_0, pD11_1, pD11_2, pD11_3, pD11_4⟩ := HD11.out; have eD11 := Nat.ne_of_lt qD11; have gD11 := Nat.ne_of_gt qD11; obtain ⟨qY11, y0, y1, y2, y3, y4⟩ := HY11.out; clear hb11 hbb11 eD10 gD10 pD10_0 pD10_1 pD10_2 pD10_3 pD10_4)
    | (go_at_call 21; refine (HIS.out (some ⟨b, off, none⟩) c1 _ HF9.out).mono ?_; rintro e w10 ⟨rfl, hb10⟩; have hbb10 := hb10; have HX10 := hide (HX9.out.below hbb10); have HD10 := hide (HD9.out.below hbb10); have HF10 := hide (HF9.out.below hbb10); have HY10 := hide (HY9.out.below hbb10); have HV10 := hide (HV9.out.below hbb10); have HB10 := hide (below_trans HB9.out hbb10); obtain ⟨qD10, pD10_0, pD10_1, pD10_2, pD10_3, pD10_4⟩ := HD10.out; have eD10 := Nat.ne_of_lt qD10; have gD10 := Nat.ne_of_gt qD10; clear hidx hroom; clear hb10 hbb10)
    | (go_at_call 20; refine (HSM.out (some ⟨g5, 0, none⟩) (some ⟨b, off, none⟩) c5 c1 m _ (room_take HP8.out) HF8.out (by omega)).mono ?_; rintro e w9 ⟨rfl, hb9⟩; have hbb9 := hb9; have HX9 := hide (HX8.out.below hbb9); have HD9 := hide (HD8.out.below hbb9); have HF9 := hide (HF8.out.below hbb9); have HP9 := hide (HP8.out.below hbb9); have HY9 := hide (HY8.out.below hbb9); have HV9 := hide (HV8.out.below hbb9); have HB9 := hide (below_trans HB8.out hbb9); have hidx := fun w => run_elemAddr Tryd.underlying22 size_item g5 0 (m.length + 1) c5 m.length (by omega) (m.length : Int) rfl w; simp only [Nat.zero_add] at hidx; have hroom := room_cell HP9.out; clear hb9 hbb9)
    | (go_at_call 19; refine (HDEL.out (some ⟨g5, 0, none⟩) c5 _ (HS.out.below HB7.out) (room_take HP7.out) (by omega)).mono ?_; rintro e w8 ⟨A8, c8, rfl, hV8, hb8⟩; have hbb8 := hb8; have HX8 := hide (HX7.out.below hbb8); have HD8 := hide (HD7.out.below hbb8); have HF8 := hide (HF7.out.below hbb8); have HP8 := hide (HP7.out.below hbb8); have HY8 := hide (HY7.out.below hbb8); have HV8 := hide hV8; have HB8 := hide (below_trans HB7.out hbb8); clear hb8 hbb8 hV8)
    | (go_at_call 18; refine (HPUT.out (some ⟨g5, 0, none⟩) c5 _ (HS.out.below (below_trans HB6.out (gr1 _ _))) (room_take (HP6.out.below (gr1 _ _))) (by omega)).mono ?_; rintro e w7 ⟨A7, c7, rfl, hb7⟩; have hbb7 := below_trans (gr1 _ _) hb7; have HX7 := hide (HX6.out.below hbb7); have HF7 := hide (HF6.out.below hbb7); have HP7 := hide (HP6.out.below hbb7); have HY7 := hide (HY6.out.below hbb7); have HD7 := hide ((box_bx w6 _ hk hd hi hs hv).below hb7); have HB7 := hide (below_trans HB6.out hbb7); clear hb7 hbb7 eX6 gX6 pX6_0 pX6_1 pX6_2 pX6_3 pX6_4)
    | (go_at_call 17; refine (HGET.out (some ⟨g5, 0, none⟩) c5 _ (HS.out.below HB5.out) (room_take HP5.out)).mono ?_; rintro e w6 ⟨rfl, hb6⟩; have hbb6 := hb6; have HX6 := hide (HX5.out.below hbb6); have HF6 := hide (HF5.out.below hbb6); have HP6 := hide (HP5.out.below hbb6); have HY6 := hide (HY5.out.below hbb6); have HB6 := hide (below_trans HB5.out hbb6); obtain ⟨qX6, pX6_0, pX6_1, pX6_2, pX6_3, pX6_4⟩ := HX6.out; have eX6 := Nat.ne_of_lt qX6; have gX6 := Nat.ne_of_gt qX6; clear hb6 hbb6)
    | (at_builtin; refine wpList_appE w4 rfl (.tmp 24) (.tmp 26) _ rfl w3 w3.heap.size 32 32 _ 5 56 Tryd.underlying22 info_item rfl (by omega) (by omega) _ m.length _ #[.string ⟨#[]⟩, .int .i64 0, .int .i64 0, .string ⟨#[]⟩, .int .i64 77] (by rfl) w4.heap.size rfl (by rfl) rfl (item_one [] 0 0 [] 77) hown4 hb4 hb4.size (by omega) ?_; intro g5 c5 w5 hown5 hb5; have HP5 := hide (Fs.of_own (f := Item.cells) (l := m ++ [⟨[], 0, 0, [], 77⟩]) (n := m.length + 1) (by simp) (by rw [cells_snoc]; exact hown5)); have HX5 := hide (HX3.out.below hb5); have HY5 := hide (HY3.out.below hb5); have HF5 := hide (HF3.out.below hb5); have HB5 := hide (below_trans HB3.out hb5); have hcap := own_cap hown5; have hcut := fun w => run_cutH Tryd.underlying22 size_item (some ⟨g5, 0, none⟩) (m.length + 1) c5 m.length (by omega) (m.length : Int) rfl w; clear hown4 hown5 hb4 hb5)
    | (at_builtin; refine wpList_appAny _ rfl (.tmp 22) (.tmp 23) _ rfl w3 w3.heap.size 32 _ 5 56 Tryd.underlying22 info_item rfl (by omega) (by omega) _ 0 _ (by rfl) (show (w3.alloc (.cells #[] 32)).ownsRow w3.heap.size 32 5 (.slice (some ⟨w3.heap.size, 0, none⟩) 0 0) 0 [] from own_new w3 w3.heap.size _ 5 0 #[] (Nat.le_refl _) rfl (by simp [maxLen])) (gr1 w3 _) _ _ _ _ (by rfl) (HF3.out.alloc _) (cells_one _) (by omega) (by simp) ?_; intro A4 c4 w4 hown4 hb4; simp only [Nat.zero_add, List.nil_append] at hown4))
    have hidx := fun w => run_elemAddr Tryd.underlying22 size_item b off m.length c1 pos hpos (pos : Int) rfl w
    go_region_held3 (fun w' => w'.cell? ⟨w6.heap.size, 0, none⟩ = some (.string ⟨hk.toArray⟩) ∧ w'.cell? ⟨w6.heap.size, 1, none⟩ = some (.int .i64 hd) ∧ w'.cell? ⟨w6.heap.size, 2, none⟩ = some (.int .i64 hi) ∧ w'.cell? ⟨w6.heap.size, 3, none⟩ = some (.string ⟨hs.toArray⟩) ∧ w'.cell? ⟨w6.heap.size, 4, none⟩ = some (.int .i64 hv) ∧ w'.cell? ⟨b, off + pos * 5, none⟩ = some (.string ⟨hk.toArray⟩) ∧ w'.cell? ⟨b, off + pos * 5 + 1, none⟩ = some (.int .i64 hd) ∧ w'.cell? ⟨b, off + pos * 5 + 2, none⟩ = some (.int .i64 hi) ∧ w'.cell? ⟨b, off + pos * 5 + 3, none⟩ = some (.string ⟨hs.toArray⟩) ∧ w'.cell? ⟨b, off + pos * 5 + 4, none⟩ = some (.int .i64 hv)) (go_keep)
      (first
        | (go_at_call 20; refine (HSM.out A8 A12 c8 c12 r2 _ (HV11.out.below (below_of_drew hb12)) hV12 (by omega)).mono ?_; rintro e w13 ⟨rfl, hb13⟩; obtain ⟨hc13, hf13⟩ := bcell hb13)
        | (go_at_call 23; refine (HWO.out (some ⟨b, off, none⟩) c1 _ (Fs.drewN HF11.out 1)).mono ?_; rintro e w12 ⟨A12, c12, rfl, hV12, hb12⟩; obtain ⟨hc12, hf12⟩ := bcell (below_of_drew hb12); have z1 : w6.heap.size < w12.heap.size := Nat.lt_of_lt_of_le qD11 hb12.size; have z2 : b < w12.heap.size := Nat.lt_of_lt_of_le qY11 hb12.size))
    all_goals
      have hbb := below_trans (below_of_drew hb12) hb13
      have HX13 := hide (HX11.out.below hbb); have HF13 := hide (HF11.out.below hbb); have HB13 := hide (below_trans HB11.out hbb)
      obtain ⟨qX13, pX13_0, pX13_1, pX13_2, pX13_3, pX13_4⟩ := HX13.out
      clear hbb hc13 hf13 hc12 hf12 z1 z2 hV12 hb12 hb13 hidx y0 y1 y2 y3 y4 qY11 pD11_0 pD11_1 pD11_2 pD11_3 pD11_4
      go_wp2_with (first
    | (go_at_call 14; refine (awake_any _ (HS.out.below HB14.out)).mono ?_; rintro e w15 ⟨rfl, hb15⟩)
    | (go_at_call 24; refine (HMAY.out _).mono ?_; rintro e w14 ⟨rfl, hb14⟩; have hbb14 := hb14; have HX14 := hide (HX13.out.below hbb14); have HF14 := hide (HF13.out.below hbb14); have HB14 := hide (below_trans HB13.out hbb14); clear hb14 hbb14))
      go_ret
      exact ⟨rfl, below_trans HB14.out hb15⟩

set_option maxHeartbeats 16000000 in
theorem does_tf (w : World) (hS : Sig w) (A : Option Addr) (l m : List Item) (c : Nat) (xk : Bytes) (xd xi : Int) (xs : Bytes) (xv : Int) (k yk ys q : Bytes)
    (hml : m.length ≤ 66) (hfew : Calls Tryd.prog 9 #[.slice A l.length c] (w.alloc (.cells #[.string ⟨xk.toArray⟩, .int .i64 xd, .int .i64 xi, .string ⟨xs.toArray⟩, .int .i64 xv] 32)).drew (FsOut Item.cells 5 32 (w.alloc (.cells #[.string ⟨xk.toArray⟩, .int .i64 xd, .int .i64 xi, .string ⟨xs.toArray⟩, .int .i64 xv] 32)).drew m))
    (hs1 : ∀ w, Calls Tryd.prog 16 #[.string ⟨k.toArray⟩] w fun e w' => e = .returned (.string ⟨q.toArray⟩) ∧ w = w')
    (hone : ∀ w, Calls Tryd.prog 15 #[.agg #[.string ⟨xk.toArray⟩, .int .i64 xd, .int .i64 xi, .string ⟨xs.toArray⟩, .int .i64 xv]] w fun e w' => e = .returned (.agg #[.string ⟨yk.toArray⟩, .int .i64 xd, .int .i64 xi, .string ⟨ys.toArray⟩, .int .i64 xv]) ∧ Below w.heap.size w w')
    (hk hs : Bytes) (hd hi hv : Int) (pos : Nat) (hpos : pos < m.length) (hat : m[pos] = ⟨hk, hd, hi, hs, hv⟩)
    (hget : ∀ (A : Option Addr) (c : Nat) w, Sig w → Fs Item.cells 5 w A m → Calls Tryd.prog 17 #[.slice A m.length c, .string ⟨q.toArray⟩] w (fun e w' => e = .returned (.tuple #[.agg #[.string ⟨hk.toArray⟩, .int .i64 hd, .int .i64 hi, .string ⟨hs.toArray⟩, .int .i64 hv], .bool true]) ∧ Below w.heap.size w w'))
    (hput : ∀ (A : Option Addr) (c : Nat) w, Sig w → Fs Item.cells 5 w A m → m.length ≤ c → Calls Tryd.prog 18 #[.slice A m.length c, .agg #[.string ⟨yk.toArray⟩, .int .i64 xd, .int .i64 xi, .string ⟨ys.toArray⟩, .int .i64 xv]] w (fun e w' => ∃ (A2 : Option Addr) (c2 : Nat), e = .returned (.tuple #[.slice A2 0 c2, .int .i64 5]) ∧ Below w.heap.size w w'))
    (r2 : List Item) (hdel : ∀ (A : Option Addr) (c : Nat) w, Sig w → Fs Item.cells 5 w A m → m.length ≤ c → Calls Tryd.prog 19 #[.slice A m.length c, .string ⟨q.toArray⟩] w (fun e w' => ∃ (A2 : Option Addr) (c2 : Nat), e = .returned (.tuple #[.slice A2 r2.length c2, .int .i64 0]) ∧ Fs Item.cells 5 w' A2 r2 ∧ Below w.heap.size w w'))
    (hsm : ∀ (A B : Option Addr) (c d : Nat) (l : List Item) w, Fs Item.cells 5 w A l → Fs Item.cells 5 w B l → l.length ≤ 100 → Calls Tryd.prog 20 #[.slice A l.length c, .slice B l.length d] w (fun e w' => e = .returned (.bool true) ∧ Below w.heap.size w w'))
    (his : ∀ (A : Option Addr) (c : Nat) w, Fs Item.cells 5 w A m → Calls Tryd.prog 21 #[.slice A m.length c] w (fun e w' => e = .returned (.bool true) ∧ Below w.heap.size w w'))
    (hrat : ∀ (A : Option Addr) (c : Nat) w, Fs Item.cells 5 w A m → Calls Tryd.prog 22 #[.slice A m.length c, .string ⟨q.toArray⟩] w (fun e w' => e = .returned (.int .i64 pos) ∧ Below w.heap.size w w'))
    (hlr2 : r2.length ≤ 66) (hwo : ∀ (A : Option Addr) (c : Nat) w, Fs Item.cells 5 w A m → Calls Tryd.prog 23 #[.slice A m.length c, .string ⟨q.toArray⟩] w (fun e w' => ∃ (A2 : Option Addr) (c2 : Nat), e = .returned (.slice A2 r2.length c2) ∧ Fs Item.cells 5 w' A2 r2 ∧ Below w.heap.size w w'))
    (hmay : ∀ w, Calls Tryd.prog 24 #[.agg #[.string ⟨yk.toArray⟩, .int .i64 xd, .int .i64 xi, .string ⟨ys.toArray⟩, .int .i64 xv]] w (fun e w' => e = .returned (.bool true) ∧ Below w.heap.size w w'))
    (hrat2 : ∀ (A : Option Addr) (c : Nat) w, Fs Item.cells 5 w A m → Calls Tryd.prog 22 #[.slice A m.length c, .string ⟨yk.toArray⟩] w (fun e w' => e = .returned (.int .i64 (-1)) ∧ Below w.heap.size w w'))
    (h64 : m.length = 64)
    :
    Calls Tryd.prog 4 #[.slice A l.length c, .agg #[.string ⟨xk.toArray⟩, .int .i64 xd, .int .i64 xi, .string ⟨xs.toArray⟩, .int .i64 xv], .string ⟨k.toArray⟩] w fun e w' => e = .returned (.bool true) ∧ Below w.heap.size w w' := by
  have HFEW := hide hfew; clear hfew
  have HS1 := hide hs1; clear hs1
  have HONE := hide hone; clear hone
  have HS := hide hS; clear hS
  have HGET := hide hget; clear hget
  have HPUT := hide hput; clear hput
  have HDEL := hide hdel; clear hdel
  have HSM := hide hsm; clear hsm
  have HIS := hide his; clear his
  have HRAT := hide hrat; clear hrat
  have HWO := hide hwo; clear hwo
  have HMAY := hide hmay; clear hmay
  have HRAT2 := hide hrat2; clear hrat2
  have HAT := hide hat; clear hat
  have h64i : ((m.length : Int) == 64) = true := by rw [h64]; rfl
  have H64 := hide h64i; clear h64i h64
  go_enter Tryd.func4, Tryd.ntmps4
  go_wp2_with fail
  go_region_with
    (first
      | (go_at_call 9; refine HFEW.out.mono ?_; rintro e w1 ⟨A1, c1, rfl, hown1, hb1⟩; obtain ⟨hc1, hf1⟩ := bcell hb1; have hz1 : w.heap.size < w1.heap.size := by have := hb1.size; simp at this; omega)
      | (go_at_call 15; refine (HONE.out _).mono ?_; rintro e w2 ⟨rfl, hb2⟩; obtain ⟨hc2, hf2⟩ := bcell hb2; have hz2 : w.heap.size < w2.heap.size := Nat.lt_of_lt_of_le hz1 hb2.size)
      | (go_at_call 16; refine (HS1.out _).mono ?_; rintro e w' ⟨rfl, rfl⟩))
  all_goals
    have hcc := hide (own_cap hown1)
    have hxx := st5_bx (w := w2) (b := w.heap.size) (v0 := .string ⟨xk.toArray⟩) (v1 := .int .i64 xd) (v2 := .int .i64 xi) (v3 := .string ⟨xs.toArray⟩) (v4 := .int .i64 xv) yk xd xi ys xv hz2 (by rw [hc2 _ _ hz1, hc1 _ _ (by simp)]; simp) (by rw [hc2 _ _ hz1, hc1 _ _ (by simp)]; simp) (by rw [hc2 _ _ hz1, hc1 _ _ (by simp)]; simp) (by rw [hc2 _ _ hz1, hc1 _ _ (by simp)]; simp) (by rw [hc2 _ _ hz1, hc1 _ _ (by simp)]; simp)
    have hbw := set5 (below_trans (below_trans (gr1d w _) hb1) hb2) (.string ⟨yk.toArray⟩) (.int .i64 xd) (.int .i64 xi) (.string ⟨ys.toArray⟩) (.int .i64 xv)
    have hF2 := (Fs.of_own rfl hown1).below hb2
    have hF3 : Fs Item.cells 5 (((((w2.setCell ⟨w.heap.size, 0, none⟩ (.string ⟨yk.toArray⟩)).setCell ⟨w.heap.size, 1, none⟩ (.int .i64 xd)).setCell ⟨w.heap.size, 2, none⟩ (.int .i64 xi)).setCell ⟨w.heap.size, 3, none⟩ (.string ⟨ys.toArray⟩)).setCell ⟨w.heap.size, 4, none⟩ (.int .i64 xv)) A1 m := by
      exact hF2.set5 (own_far hown1 (by simp)) _ _ _ _ _
    generalize ((((w2.setCell ⟨w.heap.size, 0, none⟩ (.string ⟨yk.toArray⟩)).setCell ⟨w.heap.size, 1, none⟩ (.int .i64 xd)).setCell ⟨w.heap.size, 2, none⟩ (.int .i64 xi)).setCell ⟨w.heap.size, 3, none⟩ (.string ⟨ys.toArray⟩)).setCell ⟨w.heap.size, 4, none⟩ (.int .i64 xv) = w3 at hxx hbw hF3
    have HX3 := hide hxx; have HB3 := hide hbw; have HF3 := hide hF3
    clear hxx hbw hF3 hF2 hown1 hb1 hb2 hc1 hf1 hc2 hf2 hz1 hz2
    obtain ⟨b, off, rfl, hbl, hcell⟩ := HF3.out.cell (fun _ => rfl) (by omega)
    obtain ⟨u0, u1, u2, u3, u4⟩ := five hcell (Below.refl _ _) hbl hpos
    have hy : By w3 b (off + pos * 5) m[pos] := ⟨hbl, u0, u1, u2, u3, u4⟩
    rw [HAT.out] at hy
    have HY3 := hide hy
    have hp0 : ¬ (pos : Int) < 0 := by omega
    clear hy u0 u1 u2 u3 u4 hcell hbl
    have hzz : ∀ w, (binOp .eql 32 (.agg #[.string ⟨#[]⟩, .int .i64 0, .int .i64 0, .string ⟨#[]⟩, .int .i64 0]) (.agg #[.string ⟨#[]⟩, .int .i64 0, .int .i64 0, .string ⟨#[]⟩, .int .i64 0])).run Tryd.prog w = .ok (.bool true) w := fun w => by have := run_eq_item w [] 0 0 [] 0 [] 0 0 [] 0; simpa using this
    have hzn : ∀ w, (binOp .neq 32 (.agg #[.string ⟨#[]⟩, .int .i64 0, .int .i64 0, .string ⟨#[]⟩, .int .i64 0]) (.agg #[.string ⟨#[]⟩, .int .i64 0, .int .i64 0, .string ⟨#[]⟩, .int .i64 0])).run Tryd.prog w = .ok (.bool false) w := fun w => by have := run_neq_item w [] 0 0 [] 0 [] 0 0 [] 0; simpa using this
    have hhh : ∀ w, (binOp .neq 32 (.agg #[.string ⟨hk.toArray⟩, .int .i64 hd, .int .i64 hi, .string ⟨hs.toArray⟩, .int .i64 hv]) (.agg #[.string ⟨hk.toArray⟩, .int .i64 hd, .int .i64 hi, .string ⟨hs.toArray⟩, .int .i64 hv])).run Tryd.prog w = .ok (.bool false) w := fun w => by rw [run_neq_item]; simp
    have h64 := H64.out
    go_wp2_with (first
    | (go_at_call 22; refine (HRAT.out (some ⟨b, off, none⟩) c1 _ HF10.out).mono ?_; rintro e w11 ⟨rfl, hb11⟩; have hbb11 := hb11; have HX11 := hide (HX10.out.below hbb11); have HD11 := hide (HD10.out.below hbb11); have HF11 := hide (HF10.out.below hbb11); have HY11 := hide (HY10.out.below hbb11); have HV11 := hide (HV10.out.below hbb11); have HB11 := hide (below_trans HB10.out hbb11); obtain ⟨qD11, pD11_0, pD11_1, pD11_2, pD11_3, pD11_4⟩ := HD11.out; have eD11 := Nat.ne_of_lt qD11; have gD11 := Nat.ne_of_gt qD11; obtain ⟨qY11, y0, y1, y2, y3, y4⟩ := HY11.out; clear hb11 hbb11 eD10 gD10 pD10_0 pD10_1 pD10_2 pD10_3 pD10_4)
    | (go_at_call 21; refine (HIS.out (some ⟨b, off, none⟩) c1 _ HF9.out).mono ?_; rintro e w10 ⟨rfl, hb10⟩; have hbb10 := hb10; have HX10 := hide (HX9.out.below hbb10); have HD10 := hide (HD9.out.below hbb10); have HF10 := hide (HF9.out.below hbb10); have HY10 := hide (HY9.out.below hbb10); have HV10 := hide (HV9.out.below hbb10); have HB10 := hide (below_trans HB9.out hbb10); obtain ⟨qD10, pD10_0, pD10_1, pD10_2, pD10_3, pD10_4⟩ := HD10.out; have eD10 := Nat.ne_of_lt qD10; have gD10 := Nat.ne_of_gt qD10; clear hidx hroom; clear hb10 hbb10)
    | (go_at_call 20; refine (HSM.out (some ⟨g5, 0, none⟩) (some ⟨b, off, none⟩) c5 c1 m _ (room_take HP8.out) HF8.out (by omega)).mono ?_; rintro e w9 ⟨rfl, hb9⟩; have hbb9 := hb9; have HX9 := hide (HX8.out.below hbb9); have HD9 := hide (HD8.out.below hbb9); have HF9 := hide (HF8.out.below hbb9); have HP9 := hide (HP8.out.below hbb9); have HY9 := hide (HY8.out.below hbb9); have HV9 := hide (HV8.out.below hbb9); have HB9 := hide (below_trans HB8.out hbb9); have hidx := fun w => run_elemAddr Tryd.underlying22 size_item g5 0 (m.length + 1) c5 m.length (by omega) (m.length : Int) rfl w; simp only [Nat.zero_add] at hidx; have hroom := room_cell HP9.out; clear hb9 hbb9)
    | (go_at_call 19; refine (HDEL.out (some ⟨g5, 0, none⟩) c5 _ (HS.out.below HB7.out) (room_take HP7.out) (by omega)).mono ?_; rintro e w8 ⟨A8, c8, rfl, hV8, hb8⟩; have hbb8 := hb8; have HX8 := hide (HX7.out.below hbb8); have HD8 := hide (HD7.out.below hbb8); have HF8 := hide (HF7.out.below hbb8); have HP8 := hide (HP7.out.below hbb8); have HY8 := hide (HY7.out.below hbb8); have HV8 := hide hV8; have HB8 := hide (below_trans HB7.out hbb8); clear hb8 hbb8 hV8)
    | (go_at_call 18; refine (HPUT.out (some ⟨g5, 0, none⟩) c5 _ (HS.out.below (below_trans HB6.out (gr1 _ _))) (room_take (HP6.out.below (gr1 _ _))) (by omega)).mono ?_; rintro e w7 ⟨A7, c7, rfl, hb7⟩; have hbb7 := below_trans (gr1 _ _) hb7; have HX7 := hide (HX6.out.below hbb7); have HF7 := hide (HF6.out.below hbb7); have HP7 := hide (HP6.out.below hbb7); have HY7 := hide (HY6.out.below hbb7); have HD7 := hide ((box_bx w6 _ hk hd hi hs hv).below hb7); have HB7 := hide (below_trans HB6.out hbb7); clear hb7 hbb7 eX6 gX6 pX6_0 pX6_1 pX6_2 pX6_3 pX6_4)
    | (go_at_call 17; refine (HGET.out (some ⟨g5, 0, none⟩) c5 _ (HS.out.below HB5.out) (room_take HP5.out)).mono ?_; rintro e w6 ⟨rfl, hb6⟩; have hbb6 := hb6; have HX6 := hide (HX5.out.below hbb6); have HF6 := hide (HF5.out.below hbb6); have HP6 := hide (HP5.out.below hbb6); have HY6 := hide (HY5.out.below hbb6); have HB6 := hide (below_trans HB5.out hbb6); obtain ⟨qX6, pX6_0, pX6_1, pX6_2, pX6_3, pX6_4⟩ := HX6.out; have eX6 := Nat.ne_of_lt qX6; have gX6 := Nat.ne_of_gt qX6; clear hb6 hbb6)
    | (at_builtin; refine wpList_appE w4 rfl (.tmp 24) (.tmp 26) _ rfl w3 w3.heap.size 32 32 _ 5 56 Tryd.underlying22 info_item rfl (by omega) (by omega) _ m.length _ #[.string ⟨#[]⟩, .int .i64 0, .int .i64 0, .string ⟨#[]⟩, .int .i64 77] (by rfl) w4.heap.size rfl (by rfl) rfl (item_one [] 0 0 [] 77) hown4 hb4 hb4.size (by omega) ?_; intro g5 c5 w5 hown5 hb5; have HP5 := hide (Fs.of_own (f := Item.cells) (l := m ++ [⟨[], 0, 0, [], 77⟩]) (n := m.length + 1) (by simp) (by rw [cells_snoc]; exact hown5)); have HX5 := hide (HX3.out.below hb5); have HY5 := hide (HY3.out.below hb5); have HF5 := hide (HF3.out.below hb5); have HB5 := hide (below_trans HB3.out hb5); have hcap := own_cap hown5; have hcut := fun w => run_cutH Tryd.underlying22 size_item (some ⟨g5, 0, none⟩) (m.length + 1) c5 m.length (by omega) (m.length : Int) rfl w; clear hown4 hown5 hb4 hb5)
    | (at_builtin; refine wpList_appAny _ rfl (.tmp 22) (.tmp 23) _ rfl w3 w3.heap.size 32 _ 5 56 Tryd.underlying22 info_item rfl (by omega) (by omega) _ 0 _ (by rfl) (show (w3.alloc (.cells #[] 32)).ownsRow w3.heap.size 32 5 (.slice (some ⟨w3.heap.size, 0, none⟩) 0 0) 0 [] from own_new w3 w3.heap.size _ 5 0 #[] (Nat.le_refl _) rfl (by simp [maxLen])) (gr1 w3 _) _ _ _ _ (by rfl) (HF3.out.alloc _) (cells_one _) (by omega) (by simp) ?_; intro A4 c4 w4 hown4 hb4; simp only [Nat.zero_add, List.nil_append] at hown4))
    have hidx := fun w => run_elemAddr Tryd.underlying22 size_item b off m.length c1 pos hpos (pos : Int) rfl w
    go_region_held3 (fun w' => w'.cell? ⟨w6.heap.size, 0, none⟩ = some (.string ⟨hk.toArray⟩) ∧ w'.cell? ⟨w6.heap.size, 1, none⟩ = some (.int .i64 hd) ∧ w'.cell? ⟨w6.heap.size, 2, none⟩ = some (.int .i64 hi) ∧ w'.cell? ⟨w6.heap.size, 3, none⟩ = some (.string ⟨hs.toArray⟩) ∧ w'.cell? ⟨w6.heap.size, 4, none⟩ = some (.int .i64 hv) ∧ w'.cell? ⟨b, off + pos * 5, none⟩ = some (.string ⟨hk.toArray⟩) ∧ w'.cell? ⟨b, off + pos * 5 + 1, none⟩ = some (.int .i64 hd) ∧ w'.cell? ⟨b, off + pos * 5 + 2, none⟩ = some (.int .i64 hi) ∧ w'.cell? ⟨b, off + pos * 5 + 3, none⟩ = some (.string ⟨hs.toArray⟩) ∧ w'.cell? ⟨b, off + pos * 5 + 4, none⟩ = some (.int .i64 hv)) (go_keep)
      (first
        | (go_at_call 20; refine (HSM.out A8 A12 c8 c12 r2 _ (HV11.out.below (below_of_drew hb12)) hV12 (by omega)).mono ?_; rintro e w13 ⟨rfl, hb13⟩; obtain ⟨hc13, hf13⟩ := bcell hb13)
        | (go_at_call 23; refine (HWO.out (some ⟨b, off, none⟩) c1 _ (Fs.drewN HF11.out 1)).mono ?_; rintro e w12 ⟨A12, c12, rfl, hV12, hb12⟩; obtain ⟨hc12, hf12⟩ := bcell (below_of_drew hb12); have z1 : w6.heap.size < w12.heap.size := Nat.lt_of_lt_of_le qD11 hb12.size; have z2 : b < w12.heap.size := Nat.lt_of_lt_of_le qY11 hb12.size))
    all_goals
      have hbb := below_trans (below_of_drew hb12) hb13
      have HX13 := hide (HX11.out.below hbb); have HF13 := hide (HF11.out.below hbb); have HB13 := hide (below_trans HB11.out hbb)
      obtain ⟨qX13, pX13_0, pX13_1, pX13_2, pX13_3, pX13_4⟩ := HX13.out
      clear hbb hc13 hf13 hc12 hf12 z1 z2 hV12 hb12 hb13 hidx y0 y1 y2 y3 y4 qY11 pD11_0 pD11_1 pD11_2 pD11_3 pD11_4
      go_wp2_with (first
    | (go_at_call 14; refine (awake_any _ (HS.out.below HB15.out)).mono ?_; rintro e w16 ⟨rfl, hb16⟩)
    | (go_at_call 22; refine (HRAT2.out (some ⟨b, off, none⟩) c1 _ HF14.out).mono ?_; rintro e w15 ⟨rfl, hb15⟩; have hbb15 := hb15; have HX15 := hide (HX14.out.below hbb15); have HF15 := hide (HF14.out.below hbb15); have HB15 := hide (below_trans HB14.out hbb15); obtain ⟨qX15, pX15_0, pX15_1, pX15_2, pX15_3, pX15_4⟩ := HX15.out; have eX15 := Nat.ne_of_lt qX15; have gX15 := Nat.ne_of_gt qX15; clear hb15 hbb15 eX14 gX14 pX14_0 pX14_1 pX14_2 pX14_3 pX14_4)
    | (go_at_call 24; refine (HMAY.out _).mono ?_; rintro e w14 ⟨rfl, hb14⟩; have hbb14 := hb14; have HX14 := hide (HX13.out.below hbb14); have HF14 := hide (HF13.out.below hbb14); have HB14 := hide (below_trans HB13.out hbb14); obtain ⟨qX14, pX14_0, pX14_1, pX14_2, pX14_3, pX14_4⟩ := HX14.out; have eX14 := Nat.ne_of_lt qX14; have gX14 := Nat.ne_of_gt qX14; clear hb14 hbb14))
      go_ret
      exact ⟨rfl, below_trans HB15.out hb16⟩

end Go.Proofs.YtagdjoabpkmomaaDoor
