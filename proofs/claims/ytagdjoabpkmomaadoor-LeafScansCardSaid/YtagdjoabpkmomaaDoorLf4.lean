/-
  The reference's Scan; the walk of the law LeafScans.
-/
import Derived.Test.YtagdjoabpkmomaaDoorScan
namespace Go.Proofs.YtagdjoabpkmomaaDoor
open Go.RowKit
set_option maxRecDepth 100000
set_option linter.unusedSimpArgs false
set_option linter.unusedVariables false
attribute [local go_sem ↓] Go.wp_at_zero Go.wp_at_succ

def scanT (l : List Item) (lo hi : Bytes) (m k : Nat) : List Item := ((l.take k).filter fun x => inK x.key lo hi).take m
theorem scanT_no {l : List Item} {lo hi : Bytes} {m k : Nat} (hk : k < l.length) (h : inK l[k].key lo hi = false) : scanT l lo hi m (k + 1) = scanT l lo hi m k := by
  unfold scanT; rw [filter_snoc hk]; simp [h]
theorem scanT_yes {l : List Item} {lo hi : Bytes} {m k : Nat} (hk : k < l.length) (h : inK l[k].key lo hi = true) (hm : (scanT l lo hi m k).length < m) : scanT l lo hi m (k + 1) = scanT l lo hi m k ++ [l[k]] := by
  unfold scanT at *
  rw [filter_snoc hk, if_pos h]
  generalize (l.take k).filter (fun x => inK x.key lo hi) = F at *
  rw [List.length_take] at hm
  rw [List.take_of_length_le (l := F) (by omega), List.take_of_length_le (by simp; omega)]
theorem scanT_full {l : List Item} {lo hi : Bytes} {m k : Nat} (hk : k < l.length) (hm : ¬ (scanT l lo hi m k).length < m) : scanT l lo hi m (k + 1) = scanT l lo hi m k := by
  unfold scanT at *
  rw [filter_snoc hk]
  generalize (l.take k).filter (fun x => inK x.key lo hi) = F at *
  rw [List.length_take] at hm
  rw [List.take_append_of_le_length (by omega)]

set_option maxHeartbeats 8000000 in
theorem rscan_any (A : Option Addr) (l : List Item) (c : Nat) (lo hi : Bytes) (most : Int) (w : World) (hF : Fs Item.cells 5 w A l) (hl : l.length ≤ 1000000) (hkeys : ∀ x ∈ l, x.key.length ≤ maxLen) (h1 : lo.length ≤ maxLen) (h2 : hi.length ≤ maxLen) :
    Calls Tryd.prog 28 #[.slice A l.length c, .string ⟨lo.toArray⟩, .string ⟨hi.toArray⟩, .int .i64 most] w (FsOut Item.cells 5 32 w (scanK l lo hi most)) := by
  have HKs := hide hkeys; have H1 := hide h1; have H2 := hide h2
  clear hkeys h1 h2
  have HR := hide (show scanK l lo hi most = scanT l lo hi most.toNat l.length from by unfold scanT; rw [List.take_length]; rfl)
  go_enter Tryd.func28, Tryd.ntmps28
  go_wp2_with fail
  go_loopw [9, 10] (fun o i wr => ∃ (k n : Nat) (Ao : Option Addr) (co : Nat), k ≤ l.length ∧ n ≤ k ∧ i = .int .i64 k ∧ o = .slice Ao n co ∧ n = (scanT l lo hi most.toNat k).length ∧ wr.ownsRow w.heap.size 32 5 (.slice Ao n co) n ((scanT l lo hi most.toNat k).flatMap Item.cells) ∧ Below w.heap.size w wr) (fun _ i _ => l.length - (intOf i).toNat)
  case atStart => exact ⟨0, 0, none, 0, Nat.zero_le _, Nat.le_refl _, rfl, rfl, by simp [scanT], by simpa [scanT] using World.ownsRow_nil _ _ _ _, Below.refl _ _⟩
  case round =>
    obtain ⟨k, n, Ao, co, hk, hnk, rfl, rfl, hn, hown, hbel⟩ := hrel
    have HN := hide hn; have HO := hide hown
    clear hn hown
    by_cases hlt : k < l.length
    · have hlt' : (k : Int) < l.length := by omega
      obtain ⟨b, off, rfl, hbl, hcell⟩ := hF.cell (fun _ => rfl) (by omega)
      obtain ⟨c0, c1, c2, c3, c4⟩ := five hcell hbel hbl hlt
      have hkl := HKs.out l[k] (List.getElem_mem hlt)
      have hbr : b < wr.heap.size := Nat.lt_of_lt_of_le hbl hbel.size
      by_cases hm : (n : Int) < most
      · have hm2 : (scanT l lo hi most.toNat k).length < most.toNat := by rw [← HN.out]; omega
        cases hin : inK l[k].key lo hi with
        | false =>
          have HS := hide (scanT_no (m := most.toNat) hlt hin)
          generalize l[k] = x at c0 c1 c2 c3 c4 hin hkl
          obtain ⟨key, kind, i, s, ver⟩ := x
          have HL := hide hkl
          clear hcell hm2 hkl
          go_wp2_with (go_at_call 48; refine (rin_any key lo hi _ HL.out H1.out H2.out).mono ?_; rintro e w' ⟨rfl, nd, rfl⟩)
          refine ⟨⟨k + 1, n, Ao, co, by omega, by omega, by go_num, rfl, ?_, ?_, below_drewN hbel _⟩, by simp [intOf]; omega⟩
          · rw [HS.out]; exact HN.out
          · rw [HS.out]; exact HO.out
        | true =>
          have HS := hide (scanT_yes hlt hin hm2)
          generalize l[k] = x at c0 c1 c2 c3 c4 hin hkl HS
          obtain ⟨key, kind, i, s, ver⟩ := x
          have HL := hide hkl
          clear hcell hm2 hkl
          go_wp2_with (first
            | (go_at_call 48; refine (rin_any key lo hi _ HL.out H1.out H2.out).mono ?_; rintro e w' ⟨rfl, nd, rfl⟩)
            | (at_builtin; refine wpList_appE (wr.drewN nd) rfl (.tmp 31) (.tmp 36) _ rfl w w.heap.size 32 32 _ 5 56 Tryd.underlying22 info_item rfl (by omega) (by omega) _ n _ #[.string ⟨key.toArray⟩, .int .i64 kind, .int .i64 i, .string ⟨s.toArray⟩, .int .i64 ver] (by rfl) wr.heap.size rfl (by rfl) rfl (item_one _ _ _ _ _) HO.out (below_drewN hbel nd) hbel.size (by omega) ?_; intro g cap w4 hown4 hb4))
          refine ⟨⟨k + 1, n + 1, _, cap, by omega, by omega, by go_num, rfl, ?_, ?_, hb4⟩, by simp [intOf]; omega⟩
          · rw [HS.out, List.length_append, ← HN.out]; rfl
          · rw [HS.out, cells_snoc]; exact hown4
      · have hm' : ¬ (n : Int) < most := hm
        have HS := hide (scanT_full hlt (by rw [← HN.out]; omega : ¬ (scanT l lo hi most.toNat k).length < most.toNat))
        generalize l[k] = x at c0 c1 c2 c3 c4 hkl
        obtain ⟨key, kind, i, s, ver⟩ := x
        have HL := hide hkl
        clear hcell hkl
        go_wp2_with (go_at_call 48; refine (rin_any key lo hi _ HL.out H1.out H2.out).mono ?_; rintro e w' ⟨rfl, nd, rfl⟩)
        all_goals
          refine ⟨⟨k + 1, n, Ao, co, by omega, by omega, by go_num, rfl, ?_, ?_, below_drewN hbel _⟩, by simp [intOf]; omega⟩
          · rw [HS.out]; exact HN.out
          · rw [HS.out]; exact HO.out
    · have hk' : k = l.length := by omega
      have HF := hide (show scanT l lo hi most.toNat k = scanK l lo hi most from by rw [HR.out, hk'])
      have HN2 := hide (show n = (scanK l lo hi most).length from by rw [← HF.out]; exact HN.out)
      have HO2 := hide (show wr.ownsRow w.heap.size 32 5 (.slice Ao n co) n ((scanK l lo hi most).flatMap Item.cells) from by rw [← HF.out]; exact HO.out)
      clear hk'
      go_wp2_with fail
      go_ret
      refine ⟨Ao, co, by rw [← HN2.out]; rfl, ?_, hbel⟩
      rw [← HN2.out]; exact HO2.out

set_option maxHeartbeats 8000000 in
theorem walk_LeafScans (w : World) (hS : Sig w) (A : Option Addr) (l : List Item) (c : Nat) (lo hi : Bytes) (most : Int) (hF : Fs Item.cells 5 w A l) (hlc : l.length ≤ c) (hcm : c ≤ maxLen) (hin : ∀ x ∈ l, ItemIn x) (hlo : lo.length ≤ maxLen) (hhi : hi.length ≤ maxLen) :
    Calls Tryd.prog 6 #[.agg #[.slice A l.length c, .string ⟨lo.toArray⟩, .string ⟨hi.toArray⟩, .int .i64 most]] w fun e w' => e = .returned (.bool true) ∧ Below w.heap.size w w' := by
  have hfew := few_any A l c (w.alloc (.cells #[.slice A l.length c, .string ⟨lo.toArray⟩, .string ⟨hi.toArray⟩, .int .i64 most] 51)).drew (Fs.drewN (hF.alloc _) 1) hlc hcm (fun x hx => ⟨(hin x hx).1, (hin x hx).2.1⟩)
  have hml := fewL_len l
  have hmn := fewL_num hin
  have hmk := fewL_key (l := l)
  have hs1 := fun w => short_any lo w hlo
  have hs2 := fun w => short_any hi w hhi
  have hl1 : (lo.take 60).length ≤ maxLen := by simp [maxLen]; omega
  have hl2 : (hi.take 60).length ≤ maxLen := by simp [maxLen]; omega
  generalize lo.take 60 = lo' at hs1 hl1
  generalize hi.take 60 = hi' at hs2 hl2
  generalize fewL l = m at hfew hml hmn hmk
  have HFEW := hide hfew; have HMN := hide hmn; have HMK := hide hmk; have HSg := hide hS; have HS1 := hide hs1; have HS2 := hide hs2; have HL1 := hide hl1; have HL2 := hide hl2
  clear hfew hmn hmk hS hF hin hs1 hs2 hl1 hl2
  go_enter Tryd.func6, Tryd.ntmps6
  go_wp2_with fail
  go_region_held3 (fun w' => w'.cell? ⟨w.heap.size, 0, none⟩ = some (.slice A l.length c) ∧ w'.cell? ⟨w.heap.size, 1, none⟩ = some (.string ⟨lo.toArray⟩) ∧ w'.cell? ⟨w.heap.size, 2, none⟩ = some (.string ⟨hi.toArray⟩) ∧ w'.cell? ⟨w.heap.size, 3, none⟩ = some (.int .i64 most)) (go_keep)
    (first
      | (go_at_call 9; refine HFEW.out.mono ?_; rintro e w1 ⟨A1, c1, rfl, hown1, hb1⟩; obtain ⟨hc1, hf1⟩ := bcell hb1)
      | (go_at_call 16; refine (HS1.out _).mono ?_; rintro e w' ⟨rfl, rfl⟩)
      | (go_at_call 16; refine (HS2.out _).mono ?_; rintro e w' ⟨rfl, rfl⟩))
  all_goals
    have HF1 := hide (Fs.of_own rfl hown1)
    have HB1 := hide (below_trans (gr1d _ _) hb1)
    have hcc := own_cap hown1
    clear hown1 hb1 hc1 hf1 HFEW HS1 HS2
    cases hlf : leafB m with
    | false =>
      have HSC := hide (show ∀ w, Sig w → Fs Item.cells 5 w A1 m → Calls Tryd.prog 27 #[.slice A1 m.length c1, .string ⟨lo'.toArray⟩, .string ⟨hi'.toArray⟩, .int .i64 most] w (fun e w' => ∃ A2 c2, e = .returned (.slice A2 0 c2) ∧ Below w.heap.size w w') from fun w hS hF =>
        (scan_any A1 m c1 lo' hi' most w hS hF (by omega) (by omega)).mono fun e w' ⟨A2, c2, he, _, hb⟩ => by rw [show scanP m lo' hi' most = [] from by unfold scanP; rw [hlf]; rfl] at he; exact ⟨A2, c2, he, hb⟩)
      have HIS := hide (show ∀ w, Fs Item.cells 5 w A1 m → Calls Tryd.prog 21 #[.slice A1 m.length c1] w (fun e w' => e = .returned (.bool false) ∧ Below w.heap.size w w') from fun w hF => by rw [← hlf]; exact ris_any A1 m c1 w hF (by omega) HMK.out)
      clear hlf
      go_wp2_with (first
        | (go_at_call 27; refine (HSC.out _ (HSg.out.below HB1.out) HF1.out).mono ?_; rintro e w2 ⟨A2, c2, rfl, hb2⟩; have HB2 := hide (below_trans HB1.out hb2); have HF2 := hide (HF1.out.below hb2))
        | (go_at_call 21; refine (HIS.out _ HF2.out).mono ?_; rintro e w3 ⟨rfl, hb3⟩; have HB3 := hide (below_trans HB2.out hb3))
        | (go_at_call 14; refine (awake_any _ (HSg.out.below HB3.out)).mono ?_; rintro e w4 ⟨rfl, hb4⟩))
      go_ret
      exact ⟨rfl, below_trans HB3.out hb4⟩
    | true =>
      have hsl : (scanK m lo' hi' most).length ≤ 66 := by
        unfold scanK
        rw [List.length_take]
        have := List.length_filter_le (fun x => inK x.key lo' hi') m
        omega
      have HSC := hide (show ∀ w, Sig w → Fs Item.cells 5 w A1 m → Calls Tryd.prog 27 #[.slice A1 m.length c1, .string ⟨lo'.toArray⟩, .string ⟨hi'.toArray⟩, .int .i64 most] w (fun e w' => ∃ A2 c2, e = .returned (.slice A2 (scanK m lo' hi' most).length c2) ∧ Fs Item.cells 5 w' A2 (scanK m lo' hi' most) ∧ Below w.heap.size w w') from fun w hS hF =>
        (scan_any A1 m c1 lo' hi' most w hS hF (by omega) (by omega)).mono fun e w' h => by
          rw [show scanP m lo' hi' most = scanK m lo' hi' most from by unfold scanP; rw [hlf]; rfl] at h
          obtain ⟨A2, c2, he, hown, hb⟩ := h
          exact ⟨A2, c2, he, Fs.of_own rfl hown, hb⟩)
      have HIS := hide (show ∀ w, Fs Item.cells 5 w A1 m → Calls Tryd.prog 21 #[.slice A1 m.length c1] w (fun e w' => e = .returned (.bool true) ∧ Below w.heap.size w w') from fun w hF => by rw [← hlf]; exact ris_any A1 m c1 w hF (by omega) HMK.out)
      have HRS := hide (show ∀ w, Fs Item.cells 5 w A1 m → Calls Tryd.prog 28 #[.slice A1 m.length c1, .string ⟨lo'.toArray⟩, .string ⟨hi'.toArray⟩, .int .i64 most] w (fun e w' => ∃ A2 c2, e = .returned (.slice A2 (scanK m lo' hi' most).length c2) ∧ Fs Item.cells 5 w' A2 (scanK m lo' hi' most) ∧ Below w.heap.size w w') from fun w hF =>
        (rscan_any A1 m c1 lo' hi' most w hF (by omega) HMK.out HL1.out HL2.out).mono fun e w' h => by
          obtain ⟨A2, c2, he, hown, hb⟩ := h
          exact ⟨A2, c2, he, Fs.of_own rfl hown, hb⟩)
      generalize scanK m lo' hi' most = r at HSC HRS hsl
      have HSM := hide (show ∀ (A2 : Option Addr) (c2 : Nat) (A3 : Option Addr) (c3 : Nat) w, Fs Item.cells 5 w A2 r → Fs Item.cells 5 w A3 r → Calls Tryd.prog 20 #[.slice A2 r.length c2, .slice A3 r.length c3] w (fun e w' => e = .returned (.bool true) ∧ Drew w w') from fun A2 c2 A3 c3 w h2 h3 => by
        have := rsame_any A2 r c2 A3 r c3 w h2 h3 (by omega) (by omega)
        simpa using this)
      clear hlf
      go_wp2_with (first
        | (go_at_call 27; refine (HSC.out _ (HSg.out.below HB1.out) HF1.out).mono ?_; rintro e w2 ⟨A2, c2, rfl, hF2, hb2⟩; have HB2 := hide (below_trans HB1.out hb2); have HF2 := hide (HF1.out.below hb2); have HR2 := hide hF2; clear hF2)
        | (go_at_call 21; refine (HIS.out _ HF2.out).mono ?_; rintro e w3 ⟨rfl, hb3⟩; have HB3 := hide (below_trans HB2.out hb3); have HF3 := hide (HF2.out.below hb3); have HR3 := hide (HR2.out.below hb3))
        | (go_at_call 28; refine (HRS.out _ HF3.out).mono ?_; rintro e w4 ⟨A4, c4, rfl, hF4, hb4⟩; have HB4 := hide (below_trans HB3.out hb4); have HR4 := hide (HR3.out.below hb4); have HQ4 := hide hF4; clear hF4)
        | (go_at_call 20; refine (HSM.out A2 c2 A4 c4 _ HR4.out HQ4.out).mono ?_; rintro e w5 ⟨rfl, nd, rfl⟩; have HB5 := hide (below_drewN HB4.out nd))
        | (go_at_call 14; refine (awake_any _ (HSg.out.below HB5.out)).mono ?_; rintro e w6 ⟨rfl, hb6⟩))
      go_ret
      exact ⟨rfl, below_trans HB5.out hb6⟩
end Go.Proofs.YtagdjoabpkmomaaDoor
