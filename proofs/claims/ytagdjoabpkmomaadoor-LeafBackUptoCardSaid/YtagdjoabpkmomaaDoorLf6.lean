/-
  The walk of the law LeafBack.
-/
import Derived.Test.YtagdjoabpkmomaaDoorBack
import Derived.Test.YtagdjoabpkmomaaDoorLf5
namespace Go.Proofs.YtagdjoabpkmomaaDoor
open Go.RowKit
set_option maxRecDepth 100000
set_option linter.unusedSimpArgs false
set_option linter.unusedVariables false
attribute [local go_sem ↓] Go.wp_at_zero Go.wp_at_succ

theorem zag_in (u : Nat) (h : u < 18446744073709551616) : -9223372036854775808 ≤ zag u ∧ zag u < 9223372036854775808 := by unfold zag; split <;> omega
theorem cutV_in (l : Bytes) : -9223372036854775808 ≤ (cutV l).i ∧ (cutV l).i < 9223372036854775808 := by
  cases l with
  | nil => simp [cutV]
  | cons t r =>
    have hz := zag_in _ (cut_lt r)
    cases r with
    | nil =>
      simp only [cutV]
      repeat' split
      all_goals first | exact hz | simp
    | cons b r =>
      have hb : b.toNat < 256 := b.toNat_lt
      simp only [cutV]
      repeat' split
      all_goals first | exact hz | (simp; done) | (simp only; omega)
theorem cutI_in (l : Bytes) : NumOk (cutI l).x := by
  have := cutV_in (l.drop (CutText l).2.1)
  simp only [cutI]
  repeat' split
  all_goals first | exact this | simp [NumOk, Item.zero]
theorem stC_in (l : Bytes) : ∀ k, ∀ x ∈ (stC id l k).1, NumOk x
  | 0, x, hx => by simp [stC] at hx
  | k + 1, x, hx => by
    have ih := stC_in l k
    unfold stC at hx
    split at hx
    · exact ih x hx
    · split at hx
      · exact ih x hx
      · simp only [List.mem_append, List.mem_singleton, id] at hx
        rcases hx with hx | rfl
        · exact ih x hx
        · exact cutI_in _
theorem cutL_in (l : Bytes) : ∀ x ∈ (cutL l).1, NumOk x := by
  cases l with
  | nil => simp [cutL]
  | cons t r =>
    intro x hx
    have hx' : x ∈ (finL (t :: r) (stC id (t :: r) t.toNat)).1 := hx
    rcases finL_sub (l := t :: r) (s := stC id (t :: r) t.toNat) with h | h
    · rw [h] at hx'; simp at hx'
    · rw [h] at hx'; exact stC_in _ _ x hx'
theorem ofGo_in (n : Nat) : ∀ (cs : List Bytes) (k : Nat) (out : List Item) (short : Int), (∀ x ∈ out, NumOk x) → ∀ x ∈ (ofGo cutL n k cs out short).1, NumOk x
  | [], k, out, short, h, x, hx => by
    unfold ofGo at hx
    split at hx
    · simp at hx
    · split at hx
      · simp at hx
      · exact h x hx
  | c :: cs, k, out, short, h, x, hx => by
    unfold ofGo at hx
    split at hx
    · simp at hx
    · exact ofGo_in n cs _ _ _ (fun y hy => (List.mem_append.1 hy).elim (h y) (cutL_in c y)) x hx
theorem chunksF_small : ∀ (n : Nat) (l : List Item), (∀ x ∈ l, itemB x = true ∧ NumOk x) → ∀ c ∈ chunksF n l, c.length ≤ 1201
  | 0, _, _, c, hc => by simp [chunksF] at hc
  | n + 1, l, h, c, hc => by
    unfold chunksF at hc
    split at hc
    · simp at hc
    · rcases List.mem_cons.1 hc with rfl | hc
      · have hg : ∀ x ∈ l.take 8, itemB x = true ∧ NumOk x := fun x hx => h x (List.mem_of_mem_take hx)
        have := grpK_len (l.take 8).length (l.take 8) hg (l.take 8).length (Nat.le_refl _)
        rw [grpK_all] at this
        have h8 : (l.take 8).length ≤ 8 := by rw [List.length_take]; omega
        omega
      · exact chunksF_small n (l.drop 8) (fun x hx => h x (List.mem_of_mem_drop hx)) c hc

set_option maxHeartbeats 16000000 in
theorem walk_LeafBack (w : World) (hS : Sig w) (A : Option Addr) (l : List Item) (c : Nat) (hF : Fs Item.cells 5 w A l) (hlc : l.length ≤ c) (hcm : c ≤ maxLen) (hin : ∀ x ∈ l, ItemIn x) (B : Option Addr) (cs : List Bytes) (d : Nat) (hB : Bss w B cs) (hbd : cs.length ≤ d) (hdm : d ≤ maxLen)
    (hn : cs.length ≤ 4294967295) (hcl : ∀ x ∈ cs, x.length ≤ 34359738368) :
    Calls Tryd.prog 8 #[.slice A l.length c, .slice B cs.length d] w fun e w' => e = .returned (.bool true) ∧ Below w.heap.size w w' := by
  have hfew := few_any A l c w hF hlc hcm (fun x hx => ⟨(hin x hx).1, (hin x hx).2.1⟩)
  have hml := fewL_len l
  have hmn := fewL_num hin
  generalize fewL l = m at hfew hml hmn
  have HFEW := hide hfew; have HMN := hide hmn; have HSg := hide hS; have HB0 := hide hB
  clear hfew hmn hS hF hin hB hcm
  have HLO2 := hide (show ∀ w', Sig w' → Bss w' B cs → Calls Tryd.prog 33 #[.slice B cs.length d] w' (FsErr2 w' (ofP cutL cs)) from fun w' hS hB => lof_any B cs d w' hS hB hn hcl)
  have hol : (ofP cutL cs).1.length ≤ 64 := ofGo_len _ _ _ _ _ _
  have HNUM := hide (show ∀ x ∈ (ofP cutL cs).1, NumOk x from ofGo_in _ _ _ _ _ (by simp))
  have HOK := hide (chunks_of (cs := cs))
  have HNO := hide (show (ofP cutL cs).2.1 ≠ 0 → (ofP cutL cs).1 = [] from ofGo_nil _ _ _ _ _ _)
  obtain ⟨y, hy⟩ : ∃ y, y = (ofP cutL cs).1 := ⟨_, rfl⟩
  obtain ⟨en, hen⟩ : ∃ en, en = (ofP cutL cs).2.1 := ⟨_, rfl⟩
  obtain ⟨pl, hpl⟩ : ∃ pl, pl = (ofP cutL cs).2.2 := ⟨_, rfl⟩
  have hLe : ofP cutL cs = (y, en, pl) := by rw [hy, hen, hpl]
  rw [hLe] at HLO2 hol HNUM HOK HNO
  clear hy hen hpl hLe
  simp only at hol HNUM HOK HNO
  go_enter Tryd.func8, Tryd.ntmps8
  go_upto_if 16 with (first
    | (go_at_call 26; refine (leafIs_any A1 m c1 _ (HSg.out.below hb1) HFm.out (by omega)).mono ?_; rintro e w2 ⟨rfl, hb2⟩; have HB2 := hide (below_trans hb1 hb2); have HF2 := hide (HFm.out.below hb2))
    | (go_at_call 9; refine HFEW.out.mono ?_; rintro e w1 ⟨A1, c1, rfl, hown1, hb1⟩; have HFm := hide (Fs.of_own rfl hown1); have hcc := own_cap hown1; clear hown1))
  go_cut [5] (fun s5 wx => Below w2.heap.size w2 wx)
  case first =>
    cases hlf : leafB m with
    | false =>
      go_wp2_with fail
      go_meet
      exact Below.refl _ _
    | true =>
      obtain ⟨_, hall, _⟩ := (leafB_iff m).1 hlf
      have HIM := hide (show ∀ x ∈ m, itemB x = true ∧ NumOk x from fun x hx => ⟨hall x hx, HMN.out x hx⟩)
      have hpm : chunksP m = chunksL m := by unfold chunksP; rw [if_pos hlf]
      have hsm : ∀ x ∈ chunksP m, x.length ≤ 34359738368 := fun x hx => by
        rw [hpm] at hx
        have := chunksF_small m.length m HIM.out x hx
        omega
      have hGl := chunksP_len m
      have HCH := hide (show ∀ w', Sig w' → Fs Item.cells 5 w' A1 m → Calls Tryd.prog 29 #[.slice A1 m.length c1] w' (BssOut w' (chunksP m)) from fun w' hS hF => chunks_any A1 m c1 w' hS hF HMN.out hcc.1 hcc.2 (by omega))
      have HOF := hide (show ∀ A3 c3 w', Sig w' → Bss w' A3 (chunksP m) → Calls Tryd.prog 33 #[.slice A3 (chunksP m).length c3] w' (FsErr2 w' (m, 0, 0)) from fun A3 c3 w' hS hB => by
        have := lof_any A3 (chunksP m) c3 w' hS hB (by omega) hsm
        rwa [hpm, of_chunks hlf HMN.out, ← hpm] at this)
      generalize chunksP m = G at HCH HOF
      clear hsm hGl hpm hall hlf
      go_wp2_with (first
        | (go_at_call 20; refine (rsame_any A4 m c4 A1 m c1 _ HX4.out (HF3.out.below hb4) (by omega) (by omega)).mono ?_; rintro e w5 ⟨rfl, nd, rfl⟩)
        | (go_at_call 33; refine (HOF.out A3 c3 _ (HSg.out.below (below_trans HB2.out HB3.out)) HG3.out).mono ?_; rintro e w4 ⟨A4, c4, rfl, hown4, hb4⟩; have HX4 := hide (Fs.of_own rfl hown4))
        | (go_at_call 29; refine (HCH.out _ (HSg.out.below HB2.out) HF2.out).mono ?_; rintro e w3 ⟨A3, c3, vs3, rfl, hown3, hoa3, hb3⟩; have HB3 := hide hb3; have HF3 := hide (HF2.out.below hb3); have HG3 := hide (bss_own hown3 hoa3); clear hown3 hoa3 hb3))
      go_meet
      exact below_drewN (below_trans HB3.out hb4) nd
  case rest =>
    rename World => w6
    have HB6 := hide (below_trans HB2.out hcut)
    clear hcut
    by_cases he0 : en = 0
    · have he0' : ((en : Int) != 0) = false := by rw [he0]; rfl
      obtain ⟨hly, hcy⟩ := HOK.out he0
      have HCH := hide (show ∀ A7 c7 w', y.length ≤ c7 → c7 ≤ maxLen → Sig w' → Fs Item.cells 5 w' A7 y → Calls Tryd.prog 29 #[.slice A7 y.length c7] w' (BssOut w' cs) from fun A7 c7 w' h1 h2 hS hF => by
        have := chunks_any A7 y c7 w' hS hF HNUM.out h1 h2 (by omega)
        rwa [hcy] at this)
      have HIS := hide (show ∀ A7 c7 w', Sig w' → Fs Item.cells 5 w' A7 y → Calls Tryd.prog 26 #[.slice A7 y.length c7] w' (fun e w2 => e = .returned (.bool true) ∧ Below w'.heap.size w' w2) from fun A7 c7 w' hS hF => by
        have := leafIs_any A7 y c7 w' hS hF (by omega)
        rwa [hly] at this)
      have hne : ((cs.length : Int) != cs.length) = false := by simp
      clear he0 hly hcy
      go_wp2_with (first
        | (go_at_call 26; refine (HIS.out A7 c7 _ (HSg.out.below HB8.out) HX8.out).mono ?_; rintro e w9 ⟨rfl, hb9⟩; have HB9 := hide (below_trans HB8.out hb9); have HG9 := hide (HG8.out.below hb9); have HD9 := hide ((HB0.out.below HB8.out).below hb9))
        | (go_at_call 29; refine (HCH.out A7 c7 _ hc7.1 hc7.2 (HSg.out.below HB7.out) HX7.out).mono ?_; rintro e w8 ⟨A8, c8, vs8, rfl, hown8, hoa8, hb8⟩; have HB8 := hide (below_trans HB7.out hb8); have HX8 := hide (HX7.out.below hb8); have HG8 := hide (bss_own hown8 hoa8); clear hown8 hoa8 hb8)
        | (go_at_call 33; refine (HLO2.out _ (HSg.out.below HB6.out) (HB0.out.below HB6.out)).mono ?_; rintro e w7 ⟨A7, c7, rfl, hown7, hb7⟩; have hc7 := own_cap hown7; have HX7 := hide (Fs.of_own rfl hown7); have HB7 := hide (below_trans HB6.out hb7); clear hown7 hb7))
      go_loopw [12] (fun i wr => ∃ k : Nat, k ≤ cs.length ∧ i = .int .i64 k ∧ Below w9.heap.size w9 wr) (fun i _ => cs.length - (intOf i).toNat)
      case atStart => exact ⟨0, Nat.zero_le _, rfl, Below.refl _ _⟩
      case round =>
        obtain ⟨k, hk, rfl, hbel⟩ := hrel
        by_cases hlt : k < cs.length
        · have hlt' : (k : Int) < cs.length := by omega
          obtain ⟨b2, off2, rfl, hbl2, hcell2⟩ := HG9.out.cell (by omega)
          obtain ⟨b6, off6, rfl, hbl6, hcell6⟩ := HD9.out.cell (by omega)
          obtain ⟨Ak, ck, h1, h2, h3, h4⟩ := hcell2 k hlt
          obtain ⟨Aj, cj, f1, f2, f3, f4⟩ := hcell6 k hlt
          have e2 : wr.cell? ⟨b2, off2 + k, none⟩ = some (.slice Ak cs[k].length ck) := (hbel.cell (p := ⟨b2, off2 + k, none⟩) hbl2).trans h1
          have e6 : wr.cell? ⟨b6, off6 + k, none⟩ = some (.slice Aj cs[k].length cj) := (hbel.cell (p := ⟨b6, off6 + k, none⟩) hbl6).trans f1
          have hcv : ∀ n, (_root_.Go.convert 58 9 (.slice Ak cs[k].length ck)).run Tryd.prog (wr.drewN n) = .ok (.string ⟨cs[k].toArray⟩) (wr.drewN n) := fun n => run_str (wr.drewN n) Ak ck cs[k] (h2.below (below_drewN hbel n))
          have hcv0 : (_root_.Go.convert 58 9 (.slice Ak cs[k].length ck)).run Tryd.prog wr = .ok (.string ⟨cs[k].toArray⟩) wr := run_str wr Ak ck cs[k] (h2.below hbel)
          have hcw : ∀ n, (_root_.Go.convert 58 9 (.slice Aj cs[k].length cj)).run Tryd.prog (wr.drewN n) = .ok (.string ⟨cs[k].toArray⟩) (wr.drewN n) := fun n => run_str (wr.drewN n) Aj cj cs[k] (f2.below (below_drewN hbel n))
          have hcw0 : (_root_.Go.convert 58 9 (.slice Aj cs[k].length cj)).run Tryd.prog wr = .ok (.string ⟨cs[k].toArray⟩) wr := run_str wr Aj cj cs[k] (f2.below hbel)
          generalize cs[k] = x at e2 e6 hcv hcv0 hcw hcw0
          generalize x.length = xl at e2 e6 hcv hcv0 hcw hcw0
          clear hcell2 hcell6 h1 h2 f1 f2
          go_wp2_with fail
          go_quiet (fail)
          go_wp2_with fail
          exact ⟨⟨k + 1, by omega, by go_num, below_drewN hbel _⟩, by simp [intOf]; omega⟩
        · have hke : ¬ (k : Int) < cs.length := by omega
          go_wp2_with (go_at_call 14; refine (awake_any _ (HSg.out.below (below_trans HB9.out hbel))).mono ?_; rintro e w10 ⟨rfl, hb10⟩)
          go_ret
          exact ⟨rfl, below_trans (below_trans HB9.out hbel) hb10⟩
    · have he0' : ((en : Int) != 0) = true := by rw [bne_iff_ne]; omega
      have hy0 := HNO.out he0
      subst hy0
      clear he0
      go_wp2_with (first
        | (go_at_call 14; refine (awake_any _ (HSg.out.below HB7.out)).mono ?_; rintro e w10 ⟨rfl, hb10⟩)
        | (go_at_call 33; refine (HLO2.out _ (HSg.out.below HB6.out) (HB0.out.below HB6.out)).mono ?_; rintro e w7 ⟨A7, c7, rfl, hown7, hb7⟩; have HB7 := hide (below_trans HB6.out hb7); clear hown7 hb7))
      go_ret
      exact ⟨rfl, below_trans HB7.out hb10⟩
end Go.Proofs.YtagdjoabpkmomaaDoor
