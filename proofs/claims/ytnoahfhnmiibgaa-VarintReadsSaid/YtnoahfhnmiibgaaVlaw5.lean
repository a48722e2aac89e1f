/-
  The walk of VarintReads.
-/
import Derived.Test.YtnoahfhnmiibgaaVpair
import Derived.Test.YtnoahfhnmiibgaaOpenP
import Derived.Deep.RegionHeld3
namespace Go.Proofs.Ytnoahfhnmiibgaa
open Go.RowKit
set_option linter.unusedSimpArgs false
set_option linter.unusedVariables false

theorem tkCells_no (l : List UInt8) (p e : Nat) (i : Nat) (u : Value) (h : (tkCells l p e)[i]? = some u) (m : Int) : u ≠ Value.int .u8 m := by
  have h3 : i < 3 := by
    have := (Array.getElem?_eq_some_iff.1 h).1
    simpa [tkCells] using this
  rcases (by omega : i = 0 ∨ i = 1 ∨ i = 2) with rfl | rfl | rfl <;> (simp [tkCells] at h; rw [← h]; simp)
theorem rt_ne {w : World} {g t : Nat} {A : Option Addr} {l l' : List UInt8} {c p e p' e' : Nat} (hR : Rdr w g A l c p e) (hT : Tk w t l' p' e') : g ≠ t := by
  rintro rfl
  have h := (hR.1.cell 0).symm.trans (hT.1.cell 0)
  simp [rdCells, tkCells] at h
/-- the one reader is not touched where the other is -/
theorem Rdr.far {w w' : World} {g t : Nat} {A : Option Addr} {l l' : List UInt8} {c p e p' e' : Nat} (hR : Rdr w g A l c p e) (hT : Tk w t l' p' e') (hG : w.grownBy w' (some t)) : Rdr w' g A l c p e :=
  ⟨hR.1.grown hG (by have := rt_ne hR hT; intro x; injection x with x; exact this x), hR.2.1.grown hG (hR.2.1.ne_blk hT.1 (tkCells_no _ _ _)), hR.2.2⟩
theorem Tk.far {w w' : World} {g t : Nat} {A : Option Addr} {l l' : List UInt8} {c p e p' e' : Nat} (hT : Tk w t l' p' e') (hR : Rdr w g A l c p e) (hG : w.grownBy w' (some g)) : Tk w' t l' p' e' :=
  ⟨hT.1.grown hG (by have := rt_ne hR hT; intro x; injection x with x; exact this x.symm), hT.2⟩
theorem cell_far {w w' : World} {g b o : Nat} (hG : w.grownBy w' (some g)) (hb : b < w.heap.size) (hne : b ≠ g) : w'.cell? ⟨b, o, none⟩ = w.cell? ⟨b, o, none⟩ :=
  World.cell?_of_block (w := w) (a := ⟨b, o, none⟩) (hG.block b hb (fun x => hne (by injection x)))
theorem below_far {B g : Nat} {a w w' : World} (h : Below B a w) (hG : w.grownBy w' (some g)) (hg : B ≤ g) (hw : B ≤ w.heap.size) : Below B a w' := h.grown hG hw fun k hk => by injection hk with hk; omega

theorem two_steps {w wr w3 w4 : World} {g t : Nat} {A : Option Addr} {l : List UInt8} {c p e P E : Nat} (hR : Rdr wr g A l c p e) (hT : Tk wr t l p e) (hB : Below w.heap.size w wr) (hgw : w.heap.size ≤ g) (htw : w.heap.size ≤ t)
    (hR3 : Rdr w3 g A l c P E) (hG3 : wr.grownBy w3 (some g)) (hT4 : Tk w4 t l P E) (hG4 : w3.grownBy w4 (some t)) : ∃ p' e' : Nat, Tk w4 t l p' e' ∧ Rdr w4 g A l c p' e' ∧ Below w.heap.size w w4 :=
  have hT3 := hT.far hR hG3
  have hB3 := below_far hB hG3 hgw hB.size
  ⟨P, E, hT4, hR3.far hT3 hG4, below_far hB3 hG4 htw hB3.size⟩
theorem two_steps' {w wr w3 w4 : World} {g t : Nat} {A : Option Addr} {l : List UInt8} {c p e P E : Nat} (hR : Rdr wr g A l c p e) (hT : Tk wr t l p e) (hB : Below w.heap.size w wr) (hgw : w.heap.size ≤ g) (htw : w.heap.size ≤ t)
    (hT3 : Tk w3 t l P E) (hG3 : wr.grownBy w3 (some t)) (hR4 : Rdr w4 g A l c P E) (hG4 : w3.grownBy w4 (some g)) : ∃ p' e' : Nat, Tk w4 t l p' e' ∧ Rdr w4 g A l c p' e' ∧ Below w.heap.size w w4 :=
  have hR3 := hR.far hT hG3
  have hB3 := below_far hB hG3 htw hB.size
  ⟨P, E, hT3.far hR3 hG4, hR4, below_far hB3 hG4 hgw hB3.size⟩
theorem quiet_same_add {P : Program} {f : FuncId} {args : Array Value} {w : World} {a n : Nat} {v : Value} (h : Calls P f args (w.drewN (a + n)) fun e w' => e = .returned v ∧ w' = w.drewN (a + n)) :
    Calls P f args (w.drewN (a + n)) fun e w'' => e = .returned v ∧ ∃ m, w'' = w.drewN (a + m) := h.mono fun _ _ ⟨he, hm⟩ => ⟨he, n, hm⟩
theorem grown_undrew {w w' : World} {row : Option Nat} (h : w.drew.grownBy w' row) : w.grownBy w' row := ⟨h.os, h.tape, h.output, h.size, h.block⟩
/-- what stands behind an answer -/
def After (w : World) (g t : Nat) (A : Option Addr) (l : List UInt8) (c : Nat) (wx : World) : Prop := ∃ p' e' : Nat, Tk wx t l p' e' ∧ Rdr wx g A l c p' e' ∧ Below w.heap.size w wx
theorem int_neq0 {n : Nat} (h : n ≠ 0) : ((n : Int) == 0) = false ∧ ((n : Int) != 0) = true := ⟨by rw [beq_eq_false_iff_ne]; omega, by rw [bne_iff_ne]; omega⟩
set_option maxRecDepth 100000 in
set_option maxHeartbeats 16000000 in
theorem walk_VarintReads (w : World) (A0 : Option Addr) (l0 : List UInt8) (c0 : Nat) (hb0 : Bs w A0 l0) (hlc0 : l0.length ≤ c0) (hcm0 : c0 ≤ maxLen)
    (A : Option Addr) (n c : Nat) (hps : Ps w A n) (hnc : n ≤ c) (hcm : c ≤ maxLen) :
    Calls Try.prog 10 #[.slice A0 l0.length c0, .slice A n c] w fun e w' => e = .returned (.bool true) ∧ Below w.heap.size w w' := by
  have hcm' : c ≤ 9223372036854775807 := by unfold maxLen at hcm; omega
  have HFew := hide (few_any A0 l0 c0 (w.alloc (.cells #[] 5)) (Rd.alloc hb0 _) hlc0 hcm0)
  have HB := hide (hb0.take 2000)
  have hl : (l0.take 2000).length ≤ 2000 := by simp; omega
  have hlc : (l0.take 2000).length ≤ c0 := by simp; omega
  clear hb0
  have HP := hide hps; clear hps
  go_enter Try.func10, Try.ntmps10
  go_wp2_with fail
  refine (unhide HFew).mono ?_
  rintro e w' ⟨rfl, rfl⟩
  generalize l0.take 2000 = l at HB hl hlc ⊢
  clear HFew
  go_wp2_with (at_builtin; refine wpList_appAny _ rfl (.tmp 17) (.tmp 19) _ rfl w w.heap.size 5 _ 1 1 Try.underlying24 info_u8 rfl (by omega) (by omega) _ 0 [] rfl (own_empty w _ _ (Nat.le_refl _)) ((Below.refl _ _).alloc (Nat.le_refl _) _) _ l.length _ _ rfl (Rd.alloc (unhide HB) _) (cB_one _) (by omega) (by simp) ?_; intro A1 c1 w1 hown1 hb1; simp only [Nat.zero_add, List.nil_append] at hown1 ⊢)
  have hc1 : l.length ≤ c1 ∧ c1 ≤ 9223372036854775807 := by
    rcases hown1.2 with ⟨hv, h0⟩ | ⟨g, cap, cur, hv, hbs, _, h1, h2, _⟩
    · injection hv with v1 v2 v3
      exact ⟨by omega, by omega⟩
    · injection hv with v1 v2 v3
      subst v3
      exact ⟨h1, by simpa [maxLen] using h2⟩
  have hB1 := Bs.of_own hown1
  refine (read_any A1 l c1 w1 hB1 (by omega) hc1.1 hc1.2).mono ?_
  rintro e w2 ⟨g, A2, c2, rfl, hg, hR2, hA2, hb2⟩
  have hown2 := own_below hown1 hb2
  have hB2 := hB1.below hb2
  have hstr := run_str w2 A1 c1 l hB2
  clear HB
  have own : 0 < l.length → ∃ b1 cur, A1 = some ⟨b1, 0, none⟩ ∧ w.heap.size ≤ b1 ∧ b1 < w1.heap.size ∧ Blk w2 b1 5 cur ∧ cur.size = c1 := by
    intro hn
    rcases hown1.2 with ⟨hv, h0⟩ | ⟨b1, cap, cur, hv, hbs, hcur, h1, h2, h3, _⟩
    · omega
    · injection hv with v1 v2 v3
      subst v1 v3
      have hbk : Blk w1 b1 5 cur := hcur
      exact ⟨b1, cur, rfl, hbs, hbk.lt, hbk.gr hb2, by omega⟩
  have hT0 : Tk (w2.alloc (.cells (tkCells l 0 0) 65)) w2.heap.size l 0 0 := ⟨Blk.new _ _ _, by omega, by omega, by omega⟩
  have hR0 : Rdr (w2.alloc (.cells (tkCells l 0 0) 65)) g A2 l c2 0 0 := ⟨hR2.1.alloc _, Rd.alloc hR2.2.1 _, hR2.2.2⟩
  have hbel0 : Below w.heap.size w (w2.alloc (.cells (tkCells l 0 0) 65)) := (hb1.trans (hb2.mono hb1.size)).alloc (by have := hb1.size; have := hb2.size; omega) _
  have hsz2 := hb2.size
  have hsz1 := hb1.size
  obtain ⟨t, ht⟩ : ∃ t, t = w2.heap.size := ⟨_, rfl⟩
  have htl : w1.heap.size ≤ t := by omega
  have H0 := hide (And.intro hT0 (And.intro hR0 (And.intro hbel0 fun hn => (own hn).imp fun b1 x => x.imp fun cur y => And.intro y.1 (And.intro y.2.1 (And.intro y.2.2.1 (And.intro (Blk.alloc y.2.2.2.1 (.cells (tkCells l 0 0) 65)) y.2.2.2.2))))))
  clear hT0 hR0 hbel0 own hown1 hown2 hb1 hb2 hR2 hB1 hB2
  go_wp2_with fail
  rw [← ht] at H0 ⊢
  have HTT := hide ht
  clear ht
  go_loopw [8] (fun i wr => ∃ k : Nat, k ≤ l.length ∧ i = .int .i64 k ∧ Tk wr t l 0 0 ∧ Rdr wr g A2 l c2 0 0 ∧ Below w.heap.size w wr ∧ (0 < l.length → ∃ b1 cur, A1 = some ⟨b1, 0, none⟩ ∧ w.heap.size ≤ b1 ∧ b1 < w1.heap.size ∧ Blk wr b1 5 cur ∧ cur.size = c1)) (fun i _ => l.length - (intOf i).toNat)
  case atStart => exact ⟨0, Nat.zero_le _, rfl, H0.out.1, H0.out.2.1, H0.out.2.2.1, H0.out.2.2.2⟩
  case round =>
    obtain ⟨k, hk, rfl, hT, hR, hbel, hown⟩ := hrel
    clear H0
    by_cases hlt : k < l.length
    · have hlt' : (k : Int) < l.length := by omega
      obtain ⟨b1, cur, rfl, hb1w, hb1l, hbk, hcs⟩ := hown (by omega)
      have hcell : ∃ v, wr.cell? ⟨b1, k, none⟩ = some v := by rw [hbk.cell]; exact ⟨_, Array.getElem?_eq_getElem (by omega)⟩
      obtain ⟨v0, hcell⟩ := hcell
      have hfr := hbk.free k
      have HX := hide (And.intro hT (And.intro hR (And.intro hbel (And.intro hbk hcs))))
      clear hown hT hR hbel hbk hcs
      go_wp2_with fail
      go_roundw
      case rel => exact ⟨k + 1, by omega, by go_num, ⟨HX.out.1.1.far (by show t ≠ b1; omega) _, HX.out.1.2⟩, ⟨HX.out.2.1.1.far (by show g ≠ b1; omega) _, HX.out.2.1.2.1.grown (only_set (.refl _ _) _ _) (fun b off e h => by have := hA2 b off e h; omega), HX.out.2.1.2.2⟩, HX.out.2.2.1.setCell hb1w _, fun _ => ⟨b1, _, rfl, hb1w, hb1l, HX.out.2.2.2.1.set_ k _, by rw [Array.size_setIfInBounds]; exact HX.out.2.2.2.2⟩⟩
      case measure => simp [intOf]; omega
    · have hk' : k = l.length := by omega
      subst hk'
      have H1 := hide (And.intro hT (And.intro hR hbel))
      clear hown hT hR hbel hA2 hlt hstr
      go_wp2_with fail
      go_loopw [9] (fun i wr => ∃ k p e : Nat, k ≤ n ∧ i = .int .i64 k ∧ Tk wr t l p e ∧ Rdr wr g A2 l c2 p e ∧ Below w.heap.size w wr) (fun i _ => n - (intOf i).toNat)
      case atStart => exact ⟨0, 0, 0, Nat.zero_le _, rfl, H1.out.1, H1.out.2.1, H1.out.2.2⟩
      case round =>
        obtain ⟨k, p, e, hkn, rfl, hT, hR, hbel⟩ := hrel
        clear H1
        by_cases hlt : k < n
        · have hlt' : (k : Int) < n := by omega
          by_cases h60 : k < 60
          · have h60' : (k : Int) < 60 := by omega
            obtain ⟨b, off, rfl, hbl, hcell⟩ := HP.out (by omega)
            obtain ⟨d, m, hd0, hm0, hm⟩ := hcell k hlt
            have hdc := (hbel.cell (p := ⟨b, off + k * 2, none⟩) hbl).trans hd0
            have hmc := (hbel.cell (p := ⟨b, off + k * 2 + 1, none⟩) hbl).trans hm0
            have hbr : b < wr.heap.size := Nat.lt_of_lt_of_le hbl hbel.size
            clear hcell hd0 hm0
            go_upto_block 4 with (fail)
            go_cut [10] from 38 to 185 (fun s10 wx => s10 = .bool true ∧ After w g t A2 l c2 wx)
            case first =>
              have hbg : b ≠ g := by omega
              have hbt : b ≠ t := by omega
              have hgw : w.heap.size ≤ g := by omega
              have htw : w.heap.size ≤ t := by omega
              have HBl := hide hbel
              clear hbel
              have HR := hide hR; have HT := hide hT; clear hR hT
              have hdc0 := hdc
              by_cases h0 : d = 0
              · subst h0
                obtain ⟨X, P, E, hI, hJ⟩ := num_pair l p e m
                have HI := hide (fun w => hI g A2 c2 w); have HJ := hide (fun w => hJ t w); clear hI hJ
                go_wp2_with fail
                go_region_held3 (fun w' => w'.cell? ⟨b, off + k * 2 + 1, none⟩ = some (.int .u64 m)) (go_keep)
                  (first
                    | (go_at_call 33; refine (HJ.out _ (HT.out.far HR.out hG3)).mono ?_; rintro en w4 ⟨rfl, hT4, hG4⟩; have hs4 : w4.cell? ⟨b, off + k * 2 + 1, none⟩ = some (.int .u64 m) := (cell_far hG4 (Nat.lt_of_lt_of_le hbr hG3.size) hbt).trans hs3; have HF : Hid (After w g t A2 l c2 w4) := hide (two_steps HR.out HT.out HBl.out hgw htw hR3 hG3 hT4 hG4))
                    | (go_at_call 32; refine (HI.out _ (HR.out.far HT.out hG3t)).mono ?_; rintro en w4 ⟨rfl, hR4, hG4⟩; have hs4 : w4.cell? ⟨b, off + k * 2 + 1, none⟩ = some (.int .u64 m) := (cell_far hG4 (Nat.lt_of_lt_of_le hbr hG3t.size) hbg).trans hs3; have HF : Hid (After w g t A2 l c2 w4) := hide (two_steps' HR.out HT.out HBl.out hgw htw hT3 hG3t hR4 hG4))
                    | (go_at_call 32; refine (HI.out _ (show Rdr wr.drew g A2 l c2 p e from HR.out)).mono ?_; rintro en w3 ⟨rfl, hR3, hG3d⟩; have hG3 := grown_undrew hG3d; have hs3 : w3.cell? ⟨b, off + k * 2 + 1, none⟩ = some (.int .u64 m) := (cell_far hG3 hbr hbg).trans hmc)
                    | (go_at_call 33; refine (HJ.out _ (show Tk wr.drew t l p e from HT.out)).mono ?_; rintro en w3 ⟨rfl, hT3, hG3d⟩; have hG3t := grown_undrew hG3d; have hs3 : w3.cell? ⟨b, off + k * 2 + 1, none⟩ = some (.int .u64 m) := (cell_far hG3t hbr hbt).trans hmc))
                all_goals
                  clear hs3 hs4 HI HJ HR HT HBl hmc hdc0
                  go_wp2_with fail
                  go_meet
                  exact ⟨by simp, HF.out⟩
              by_cases h1 : d = 1
              · subst h1
                clear hdc0 hmc
                obtain ⟨X, P, E, hI, hJ⟩ := int_pair l p e
                have HI := hide (hI g A2 c2 wr HR.out); have HJ := hide hJ; clear hI hJ
                go_wp2_with fail
                refine HI.out.mono ?_
                rintro en w3 ⟨rfl, hR3, hG3⟩
                have HS := hide (HJ.out t w3 (HT.out.far HR.out hG3))
                have HR3 := hide hR3; have HG3 := hide hG3
                clear hR3 hG3
                go_wp2_with fail
                refine HS.out.mono ?_
                rintro en w4 ⟨rfl, hT4, hG4⟩
                have HF : Hid (After w g t A2 l c2 w4) := hide (two_steps HR.out HT.out HBl.out hgw htw HR3.out HG3.out hT4 hG4)
                clear hT4 hG4 HS HI HJ HR3 HG3 HR HT HBl
                go_wp2_with fail
                go_meet
                exact ⟨by simp, HF.out⟩
              by_cases h2 : d = 2
              · subst h2
                clear hdc0 hmc
                obtain ⟨X, P, E, hI, hJ⟩ := text_pair l p e
                have HI := hide (hI g A2 c2 wr HR.out); have HJ := hide hJ; clear hI hJ
                go_wp2_with fail
                refine HI.out.mono ?_
                rintro en w3 ⟨rfl, hR3, hG3⟩
                have HS := hide (HJ.out t w3 (HT.out.far HR.out hG3))
                have HR3 := hide hR3; have HG3 := hide hG3
                clear hR3 hG3
                go_wp2_with fail
                refine HS.out.mono ?_
                rintro en w4 ⟨rfl, hT4, hG4⟩
                have HF : Hid (After w g t A2 l c2 w4) := hide (two_steps HR.out HT.out HBl.out hgw htw HR3.out HG3.out hT4 hG4)
                clear hT4 hG4 HS HI HJ HR3 HG3 HR HT HBl
                go_wp2_with fail
                go_meet
                exact ⟨by simp, HF.out⟩
              by_cases h3 : d = 3
              · subst h3
                clear hdc0 hmc
                obtain ⟨X, P, E, hI, hJ⟩ := byte_pair l p e
                have HI := hide (hI g A2 c2 wr HR.out); have HJ := hide hJ; clear hI hJ
                go_wp2_with fail
                refine HI.out.mono ?_
                rintro en w3 ⟨rfl, hR3, hG3⟩
                have HS := hide (HJ.out t w3 (HT.out.far HR.out hG3))
                have HR3 := hide hR3; have HG3 := hide hG3
                clear hR3 hG3
                go_wp2_with fail
                refine HS.out.mono ?_
                rintro en w4 ⟨rfl, hT4, hG4⟩
                have HF : Hid (After w g t A2 l c2 w4) := hide (two_steps HR.out HT.out HBl.out hgw htw HR3.out HG3.out hT4 hG4)
                clear hT4 hG4 HS HI HJ HR3 HG3 HR HT HBl
                go_wp2_with fail
                go_meet
                exact ⟨by simp, HF.out⟩
              by_cases h4 : d = 4
              · subst h4
                clear hdc0 hmc
                obtain ⟨X, P, E, hI, hJ⟩ := flag_pair l p e
                have HI := hide (hI g A2 c2 wr HR.out); have HJ := hide hJ; clear hI hJ
                go_wp2_with fail
                refine HI.out.mono ?_
                rintro en w3 ⟨rfl, hR3, hG3⟩
                have HS := hide (HJ.out t w3 (HT.out.far HR.out hG3))
                have HR3 := hide hR3; have HG3 := hide hG3
                clear hR3 hG3
                go_wp2_with fail
                refine HS.out.mono ?_
                rintro en w4 ⟨rfl, hT4, hG4⟩
                have HF : Hid (After w g t A2 l c2 w4) := hide (two_steps HR.out HT.out HBl.out hgw htw HR3.out HG3.out hT4 hG4)
                clear hT4 hG4 HS HI HJ HR3 HG3 HR HT HBl
                go_wp2_with fail
                go_meet
                exact ⟨by simp, HF.out⟩
              have hx : m % 24 ≤ 30 := by omega
              have hx24 : m % 24 < 24 := by omega
              obtain ⟨x, hx0⟩ : ∃ x, x = m % 24 := ⟨_, rfl⟩
              have hxi : (m : Int) % 24 = (x : Int) := by omega
              rw [← hx0] at hx hx24
              have HX0 := hide hx0
              clear hx0
              obtain ⟨P, E, hI, hJ⟩ := fail_pair l p e (x : Int) x rfl hx
              have HI := hide (hI g A2 c2 wr HR.out); have HJ := hide hJ; clear hI hJ
              have hd0b : (d == 0) = false := by rw [beq_eq_false_iff_ne]; exact h0
              have hd1b : (d == 1) = false := by rw [beq_eq_false_iff_ne]; exact h1
              have hd2b : (d == 2) = false := by rw [beq_eq_false_iff_ne]; exact h2
              have hd3b : (d == 3) = false := by rw [beq_eq_false_iff_ne]; exact h3
              have hd4b : (d == 4) = false := by rw [beq_eq_false_iff_ne]; exact h4
              clear h0 h1 h2 h3 h4 hdc0
              go_wp2_with (first
                | (go_at_call 43; refine (HJ.out t w3 (HT.out.far HR.out hG3)).mono ?_; rintro en w4 ⟨rfl, hT4, hG4⟩; have HF : Hid (After w g t A2 l c2 w4) := hide (two_steps HR.out HT.out HBl.out hgw htw hR3 hG3 hT4 hG4))
                | (go_at_call 42; refine HI.out.mono ?_; rintro en w3 ⟨rfl, hR3, hG3⟩; have hs3 : w3.cell? ⟨b, off + k * 2 + 1, none⟩ = some (.int .u64 m) := (cell_far hG3 hbr hbg).trans hmc))
              go_meet
              exact ⟨rfl, HF.out⟩
            case rest =>
              obtain ⟨rfl, p', e', hT, hR, hB⟩ := hcut
              rename World => w5
              have hend := end_any g A2 l c2 p' e' w5 hR
              have htend := fun n => tkend_any t l p' e' (w5.drewN n) hT
              have herr := fun n => err_any g A2 l c2 p' e' (w5.drewN n) hR
              have hat := fun n => at_any g A2 l c2 p' e' (w5.drewN n) hR
              have HEE : Hid ((e' = 0 → errP e' p' = 0) ∧ (e' ≠ 0 → errP e' p' = p')) := hide ⟨fun h => by unfold errP; rw [if_pos h], fun h => by unfold errP; rw [if_neg h]⟩
              generalize endE e' p' l.length = E1 at hend htend
              generalize endP e' p' l.length = P1 at hend htend
              generalize errP e' p' = Q1 at herr HEE
              have HEND := hide hend; have HTEND := hide htend; have HERR := hide herr; have HAT := hide hat
              have ct1 : w5.cell? ⟨t, 1, none⟩ = some (.int .i64 p') := hT.1.cell 1
              have ct2 : w5.cell? ⟨t, 2, none⟩ = some (.int .i64 e') := hT.1.cell 2
              have HFX := hide (And.intro hT (And.intro hR hB))
              have hE1 : ((E1 : Int) != E1) = false := by simp
              have hP1 : ((P1 : Int) != P1) = false := by simp
              have hp1 : ((p' : Int) != p') = false := by simp
              have he1 : ((e' : Int) != e') = false := by simp
              clear hend htend herr hat hT hR hB hdc hmc hbel hbr
              by_cases he0 : e' = 0
              · have hQ := HEE.out.1 he0
                have hez : ((e' : Int) == 0) = true := by rw [he0]; rfl
                have hezn : ((e' : Int) != 0) = false := by rw [he0]; rfl
                have hQz : ((Q1 : Int) != 0) = false := by rw [hQ]; rfl
                clear he0 hQ HEE
                go_wp2_with (first
                  | (go_at_call 46; refine (HERR.out (n1 + n2)).mono ?_; rintro en w8 ⟨rfl, n3, rfl⟩)
                  | (go_at_call 45; refine (HTEND.out n1).mono ?_; rintro en w7 ⟨rfl, n2, rfl⟩)
                  | (go_at_call 44; refine HEND.out.mono ?_; rintro en w6 ⟨rfl, n1, rfl⟩))
                go_quiet ((go_at_call 47; exact quiet_same_add (at_any g A2 l c2 p' e' _ HFX.out.2.1)))
                go_wp2_with fail
                exact ⟨⟨k + 1, p', e', by omega, by go_num, HFX.out.1, HFX.out.2.1, below_drewN HFX.out.2.2 _⟩, by simp [intOf]; omega⟩
              · have hQ := HEE.out.2 he0
                have hez : ((e' : Int) == 0) = false := (int_neq0 he0).1
                have hezn : ((e' : Int) != 0) = true := (int_neq0 he0).2
                have hQz : ((Q1 : Int) != p') = false := by rw [hQ]; simp
                clear he0 hQ HEE
                go_wp2_with (first
                  | (go_at_call 46; refine (HERR.out (n1 + n2)).mono ?_; rintro en w8 ⟨rfl, n3, rfl⟩)
                  | (go_at_call 45; refine (HTEND.out n1).mono ?_; rintro en w7 ⟨rfl, n2, rfl⟩)
                  | (go_at_call 44; refine HEND.out.mono ?_; rintro en w6 ⟨rfl, n1, rfl⟩))
                go_quiet ((go_at_call 47; exact quiet_same_add (at_any g A2 l c2 p' e' _ HFX.out.2.1)))
                go_wp2_with fail
                exact ⟨⟨k + 1, p', e', by omega, by go_num, HFX.out.1, HFX.out.2.1, below_drewN HFX.out.2.2 _⟩, by simp [intOf]; omega⟩
          · have h60' : ¬ (k : Int) < 60 := by omega
            go_wp2_with fail
            refine (awake_any _).mono ?_
            rintro e w3 ⟨rfl, hb3⟩
            go_wp2_with fail
            go_ret
            exact ⟨rfl, Gr.trans hbel hb3⟩
        · have hlt' : ¬ (k : Int) < n := by omega
          go_wp2_with fail
          refine (awake_any _).mono ?_
          rintro e w3 ⟨rfl, hb3⟩
          go_wp2_with fail
          go_ret
          exact ⟨rfl, Gr.trans hbel hb3⟩
end Go.Proofs.Ytnoahfhnmiibgaa
