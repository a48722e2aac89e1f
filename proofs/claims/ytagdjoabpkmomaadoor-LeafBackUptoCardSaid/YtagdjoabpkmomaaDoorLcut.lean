/-
  The walk of leaf.Cut.
-/
import Derived.Test.YtagdjoabpkmomaaDoorCutl
import Derived.Test.YtagdjoabpkmomaaDoorLf1
namespace Go.Proofs.YtagdjoabpkmomaaDoor
open Go.RowKit
set_option maxRecDepth 100000
set_option linter.unusedSimpArgs false
set_option linter.unusedVariables false
attribute [local go_sem ↓] Go.wp_at_zero Go.wp_at_succ

def Rising (m : List Item) : Prop := ∀ j (h : j + 1 < m.length), less m[j].key m[j + 1].key = true
open Classical in
noncomputable def finL (l : Bytes) (s : List Item × Nat × Nat) : List Item × Nat :=
  if s.2.2 ≠ 0 then ([], s.2.2) else if ¬ (∀ x ∈ s.1, itemB x = true) then ([], 1) else if ¬ Rising s.1 then ([], 3)
  else if s.1.length = 0 ∨ 8 < s.1.length then ([], 4) else if s.2.1 < l.length then ([], 7) else (s.1, 0)
noncomputable def cutL : Bytes → List Item × Nat
  | [] => ([], 2)
  | t :: r => finL (t :: r) (stC id (t :: r) t.toNat)

theorem finL_item {l : Bytes} {m : List Item} {p : Nat} (j : Nat) (hj : j < m.length) (h : itemB m[j] = false) : finL l (m, p, 0) = ([], 1) := by
  unfold finL
  rw [if_neg (by simp), if_pos]
  intro hall
  have := hall m[j] (List.getElem_mem hj)
  rw [h] at this; cases this
theorem finL_rise {l : Bytes} {m : List Item} {p : Nat} (hi : ∀ x ∈ m, itemB x = true) (j : Nat) (h0 : 0 < j) (hj : j < m.length) (h : less (m[j - 1]'(by omega)).key m[j].key = false) : finL l (m, p, 0) = ([], 3) := by
  unfold finL
  rw [if_neg (by simp), if_neg (by simpa using hi), if_pos]
  intro hall
  obtain ⟨i, rfl⟩ : ∃ i, j = i + 1 := ⟨j - 1, by omega⟩
  have := hall i hj
  simp only [Nat.add_sub_cancel] at h
  rw [h] at this; cases this
theorem finL_end {l : Bytes} {m : List Item} {p : Nat} (hi : ∀ x ∈ m, itemB x = true) (hr : Rising m) :
    (m.length = 0 ∨ 8 < m.length → finL l (m, p, 0) = ([], 4)) ∧ (¬ (m.length = 0 ∨ 8 < m.length) → p < l.length → finL l (m, p, 0) = ([], 7)) ∧ (¬ (m.length = 0 ∨ 8 < m.length) → ¬ p < l.length → finL l (m, p, 0) = (m, 0)) := by
  unfold finL
  rw [if_neg (by simp), if_neg (by simpa using hi), if_neg (by simpa using hr)]
  exact ⟨fun h => by rw [if_pos h], fun h h2 => by rw [if_neg h, if_pos h2], fun h h2 => by rw [if_neg h, if_neg h2]⟩
theorem rise_on {m : List Item} {j : Nat} (h0 : 0 < j) (hj : j < m.length) (h : less (m[j - 1]'(by omega)).key m[j].key = true) (ha : ∀ i (h : i + 1 < m.length), i + 1 < j → less m[i].key m[i + 1].key = true) :
    ∀ i (h : i + 1 < m.length), i + 1 < j + 1 → less m[i].key m[i + 1].key = true := by
  intro i hi hij
  by_cases h1 : i + 1 < j
  · exact ha i hi h1
  · obtain ⟨q, rfl⟩ : ∃ q, j = q + 1 := ⟨j - 1, by omega⟩
    simp only [Nat.add_sub_cancel] at h
    have : i = q := by omega
    subst this
    exact h

set_option maxHeartbeats 8000000 in
theorem lcut_any (A : Option Addr) (l : Bytes) (c : Nat) (w : World) (hS : Sig w) (hF : Bs w A l) (hl : l.length ≤ 34359738368) (hlc : l.length ≤ c) (hcm : c ≤ maxLen) :
    Calls Tryd.prog 31 #[.slice A l.length c] w (FsErr w (cutL l)) := by
  have HF := hide hF; have HSg := hide hS
  clear hF hS
  by_cases hz : l.length = 0
  · have hre : l = [] := List.length_eq_zero_iff.1 hz
    have HR := hide (show cutL l = ([], 2) from by rw [hre]; rfl)
    have hzi : ((l.length : Int) == 0) = true := by rw [hz]; rfl
    clear hre hz
    go_enter Tryd.func31, Tryd.ntmps31
    go_wp2_with fail
    go_ret2
    rw [HR.out]; exact ⟨_, _, rfl, World.ownsRow_nil _ _ _ _, Below.refl _ _⟩
  · have hpos : 0 < l.length := by omega
    have hzi : ((l.length : Int) == 0) = false := by rw [beq_eq_false_iff_ne]; omega
    obtain ⟨t, ht⟩ : ∃ t, t = l[0] := ⟨_, rfl⟩
    have HR := hide (show cutL l = finL l (stC id l t.toNat) from by subst ht; cases l with | nil => simp at hpos | cons x y => rfl)
    have ht8 : t.toNat < 256 := t.toNat_lt
    obtain ⟨b, off, rfl, hbl, hcell⟩ := HF.out.cell hpos
    have h0 : w.cell? ⟨b, off, none⟩ = some (.int .u8 t.toNat) := by have := hcell 0 hpos; rw [← ht] at this; simpa using this
    have hcut := fun w => run_cut_from Tryd.underlying58 size_u8 (some ⟨b, off, none⟩) l.length c 1 (by omega) 1 rfl w
    have hB1 : Bs w (cutA (some ⟨b, off, none⟩) c 1 1) (l.drop 1) := by
      have := HF.out.cutA (lo := 1) (n := l.length - 1) (c := c) (by omega) hlc
      rwa [List.take_of_length_le (by simp)] at this
    generalize cutA (some ⟨b, off, none⟩) c 1 1 = A5 at hcut hB1
    have HB1 := hide hB1
    have HLE := hide (fun k => stC_le (g := id) hpos k)
    have HT := hide ht
    clear hcell hB1 ht hz
    go_enter Tryd.func31, Tryd.ntmps31
    go_wp2_with fail
    go_loopw [4, 5, 20] (fun o rs i wr => ∃ (k p : Nat) (m : List Item) (Ao : Option Addr) (co : Nat) (A5 : Option Addr) (c5 : Nat), i = .int .u8 k ∧ k ≤ t.toNat ∧ stC id l k = (m, p, 0) ∧ o = .slice Ao m.length co ∧ rs = .slice A5 (l.length - p) c5 ∧ Bs w A5 (l.drop p) ∧ l.length - p ≤ c5 ∧ c5 ≤ maxLen ∧ p ≤ l.length ∧ m.length ≤ k ∧ wr.ownsRow w.heap.size 32 5 (.slice Ao m.length co) m.length (m.flatMap Item.cells) ∧ Below w.heap.size w wr) (fun _ _ i _ => t.toNat - (intOf i).toNat)
    case atStart => exact ⟨0, 1, [], none, 0, A5, c - 1, rfl, Nat.zero_le _, rfl, rfl, rfl, HB1.out, by omega, by omega, hpos, Nat.le_refl _, World.ownsRow_nil _ _ _ _, Below.refl _ _⟩
    case round =>
      obtain ⟨k, p, m, Ao, co, A6, c6, rfl, hk, hst, rfl, rfl, hB, hc6, hm6, hpl, hmk, hown, hbel⟩ := hrel
      have HO := hide hown; have HBr := hide hB; have HST := hide hst
      clear hown hB hst
      have hci := cutI_n (l.drop p)
      have HCI := hide (show ∀ w', Bs w' A6 (l.drop p) → Calls Tryd.prog 51 #[.slice A6 (l.length - p) c6] w' (CutIOut w' (cutI (l.drop p))) from fun w' h => by
        have := cuti_any _ _ c6 w' h (by simp; omega) (by simp; omega) hm6
        rwa [List.length_drop] at this)
      rw [List.length_drop] at hci
      by_cases hlt : k < t.toNat
      · have hlt' : (k : Int) < t.toNat := by omega
        by_cases he : (cutI (l.drop p)).e = 0
        · have HF2 := hide (show stC id l (k + 1) = (m ++ [(cutI (l.drop p)).x], p + (cutI (l.drop p)).n, 0) from by
            have := stC_ok (g := id) (l := l) (k := k) (by rw [HST.out]) (by rw [HST.out]; exact he)
            rw [HST.out] at this; exact this)
          have hcut2 := fun w => run_cut_from Tryd.underlying58 size_u8 A6 (l.length - p) c6 (cutI (l.drop p)).n hci _ rfl w
          have HB2 := hide (show ∀ w', Bs w' A6 (l.drop p) → Bs w' (cutA A6 c6 (cutI (l.drop p)).n 1) (l.drop (p + (cutI (l.drop p)).n)) from fun w' h => by
            have := bs_cutL h (lo := (cutI (l.drop p)).n) (c := c6) (by rw [List.length_drop]; exact hci) (by rw [List.length_drop]; exact hc6)
            rwa [List.drop_drop] at this)
          generalize cutI (l.drop p) = C at HCI hci he HF2 hcut2 HB2
          obtain ⟨⟨ck, cd, ci, cs, cv⟩, cn, ce⟩ := C
          simp only at hci he HF2 hcut2 HB2
          subst he
          generalize cutA A6 c6 cn 1 = A7 at hcut2 HB2
          go_wp2_with (first
            | (at_builtin; refine wpList_appE (w2.alloc (.cells #[.string ⟨ck.toArray⟩, .int .i64 cd, .int .i64 ci, .string ⟨cs.toArray⟩, .int .i64 cv] 32)) rfl (.tmp 31) (.tmp 33) _ rfl w w.heap.size 32 32 _ 5 56 Tryd.underlying22 info_item rfl (by omega) (by omega) _ m.length _ #[.string ⟨ck.toArray⟩, .int .i64 cd, .int .i64 ci, .string ⟨cs.toArray⟩, .int .i64 cv] (by rfl) (w2.heap.size + 1) (by simp) (by rfl) rfl (item_one _ _ _ _ _) ((own_below HO.out hb2).alloc _) ((hbel.trans (hb2.mono hbel.size)).alloc (Nat.le_trans hbel.size hb2.size) _) (by have := hbel.size; have := hb2.size; simp; omega) (by omega) ?_; intro g cap w4 hown4 hb4)
            | (go_at_call 51; refine (HCI.out _ (HBr.out.below hbel)).mono ?_; rintro e w2 ⟨rfl, hb2⟩; obtain ⟨hc2, hf2⟩ := bcell hb2))
          refine ⟨⟨k + 1, p + cn, m ++ [⟨ck, cd, ci, cs, cv⟩], some ⟨g, 0, none⟩, cap, A7, c6 - cn, by go_num, by omega, HF2.out, by rw [List.length_append]; rfl, by rw [Nat.sub_sub], HB2.out _ HBr.out, by omega, by omega, by omega, by simp; omega, ?_, hb4⟩, by simp [intOf]; omega⟩
          rw [List.length_append, cells_snoc]; exact hown4
        · have he' : (((cutI (l.drop p)).e : Int) != 0) = true := by rw [bne_iff_ne]; omega
          have HF2 := hide (show cutL l = ([], (cutI (l.drop p)).e) from by
            have e1 : (stC id l (k + 1)).2.2 = (cutI (l.drop p)).e := by
              have := stC_bad (g := id) (l := l) (k := k) (by rw [HST.out]) (by rw [HST.out]; exact he)
              rw [HST.out] at this; exact this
            have e2 := stC_stay (g := id) (l := l) (k := k + 1) (by rw [e1]; exact he) (t.toNat - (k + 1))
            rw [show k + 1 + (t.toNat - (k + 1)) = t.toNat from by omega] at e2
            rw [HR.out, e2]; unfold finL; rw [e1, if_pos he])
          clear he
          generalize cutI (l.drop p) = C at HCI hci he' HF2
          obtain ⟨⟨ck, cd, ci, cs, cv⟩, cn, ce⟩ := C
          simp only at hci he' HF2
          go_wp2_with (go_at_call 51; refine (HCI.out _ (HBr.out.below hbel)).mono ?_; rintro e w2 ⟨rfl, hb2⟩; obtain ⟨hc2, hf2⟩ := bcell hb2)
          go_ret2
          rw [HF2.out]
          exact ⟨none, 0, rfl, World.ownsRow_nil _ _ _ _, (hbel.trans (hb2.mono hbel.size)).alloc (Nat.le_trans hbel.size hb2.size) _⟩
      · have hkt : k = t.toNat := by omega
        rename World => w3
        have HFin := hide (show cutL l = finL l (m, p, 0) from by rw [HR.out, ← hkt, HST.out])
        have hlt' : ¬ (k : Int) < t.toNat := by omega
        clear hkt HCI hci
        have hm255 : m.length ≤ 255 := by omega
        have HFs := hide (show Fs Item.cells 5 w3 Ao m from Fs.of_own rfl HO.out)
        go_wp2_with fail
        go_loopw [41] (fun i w4 => ∃ j : Nat, j ≤ m.length ∧ i = .int .i64 j ∧ (∀ x ∈ m.take j, itemB x = true) ∧ Below w3.heap.size w3 w4) (fun i _ => m.length - (intOf i).toNat)
        case atStart => exact ⟨0, Nat.zero_le _, rfl, by simp, Below.refl _ _⟩
        case round =>
          rename World => w4
          obtain ⟨j, hj, rfl, hall, hb4⟩ := hrel
          have HA := hide hall; clear hall
          have hbW : Below w.heap.size w w4 := hbel.trans (hb4.mono hbel.size)
          by_cases hlt2 : j < m.length
          · have hlt2' : (j : Int) < m.length := by omega
            obtain ⟨b2, off2, rfl, hbl2, hcell2⟩ := HFs.out.cell (fun _ => rfl) (by omega)
            obtain ⟨c0, c1, c2, c3, c4⟩ := five hcell2 hb4 hbl2 hlt2
            cases hi : itemB m[j] with
            | false =>
              have HE := hide (finL_item (l := l) (p := p) j hlt2 hi)
              generalize hx : m[j] = x at c0 c1 c2 c3 c4 hi
              obtain ⟨key, kind, i, s, ver⟩ := x
              have HX := hide hx; clear hx hcell2
              go_wp2_with (go_at_call 35; refine (may_any key kind i s ver _ (HSg.out.below (hbW.trans ((gr1 _ _).mono hbW.size)))).mono ?_; rintro e w5 ⟨rfl, hb⟩; obtain ⟨hc, hf⟩ := bcell hb)
              go_ret2
              rw [HFin.out, HE.out]
              exact ⟨none, 0, rfl, World.ownsRow_nil _ _ _ _, hbW.trans (((gr1 _ _).mono hbW.size).trans (hb.mono (by simp; have := hbW.size; omega)))⟩
            | true =>
              have HN := hide (take_all_succ (p := fun x => itemB x = true) hlt2 HA.out hi)
              generalize hx : m[j] = x at c0 c1 c2 c3 c4 hi
              obtain ⟨key, kind, i, s, ver⟩ := x
              have HX := hide hx; clear hx hcell2
              go_wp2_with (go_at_call 35; refine (may_any key kind i s ver _ (HSg.out.below (hbW.trans ((gr1 _ _).mono hbW.size)))).mono ?_; rintro e w5 ⟨rfl, hb⟩; obtain ⟨hc, hf⟩ := bcell hb)
              clear hc hf
              exact ⟨⟨j + 1, by omega, by go_num, HN.out, hb4.trans (((gr1 _ _).mono hb4.size).trans (hb.mono (by simp; have := hb4.size; omega)))⟩, by simp [intOf]; omega⟩
          · have hje : j = m.length := by omega
            have hlt2' : ¬ (j : Int) < m.length := by omega
            have HI := hide (show ∀ x ∈ m, itemB x = true from by have := HA.out; rwa [hje, List.take_length] at this)
            clear hje
            have HFs4 := hide (HFs.out.below hb4)
            go_wp2_with fail
            go_loopw [51] (fun i w5 => ∃ q : Nat, q ≤ m.length ∧ i = .int .i64 q ∧ (∀ i (h : i + 1 < m.length), i + 1 < q → less m[i].key m[i + 1].key = true) ∧ Below w4.heap.size w4 w5) (fun i _ => m.length - (intOf i).toNat)
            case atStart => exact ⟨0, Nat.zero_le _, rfl, fun _ _ h => absurd h (by omega), Below.refl _ _⟩
            case round =>
              rename World => w5
              obtain ⟨q, hq, rfl, hris, hb5⟩ := hrel
              have HRi := hide hris; clear hris
              have hbV : Below w.heap.size w w5 := hbW.trans (hb5.mono hbW.size)
              by_cases hlt3 : q < m.length
              · have hlt3' : (q : Int) < m.length := by omega
                by_cases hq0 : 0 < q
                · have hq0' : (0 : Int) < q := by omega
                  obtain ⟨b3, off3, rfl, hbl3, hcell3⟩ := HFs4.out.cell (fun _ => rfl) (by omega)
                  obtain ⟨c0, c1, c2, c3, c4⟩ := five hcell3 hb5 hbl3 hlt3
                  obtain ⟨d0, d1, d2, d3, d4⟩ := five hcell3 hb5 hbl3 (k := q - 1) (by omega)
                  have kiy := fun w => run_elemAddr Tryd.underlying22 size_item b3 off3 m.length co q hlt3 (q : Int) rfl w
                  have kix := fun w => run_elemAddr Tryd.underlying22 size_item b3 off3 m.length co (q - 1) (by omega) ((q : Int) - 1) (by omega) w
                  clear c1 c2 c3 c4 d1 d2 d3 d4 hcell3
                  cases hp : less (m[q - 1]'(by omega)).key m[q].key with
                  | false =>
                    have HE := hide (finL_rise (l := l) (p := p) HI.out q hq0 hlt3 hp)
                    generalize m[q - 1].key = pkey at d0 hp
                    generalize m[q].key = key at c0 hp
                    have hle : (Op.bytesLess key pkey || key == pkey) = !less pkey key := less_or_eq key pkey
                    rw [hp] at hle
                    go_wp2_with fail
                    have ka : IntKind.i64.wrap ((q : Int) - 1) = (q : Int) - 1 := IntWalk.i64_in _ (by omega)
                    go_quiet (fail)
                    clear ka
                    go_wp2_with fail
                    go_ret2
                    rw [HFin.out, HE.out]
                    exact ⟨none, 0, rfl, World.ownsRow_nil _ _ _ _, below_drewN hbV _⟩
                  | true =>
                    have HN := hide (rise_on hq0 hlt3 hp HRi.out)
                    generalize m[q - 1].key = pkey at d0 hp
                    generalize m[q].key = key at c0 hp
                    have hle : (Op.bytesLess key pkey || key == pkey) = !less pkey key := less_or_eq key pkey
                    rw [hp] at hle
                    go_wp2_with fail
                    have ka : IntKind.i64.wrap ((q : Int) - 1) = (q : Int) - 1 := IntWalk.i64_in _ (by omega)
                    go_quiet (fail)
                    clear ka
                    go_wp2_with fail
                    exact ⟨⟨q + 1, by omega, by go_num, HN.out, below_drewN hb5 _⟩, by simp [intOf]; omega⟩
                · have hq0' : ¬ (0 : Int) < q := by omega
                  have HN := hide (show ∀ i (h : i + 1 < m.length), i + 1 < q + 1 → less m[i].key m[i + 1].key = true from fun _ _ h => absurd h (by omega))
                  go_wp2_with fail
                  go_quiet (fail)
                  go_wp2_with fail
                  exact ⟨⟨q + 1, by omega, by go_num, HN.out, below_drewN hb5 _⟩, by simp [intOf]; omega⟩
              · have hqe : q = m.length := by omega
                have hlt3' : ¬ (q : Int) < m.length := by omega
                have HRs := hide (show Rising m from fun i h => HRi.out i h (by omega))
                clear hqe
                by_cases hm0 : m.length = 0
                · have HE := hide ((finL_end (l := l) (p := p) HI.out HRs.out).1 (.inl hm0))
                  have hm0' : ((m.length : Int) == 0) = true := by rw [hm0]; rfl
                  go_wp2_with fail
                  go_ret2
                  rw [HFin.out, HE.out]
                  exact ⟨none, 0, rfl, World.ownsRow_nil _ _ _ _, hbV⟩
                · have hm0' : ((m.length : Int) == 0) = false := by rw [beq_eq_false_iff_ne]; omega
                  by_cases hm8 : 8 < m.length
                  · have HE := hide ((finL_end (l := l) (p := p) HI.out HRs.out).1 (.inr hm8))
                    have hm8' : (8 : Int) < m.length := by omega
                    go_wp2_with fail
                    go_ret2
                    rw [HFin.out, HE.out]
                    exact ⟨none, 0, rfl, World.ownsRow_nil _ _ _ _, hbV⟩
                  · have hm8' : ¬ (8 : Int) < m.length := by omega
                    have hno : ¬ (m.length = 0 ∨ 8 < m.length) := by omega
                    by_cases hpe : p < l.length
                    · have HE := hide ((finL_end (l := l) (p := p) HI.out HRs.out).2.1 hno hpe)
                      have hpe' : (0 : Int) < ((l.length - p : Nat) : Int) := by omega
                      clear hno
                      go_wp2_with fail
                      go_ret2
                      rw [HFin.out, HE.out]
                      exact ⟨none, 0, rfl, World.ownsRow_nil _ _ _ _, hbV⟩
                    · have HE := hide ((finL_end (l := l) (p := p) HI.out HRs.out).2.2 hno hpe)
                      have hpe' : ¬ (0 : Int) < ((l.length - p : Nat) : Int) := by omega
                      clear hno
                      go_wp2_with fail
                      go_ret2
                      rw [HFin.out, HE.out]
                      exact ⟨Ao, co, rfl, own_below HO.out (hb4.trans (hb5.mono hb4.size)), hbV⟩
end Go.Proofs.YtagdjoabpkmomaaDoor
