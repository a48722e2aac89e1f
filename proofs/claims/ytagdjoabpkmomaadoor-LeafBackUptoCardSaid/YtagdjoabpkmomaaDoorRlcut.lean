/-
  The walk of the reference's Cut of a chunk.
-/
import Derived.Test.YtagdjoabpkmomaaDoorLcut
import Derived.Test.YtagdjoabpkmomaaDoorRcutv
namespace Go.Proofs.YtagdjoabpkmomaaDoor
open Go.RowKit
set_option maxRecDepth 100000
set_option linter.unusedSimpArgs false
set_option linter.unusedVariables false
attribute [local go_sem ↓] Go.wp_at_zero Go.wp_at_succ

/-- what the reference does with a version that is too great -/
def refG (x : Item) : Item := if 2147483647 < x.ver then { x with ver := -1 } else x
noncomputable def cutR : Bytes → List Item × Nat
  | [] => ([], 2)
  | t :: r => finL (t :: r) (stC refG (t :: r) t.toNat)

theorem cutI_at (l : Bytes) (p : Nat) : cutI (l.drop p) =
    if (CutText (l.drop p)).2.2 ≠ 0 then ⟨Item.zero, 0, (CutText (l.drop p)).2.2⟩
    else if (cutV (l.drop (p + (CutText (l.drop p)).2.1))).e ≠ 0 then ⟨Item.zero, 0, (cutV (l.drop (p + (CutText (l.drop p)).2.1))).e⟩
    else if (cut (l.drop (p + (CutText (l.drop p)).2.1 + (cutV (l.drop (p + (CutText (l.drop p)).2.1))).n))).2.2 ≠ 0 then ⟨Item.zero, 0, (cut (l.drop (p + (CutText (l.drop p)).2.1 + (cutV (l.drop (p + (CutText (l.drop p)).2.1))).n))).2.2⟩
    else ⟨⟨(CutText (l.drop p)).1, (cutV (l.drop (p + (CutText (l.drop p)).2.1))).kind, (cutV (l.drop (p + (CutText (l.drop p)).2.1))).i, (cutV (l.drop (p + (CutText (l.drop p)).2.1))).s, clampV (cut (l.drop (p + (CutText (l.drop p)).2.1 + (cutV (l.drop (p + (CutText (l.drop p)).2.1))).n))).1⟩,
      (CutText (l.drop p)).2.1 + (cutV (l.drop (p + (CutText (l.drop p)).2.1))).n + (cut (l.drop (p + (CutText (l.drop p)).2.1 + (cutV (l.drop (p + (CutText (l.drop p)).2.1))).n))).2.1, 0⟩ := by
  simp only [cutI, List.drop_drop, Nat.add_assoc]
theorem finL_bad {g : Item → Item} {l : Bytes} {T k : Nat} {m : List Item} {p e : Nat} (hst : stC g l k = (m, p, 0)) (he : (cutI (l.drop p)).e = e) (hne : e ≠ 0) (hk : k < T) : finL l (stC g l T) = ([], e) := by
  have e1 : (stC g l (k + 1)).2.2 = e := by
    have := stC_bad (g := g) (l := l) (k := k) (by rw [hst]) (by rw [hst]; simpa [he] using hne)
    rw [hst] at this; simpa [he] using this
  have e2 := stC_stay (g := g) (l := l) (k := k + 1) (by rw [e1]; exact hne) (T - (k + 1))
  rw [show k + 1 + (T - (k + 1)) = T from by omega] at e2
  rw [e2]; unfold finL; rw [e1, if_pos hne]
theorem stC_on {g : Item → Item} {l : Bytes} {k : Nat} {m : List Item} {p : Nat} {x : Item} {n : Nat} (hst : stC g l k = (m, p, 0)) (hx : cutI (l.drop p) = ⟨x, n, 0⟩) : stC g l (k + 1) = (m ++ [g x], p + n, 0) := by
  have := stC_ok (g := g) (l := l) (k := k) (by rw [hst]) (by rw [hst]; simp [hx])
  rw [hst] at this; simpa [hx] using this
theorem cutText_key (l : Bytes) : (CutText l).1.length ≤ l.length := by
  unfold CutText
  repeat' split
  all_goals simp
  all_goals omega
theorem cutI_key (l : Bytes) : (cutI l).x.key.length ≤ l.length := by
  have := cutText_key l
  simp only [cutI]
  repeat' split
  all_goals first | exact this | simp [Item.zero]
theorem refG_key (x : Item) : (refG x).key = x.key := by unfold refG; split <;> rfl
theorem stC_keys {g : Item → Item} (hg : ∀ x, (g x).key = x.key) (l : Bytes) : ∀ k, ∀ x ∈ (stC g l k).1, x.key.length ≤ l.length
  | 0, x, hx => by simp [stC] at hx
  | k + 1, x, hx => by
    have ih := stC_keys hg l k
    unfold stC at hx
    split at hx
    · exact ih x hx
    · split at hx
      · exact ih x hx
      · simp only [List.mem_append, List.mem_singleton] at hx
        rcases hx with hx | rfl
        · exact ih x hx
        · rw [hg]; have := cutI_key (l.drop (stC g l k).2.1); rw [List.length_drop] at this; omega
theorem stC_n {g : Item → Item} {l : Bytes} {k : Nat} {m : List Item} {p : Nat} (h : stC g l k = (m, p, 0)) : m.length ≤ k := by have := stC_len (g := g) (l := l) k; rw [h] at this; exact this

set_option maxHeartbeats 8000000 in
theorem rlcut_any (l : Bytes) (w : World) (hl : l.length ≤ 34359738368) :
    Calls Tryd.prog 32 #[.string ⟨l.toArray⟩] w (FsErr w (cutR l)) := by
  by_cases hz : l.length = 0
  · have hre : l = [] := List.length_eq_zero_iff.1 hz
    subst hre
    go_enter Tryd.func32, Tryd.ntmps32
    go_wp2_with fail
    go_ret2
    exact ⟨_, _, rfl, World.ownsRow_nil _ _ _ _, Below.refl _ _⟩
  · have hpos : 0 < l.length := by omega
    have hzi : (l == ([] : Bytes)) = false := by cases l with | nil => simp at hpos | cons x y => rfl
    obtain ⟨t, ht⟩ : ∃ t, t = l[0] := ⟨_, rfl⟩
    have HR := hide (show cutR l = finL l (stC refG l t.toNat) from by subst ht; cases l with | nil => simp at hpos | cons x y => rfl)
    have hix : ∀ h, ((⟨l.toArray⟩ : ByteArray)[0]'h) = t := by subst ht; cases l with | nil => simp at hpos | cons x y => exact fun _ => rfl
    have ht8 : t.toNat < 256 := t.toNat_lt
    have HKY := hide (stC_keys refG_key l)
    have HLE := hide (fun k => stC_le (g := refG) hpos k)
    have HT := hide ht
    clear ht hz
    go_enter Tryd.func32, Tryd.ntmps32
    go_wp2_with fail
    go_loopw [4, 5, 6] (fun o a i wr => ∃ (k p : Nat) (m : List Item) (Ao : Option Addr) (co : Nat), i = .int .i64 k ∧ k ≤ t.toNat ∧ stC refG l k = (m, p, 0) ∧ o = .slice Ao m.length co ∧ a = .int .i64 p ∧ p ≤ l.length ∧ wr.ownsRow w.heap.size 32 5 (.slice Ao m.length co) m.length (m.flatMap Item.cells) ∧ Below w.heap.size w wr) (fun _ _ i _ => t.toNat - (intOf i).toNat)
    case atStart => exact ⟨0, 1, [], none, 0, rfl, Nat.zero_le _, rfl, rfl, rfl, hpos, World.ownsRow_nil _ _ _ _, Below.refl _ _⟩
    case round =>
      obtain ⟨k, p, m, Ao, co, rfl, hk, hst, rfl, rfl, hpl, hown, hbel⟩ := hrel
      have hmk := stC_n hst
      have HO := hide hown; have HST := hide hst
      clear hown hst
      by_cases hlt : k < t.toNat
      · have hlt' : (k : Int) < t.toNat := by omega
        have hcp := fun w => run_strCutL Tryd.underlying9 l p hpl (p : Int) rfl w
        have HC1 := hide (fun w => rcuttext_any (l.drop p) w (by simp; omega))
        have HCI := hide (cutI_at l p)
        have han := cutText_n (l.drop p)
        rw [List.length_drop] at han
        generalize CutText (l.drop p) = a at HC1 HCI han
        obtain ⟨an, aN, ae⟩ := a
        simp only at han HC1 HCI
        by_cases ha : ae = 0
        · have ha' : ((ae : Int) != 0) = false := by rw [ha]; rfl
          have hcp2 := fun w => run_strCutL Tryd.underlying9 l (p + aN) (by omega) ((p : Int) + (aN : Int)) (by omega) w
          have HC2 := hide (fun w => rcutv_any (l.drop (p + aN)) w (by simp; omega))
          have hvn := cutV_n (l.drop (p + aN))
          rw [List.length_drop] at hvn
          generalize cutV (l.drop (p + aN)) = V at HC2 hvn HCI
          obtain ⟨vk, vi, vs, vn, ve⟩ := V
          simp only at hvn HC2 HCI
          by_cases hv : ve = 0
          · have hv' : ((ve : Int) != 0) = false := by rw [hv]; rfl
            have hcp3 := fun w => run_strCutL Tryd.underlying9 l (p + aN + vn) (by omega) ((p : Int) + (aN : Int) + (vn : Int)) (by omega) w
            have HC3 := hide (fun w => rcut_any (l.drop (p + aN + vn)) w (by simp; omega))
            have hun := (cut_n (l.drop (p + aN + vn))).2.1
            have hul := cut_lt (l.drop (p + aN + vn))
            rw [List.length_drop] at hun
            generalize cut (l.drop (p + aN + vn)) = U at HC3 hun hul HCI
            obtain ⟨u1, un, ue⟩ := U
            simp only at hun hul HC3 HCI
            by_cases hu : ue = 0
            · have hu' : ((ue : Int) != 0) = false := by rw [hu]; rfl
              by_cases hbig : u1 ≤ 2147483647
              · have hbi : (u1 : Int) ≤ 2147483647 := by omega
                have HF2 := hide (show stC refG l (k + 1) = (m ++ [⟨an, vk, vi, vs, (u1 : Int)⟩], p + aN + vn + un, 0) from by
                  have := stC_on HST.out (x := ⟨an, vk, vi, vs, (u1 : Int)⟩) (n := aN + vn + un) (by rw [HCI.out]; simp [ha, hv, hu, show clampV u1 = u1 from if_neg (by omega)])
                  rw [this]; simp [refG, Nat.add_assoc]; omega)
                clear ha hv hu hbig
                go_wp2_with (first
                  | (at_builtin; refine wpList_appE ((w2.alloc (.cells #[.int .i64 vk, .int .i64 vi, .string ⟨vs.toArray⟩] 30)).alloc (.cells #[.string ⟨an.toArray⟩, .int .i64 vk, .int .i64 vi, .string ⟨vs.toArray⟩, .int .i64 u1] 32)) rfl (.tmp 74) (.tmp 76) _ rfl w w.heap.size 32 32 _ 5 56 Tryd.underlying22 info_item rfl (by omega) (by omega) _ m.length _ #[.string ⟨an.toArray⟩, .int .i64 vk, .int .i64 vi, .string ⟨vs.toArray⟩, .int .i64 u1] (by rfl) (w2.heap.size + 2) (by simp) (by rfl) rfl (item_one _ _ _ _ _) (((own_below HO.out hb2).alloc _).alloc _) (((hbel.trans (hb2.mono hbel.size)).alloc (Nat.le_trans hbel.size hb2.size) _).alloc (by have := hbel.size; have := hb2.size; simp; omega) _) (by have := hbel.size; have := hb2.size; simp; omega) (by omega) ?_; intro g cap w4 hown4 hb4)
                  | (go_at_call 54; refine (HC3.out _).mono ?_; rintro e w' ⟨rfl, rfl⟩)
                  | (go_at_call 53; refine (HC2.out _).mono ?_; rintro e w2 ⟨rfl, hb2⟩; obtain ⟨hc2, hf2⟩ := bcell hb2)
                  | (go_at_call 52; refine (HC1.out _).mono ?_; rintro e w' ⟨rfl, rfl⟩))
                refine ⟨⟨k + 1, p + aN + vn + un, m ++ [⟨an, vk, vi, vs, (u1 : Int)⟩], some ⟨g, 0, none⟩, cap, by go_num, by omega, HF2.out, by rw [List.length_append]; rfl, by go_num, by omega, ?_, hb4⟩, by simp [intOf]; omega⟩
                rw [List.length_append, cells_snoc]; exact hown4
              · have hbi : ¬ (u1 : Int) ≤ 2147483647 := by omega
                have HF2 := hide (show stC refG l (k + 1) = (m ++ [⟨an, vk, vi, vs, -1⟩], p + aN + vn + un, 0) from by
                  have := stC_on HST.out (x := ⟨an, vk, vi, vs, ((2147483648 : Nat) : Int)⟩) (n := aN + vn + un) (by rw [HCI.out]; simp [ha, hv, hu, show clampV u1 = 2147483648 from if_pos (by omega)])
                  rw [this]; simp [refG, Nat.add_assoc])
                clear ha hv hu hbig
                go_wp2_with (first
                  | (at_builtin; refine wpList_appE ((w2.alloc (.cells #[.int .i64 vk, .int .i64 vi, .string ⟨vs.toArray⟩] 30)).alloc (.cells #[.string ⟨an.toArray⟩, .int .i64 vk, .int .i64 vi, .string ⟨vs.toArray⟩, .int .i64 (-1)] 32)) rfl (.tmp 74) (.tmp 76) _ rfl w w.heap.size 32 32 _ 5 56 Tryd.underlying22 info_item rfl (by omega) (by omega) _ m.length _ #[.string ⟨an.toArray⟩, .int .i64 vk, .int .i64 vi, .string ⟨vs.toArray⟩, .int .i64 (-1)] (by rfl) (w2.heap.size + 2) (by simp) (by rfl) rfl (item_one _ _ _ _ _) (((own_below HO.out hb2).alloc _).alloc _) (((hbel.trans (hb2.mono hbel.size)).alloc (Nat.le_trans hbel.size hb2.size) _).alloc (by have := hbel.size; have := hb2.size; simp; omega) _) (by have := hbel.size; have := hb2.size; simp; omega) (by omega) ?_; intro g cap w4 hown4 hb4)
                  | (go_at_call 54; refine (HC3.out _).mono ?_; rintro e w' ⟨rfl, rfl⟩)
                  | (go_at_call 53; refine (HC2.out _).mono ?_; rintro e w2 ⟨rfl, hb2⟩; obtain ⟨hc2, hf2⟩ := bcell hb2)
                  | (go_at_call 52; refine (HC1.out _).mono ?_; rintro e w' ⟨rfl, rfl⟩))
                refine ⟨⟨k + 1, p + aN + vn + un, m ++ [⟨an, vk, vi, vs, -1⟩], some ⟨g, 0, none⟩, cap, by go_num, by omega, HF2.out, by rw [List.length_append]; rfl, by go_num, by omega, ?_, hb4⟩, by simp [intOf]; omega⟩
                rw [List.length_append, cells_snoc]; exact hown4
            · have hu' : ((ue : Int) != 0) = true := by rw [bne_iff_ne]; omega
              have HF2 := hide (show cutR l = ([], ue) from by rw [HR.out]; exact finL_bad HST.out (by rw [HCI.out]; simp [ha, hv, hu]) hu hlt)
              clear ha hv hu
              go_wp2_with (first
                | (go_at_call 54; refine (HC3.out _).mono ?_; rintro e w' ⟨rfl, rfl⟩)
                | (go_at_call 53; refine (HC2.out _).mono ?_; rintro e w2 ⟨rfl, hb2⟩; obtain ⟨hc2, hf2⟩ := bcell hb2)
                | (go_at_call 52; refine (HC1.out _).mono ?_; rintro e w' ⟨rfl, rfl⟩))
              go_ret2
              rw [HF2.out]
              exact ⟨none, 0, rfl, World.ownsRow_nil _ _ _ _, (hbel.trans (hb2.mono hbel.size)).alloc (Nat.le_trans hbel.size hb2.size) _⟩
          · have hv' : ((ve : Int) != 0) = true := by rw [bne_iff_ne]; omega
            have HF2 := hide (show cutR l = ([], ve) from by rw [HR.out]; exact finL_bad HST.out (by rw [HCI.out]; simp [ha, hv]) hv hlt)
            clear ha hv
            go_wp2_with (first
              | (go_at_call 53; refine (HC2.out _).mono ?_; rintro e w2 ⟨rfl, hb2⟩; obtain ⟨hc2, hf2⟩ := bcell hb2)
              | (go_at_call 52; refine (HC1.out _).mono ?_; rintro e w' ⟨rfl, rfl⟩))
            go_ret2
            rw [HF2.out]
            exact ⟨none, 0, rfl, World.ownsRow_nil _ _ _ _, (hbel.trans (hb2.mono hbel.size)).alloc (Nat.le_trans hbel.size hb2.size) _⟩
        · have ha' : ((ae : Int) != 0) = true := by rw [bne_iff_ne]; omega
          have HF2 := hide (show cutR l = ([], ae) from by rw [HR.out]; exact finL_bad HST.out (by rw [HCI.out]; simp [ha]) ha hlt)
          clear ha
          go_wp2_with (go_at_call 52; refine (HC1.out _).mono ?_; rintro e w' ⟨rfl, rfl⟩)
          go_ret2
          rw [HF2.out]
          exact ⟨none, 0, rfl, World.ownsRow_nil _ _ _ _, hbel⟩
      · have hkt : k = t.toNat := by omega
        rename World => w3
        have HFin := hide (show cutR l = finL l (m, p, 0) from by rw [HR.out, ← hkt, HST.out])
        have hlt' : ¬ (k : Int) < t.toNat := by omega
        have HK := hide (show ∀ x ∈ m, x.key.length ≤ maxLen from fun x hx => by
          have := HKY.out k x (by rw [HST.out]; exact hx)
          unfold maxLen; omega)
        have hm255 : m.length ≤ 255 := by omega
        clear hkt
        have HFs := hide (show Fs Item.cells 5 w3 Ao m from Fs.of_own rfl HO.out)
        go_wp2_with fail
        go_loopw [13] (fun i w4 => ∃ j : Nat, j ≤ m.length ∧ i = .int .i64 j ∧ (∀ x ∈ m.take j, itemB x = true) ∧ Below w3.heap.size w3 w4) (fun i _ => m.length - (intOf i).toNat)
        case atStart => exact ⟨0, Nat.zero_le _, rfl, by simp, Below.refl _ _⟩
        case round =>
          rename World => w4
          obtain ⟨j, hj, rfl, hall, hb4⟩ := hrel
          have HA := hide hall; clear hall
          have hbW : Below w.heap.size w w4 := hbel.trans (hb4.mono hbel.size)
          by_cases hlt2 : j < m.length
          · have hlt2' : (j : Int) < m.length := by omega
            obtain ⟨b2, off2, rfl, hbl2, hcell2⟩ := HFs.out.cell (fun _ => rfl) (by omega)
            obtain ⟨c0, c1, c2, c3, c4⟩ := five hcell2 hb4 hbl2 hlt2
            have hkl := HK.out m[j] (List.getElem_mem hlt2)
            cases hi : itemB m[j] with
            | false =>
              have HE := hide (finL_item (l := l) (p := p) j hlt2 hi)
              generalize hx : m[j] = x at c0 c1 c2 c3 c4 hi hkl
              obtain ⟨key, kind, i, s, ver⟩ := x
              have HX := hide hx; clear hx hcell2
              go_wp2_with (go_at_call 24; refine (rmay_any key kind i s ver _ hkl).mono ?_; rintro e w5 ⟨rfl, hb⟩; obtain ⟨hc, hf⟩ := bcell hb)
              go_ret2
              rw [HFin.out, HE.out]
              exact ⟨none, 0, rfl, World.ownsRow_nil _ _ _ _, hbW.trans (hb.mono hbW.size)⟩
            | true =>
              have HN := hide (take_all_succ (p := fun x => itemB x = true) hlt2 HA.out hi)
              generalize hx : m[j] = x at c0 c1 c2 c3 c4 hi hkl
              obtain ⟨key, kind, i, s, ver⟩ := x
              have HX := hide hx; clear hx hcell2
              go_wp2_with (go_at_call 24; refine (rmay_any key kind i s ver _ hkl).mono ?_; rintro e w5 ⟨rfl, hb⟩; obtain ⟨hc, hf⟩ := bcell hb)
              clear hc hf
              exact ⟨⟨j + 1, by omega, by go_num, HN.out, hb4.trans (hb.mono hb4.size)⟩, by simp [intOf]; omega⟩
          · have hje : j = m.length := by omega
            have hlt2' : ¬ (j : Int) < m.length := by omega
            have HI := hide (show ∀ x ∈ m, itemB x = true from by have := HA.out; rwa [hje, List.take_length] at this)
            clear hje
            have HFs4 := hide (HFs.out.below hb4)
            go_wp2_with fail
            go_loopw [14] (fun i w5 => ∃ q : Nat, 1 ≤ q ∧ (q ≤ m.length ∨ q = 1) ∧ i = .int .i64 q ∧ (∀ i (h : i + 1 < m.length), i + 1 < q → less m[i].key m[i + 1].key = true) ∧ Below w4.heap.size w4 w5) (fun i _ => m.length - (intOf i).toNat)
            case atStart => exact ⟨1, Nat.le_refl _, .inr rfl, rfl, fun _ _ h => absurd h (by omega), Below.refl _ _⟩
            case round =>
              rename World => w5
              obtain ⟨q, hq0, hq, rfl, hris, hb5⟩ := hrel
              have HRi := hide hris; clear hris
              have hbV : Below w.heap.size w w5 := hbW.trans (hb5.mono hbW.size)
              by_cases hlt3 : q < m.length
              · have hlt3' : (q : Int) < m.length := by omega
                obtain ⟨b3, off3, rfl, hbl3, hcell3⟩ := HFs4.out.cell (fun _ => rfl) (by omega)
                obtain ⟨c0, c1, c2, c3, c4⟩ := five hcell3 hb5 hbl3 hlt3
                obtain ⟨d0, d1, d2, d3, d4⟩ := five hcell3 hb5 hbl3 (k := q - 1) (by omega)
                have hkl := HK.out m[q] (List.getElem_mem hlt3)
                have hpl2 := HK.out (m[q - 1]'(by omega)) (List.getElem_mem _)
                have kiy := fun w => run_elemAddr Tryd.underlying22 size_item b3 off3 m.length co q hlt3 (q : Int) rfl w
                have kix := fun w => run_elemAddr Tryd.underlying22 size_item b3 off3 m.length co (q - 1) (by omega) ((q : Int) - 1) (by omega) w
                clear c1 c2 c3 c4 d1 d2 d3 d4 hcell3 hq
                cases hp : less (m[q - 1]'(by omega)).key m[q].key with
                | false =>
                  have HE := hide (finL_rise (l := l) (p := p) HI.out q hq0 hlt3 hp)
                  generalize m[q - 1].key = pkey at d0 hp hpl2
                  generalize m[q].key = key at c0 hp hkl
                  go_wp2_with fail
                  have ka : IntKind.i64.wrap ((q : Int) - 1) = (q : Int) - 1 := IntWalk.i64_in _ (by omega)
                  go_quiet ((go_at_call 36; first | exact quiet_drew (rahead_any _ _ _ hpl2 hkl) | exact quiet_drew_add (rahead_any _ _ _ hpl2 hkl)))
                  clear ka
                  go_wp2_with fail
                  go_ret2
                  rw [HFin.out, HE.out]
                  exact ⟨none, 0, rfl, World.ownsRow_nil _ _ _ _, below_drewN hbV _⟩
                | true =>
                  have HN := hide (rise_on hq0 hlt3 hp HRi.out)
                  generalize m[q - 1].key = pkey at d0 hp hpl2
                  generalize m[q].key = key at c0 hp hkl
                  go_wp2_with fail
                  have ka : IntKind.i64.wrap ((q : Int) - 1) = (q : Int) - 1 := IntWalk.i64_in _ (by omega)
                  go_quiet ((go_at_call 36; first | exact quiet_drew (rahead_any _ _ _ hpl2 hkl) | exact quiet_drew_add (rahead_any _ _ _ hpl2 hkl)))
                  clear ka
                  go_wp2_with fail
                  exact ⟨⟨q + 1, by omega, .inl (by omega), by go_num, HN.out, below_drewN hb5 _⟩, by simp [intOf]; omega⟩
              · have hlt3' : ¬ (q : Int) < m.length := by omega
                have HRs := hide (show Rising m from fun i h => HRi.out i h (by omega))
                clear hq
                by_cases hm0 : m.length = 0
                · have HE := hide ((finL_end (l := l) (p := p) HI.out HRs.out).1 (.inl hm0))
                  have hm0' : (m.length : Int) < 1 := by omega
                  go_wp2_with fail
                  go_ret2
                  rw [HFin.out, HE.out]
                  exact ⟨none, 0, rfl, World.ownsRow_nil _ _ _ _, hbV⟩
                · have hm0' : ¬ (m.length : Int) < 1 := by omega
                  by_cases hm8 : 8 < m.length
                  · have HE := hide ((finL_end (l := l) (p := p) HI.out HRs.out).1 (.inr hm8))
                    have hm8' : (8 : Int) < m.length := by omega
                    go_wp2_with fail
                    go_ret2
                    rw [HFin.out, HE.out]
                    exact ⟨none, 0, rfl, World.ownsRow_nil _ _ _ _, hbV⟩
                  · have hm8' : ¬ (8 : Int) < m.length := by omega
                    have hno : ¬ (m.length = 0 ∨ 8 < m.length) := by omega
                    by_cases hpe : p < l.length
                    · have HE := hide ((finL_end (l := l) (p := p) HI.out HRs.out).2.1 hno hpe)
                      have hpe' : (p : Int) < l.length := by omega
                      clear hno
                      go_wp2_with fail
                      go_ret2
                      rw [HFin.out, HE.out]
                      exact ⟨none, 0, rfl, World.ownsRow_nil _ _ _ _, hbV⟩
                    · have HE := hide ((finL_end (l := l) (p := p) HI.out HRs.out).2.2 hno hpe)
                      have hpe' : ¬ (p : Int) < l.length := by omega
                      clear hno
                      go_wp2_with fail
                      go_ret2
                      rw [HFin.out, HE.out]
                      exact ⟨Ao, co, rfl, own_below HO.out (hb4.trans (hb5.mono hb4.size)), hbV⟩
end Go.Proofs.YtagdjoabpkmomaaDoor
