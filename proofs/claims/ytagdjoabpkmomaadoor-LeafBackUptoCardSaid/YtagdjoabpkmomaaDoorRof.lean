/-
  The walk of the reference's Of.
-/
import Derived.Test.YtagdjoabpkmomaaDoorOf
import Derived.Test.YtagdjoabpkmomaaDoorRlcut
namespace Go.Proofs.YtagdjoabpkmomaaDoor
open Go.RowKit
set_option maxRecDepth 100000
set_option linter.unusedSimpArgs false
set_option linter.unusedVariables false
attribute [local go_sem ↓] Go.wp_at_zero Go.wp_at_succ

theorem stC_full {g : Item → Item} {l : Bytes} : ∀ k, (stC g l k).2.2 = 0 → (stC g l k).1.length = k
  | 0, _ => rfl
  | k + 1, h => by
    have ih := stC_full (g := g) (l := l) k
    unfold stC at h ⊢
    split at h
    · rename_i hne; exact absurd h hne
    · rename_i h0
      simp only [Decidable.not_not] at h0
      rw [if_neg (by omega)]
      split at h
      · rename_i hne; exact absurd h hne
      · rename_i hne
        rw [if_neg hne]
        simp only [List.length_append, List.length_singleton]
        rw [ih h0]
theorem finL_ok {l : Bytes} {s : List Item × Nat × Nat} (h : (finL l s).2 = 0) : s.2.2 = 0 ∧ (finL l s).1 = s.1 := by
  unfold finL at h ⊢
  repeat' split at h
  all_goals first | (simp at h; done) | skip
  · rename_i hne; exact absurd h hne
  · rename_i h0 h1 h2 h3 h4
    simp only [Decidable.not_not] at h0
    rw [if_neg (by omega), if_neg h1, if_neg h2, if_neg h3, if_neg h4]
    exact ⟨h0, rfl⟩
theorem finL_sub {l : Bytes} {s : List Item × Nat × Nat} : (finL l s).1 = [] ∨ (finL l s).1 = s.1 := by
  unfold finL
  repeat' split
  all_goals simp
theorem cutR_len (l : Bytes) : (cutR l).1.length ≤ 8 := by
  cases l with
  | nil => simp [cutR]
  | cons t r => exact finL_len _ _
theorem cutR_head {l : Bytes} (h : (cutR l).2 = 0) : ∃ t r, l = t :: r ∧ (cutR l).1.length = t.toNat := by
  cases l with
  | nil => simp [cutR] at h
  | cons t r =>
    obtain ⟨h1, h2⟩ := finL_ok (show (finL (t :: r) (stC refG (t :: r) t.toNat)).2 = 0 from h)
    exact ⟨t, r, rfl, by show (finL (t :: r) (stC refG (t :: r) t.toNat)).1.length = _; rw [h2]; exact stC_full _ h1⟩
theorem cutR_keys (l : Bytes) : ∀ x ∈ (cutR l).1, x.key.length ≤ l.length := by
  cases l with
  | nil => simp [cutR]
  | cons t r =>
    intro x hx
    have hx' : x ∈ (finL (t :: r) (stC refG (t :: r) t.toNat)).1 := hx
    rcases finL_sub (l := t :: r) (s := stC refG (t :: r) t.toNat) with h | h
    · rw [h] at hx'; simp at hx'
    · rw [h] at hx'; exact stC_keys refG_key _ _ x hx'

/-- the first short chunk, ahead of place k -/
def ShortOK (cs : List Bytes) (k : Nat) (short : Int) : Prop :=
  (short < 0 ∧ ∀ i (h : i < cs.length), i < k → i + 1 < cs.length → ¬ (cutR cs[i]).1.length < 8) ∨
  ∃ s : Nat, short = s ∧ s < k ∧ s + 1 < cs.length ∧ (∃ h : s < cs.length, (cutR cs[s]).1.length < 8) ∧ ∀ i (h : i < cs.length), i < s → ¬ (cutR cs[i]).1.length < 8
theorem short_zero (cs : List Bytes) : ShortOK cs 0 (-1) := .inl ⟨by omega, fun _ _ h => absurd h (by omega)⟩
theorem short_new {cs : List Bytes} {k : Nat} {short : Int} (hk : k < cs.length) (h : ShortOK cs k short) (h8 : (cutR cs[k]).1.length < 8) (hn : k + 1 < cs.length) (hs : short < 0) : ShortOK cs (k + 1) k := by
  rcases h with ⟨_, h⟩ | ⟨s, rfl, _⟩
  · exact .inr ⟨k, rfl, by omega, hn, ⟨hk, h8⟩, fun i hi hlt => h i hi hlt (by omega)⟩
  · omega
theorem short_old {cs : List Bytes} {k : Nat} {short : Int} (hk : k < cs.length) (h : ShortOK cs k short) (hn : ¬ ((cutR cs[k]).1.length < 8 ∧ k + 1 < cs.length ∧ short < 0)) : ShortOK cs (k + 1) short := by
  rcases h with ⟨h0, h⟩ | ⟨s, rfl, h1, h2⟩
  · refine .inl ⟨h0, fun i hi hlt h2 => ?_⟩
    by_cases hik : i < k
    · exact h i hi hik h2
    · have : i = k := by omega
      subst this
      exact fun h8 => hn ⟨h8, h2, h0⟩
  · exact .inr ⟨s, rfl, by omega, h2⟩
theorem short_is {cs : List Bytes} {short : Int} {q : Nat} (h : ShortOK cs cs.length short) (hq : q + 1 < cs.length) (h8 : (cutR (cs[q]'(by omega))).1.length < 8) (hall : ∀ i (h : i < cs.length), i < q → ¬ (cutR cs[i]).1.length < 8) : short = q := by
  rcases h with ⟨_, h⟩ | ⟨s, rfl, h1, h2, ⟨h3, h4⟩, h5⟩
  · exact absurd h8 (h q (by omega) (by omega) hq)
  · rcases Nat.lt_trichotomy s q with h6 | h6 | h6
    · exact absurd h4 (hall s h3 h6)
    · rw [h6]
    · exact absurd h8 (h5 q (by omega) h6)
theorem short_none {cs : List Bytes} {short : Int} (h : ShortOK cs cs.length short) (hall : ∀ i (h : i < cs.length), i + 1 < cs.length → ¬ (cutR cs[i]).1.length < 8) : ¬ 0 ≤ short := by
  rcases h with ⟨h0, _⟩ | ⟨s, rfl, h1, h2, ⟨h3, h4⟩, h5⟩
  · omega
  · exact absurd h4 (hall s h3 h2)

set_option maxHeartbeats 8000000 in
theorem rof_any (A : Option Addr) (cs : List Bytes) (c : Nat) (w : World) (hF : Ss w A cs) (hn : cs.length ≤ 4294967295) (hl : ∀ x ∈ cs, x.length ≤ 34359738368) :
    Calls Tryd.prog 34 #[.slice A cs.length c] w (FsErr2 w (ofP cutR cs)) := by
  have HF := hide hF; have HL := hide hl
  clear hF hl
  go_enter Tryd.func34, Tryd.ntmps34
  go_wp2_with fail
  go_loopw [5, 6] (fun o i wr => ∃ (k : Nat) (out : List Item) (Ao : Option Addr) (co : Nat) (short : Int), i = .int .i64 k ∧ k ≤ cs.length ∧ o = .slice Ao out.length co ∧ ShortOK cs k short ∧ (∀ i (h : i < cs.length), i < k → (cutR cs[i]).2 = 0) ∧ (∀ x ∈ out, x.key.length ≤ maxLen) ∧ out.length ≤ 8 * k ∧ ofGo cutR cs.length k (cs.drop k) out short = ofP cutR cs ∧ wr.ownsRow w.heap.size 32 5 (.slice Ao out.length co) out.length (out.flatMap Item.cells) ∧ Below w.heap.size w wr) (fun _ i _ => cs.length - (intOf i).toNat)
  case atStart => exact ⟨0, [], none, 0, -1, rfl, Nat.zero_le _, rfl, short_zero cs, fun _ _ h => absurd h (by omega), by simp, Nat.zero_le _, rfl, World.ownsRow_nil _ _ _ _, Below.refl _ _⟩
  case round =>
    obtain ⟨k, out, Ao, co, short, rfl, hk, rfl, hsh, hzero, hkeys, ho8, hof, hown, hbel⟩ := hrel
    have HO := hide hown; have HOF := hide hof; have HSH := hide hsh; have HZ := hide hzero; have HK := hide hkeys
    clear hown hof hsh hzero hkeys
    by_cases hlt : k < cs.length
    · have hlt' : (k : Int) < cs.length := by omega
      obtain ⟨b, off, rfl, hbl, hcell⟩ := HF.out.cell (by omega)
      have c0 : wr.cell? ⟨b, off + k, none⟩ = some (.string ⟨cs[k].toArray⟩) := (hbel.cell (p := ⟨b, off + k, none⟩) hbl).trans (hcell k hlt)
      have HC := hide (show ∀ w', Calls Tryd.prog 32 #[.string ⟨cs[k].toArray⟩] w' (FsErr w' (cutR cs[k])) from fun w' => rlcut_any cs[k] w' (HL.out _ (List.getElem_mem hlt)))
      have hL8 := cutR_len cs[k]
      have HLK := hide (show ∀ x ∈ (cutR cs[k]).1, x.key.length ≤ maxLen from fun x hx => by
        have h1 := cutR_keys cs[k] x hx
        have h2 := HL.out _ (List.getElem_mem hlt)
        unfold maxLen; omega)
      clear hcell
      obtain ⟨L, hL⟩ : ∃ L, L = (cutR cs[k]).1 := ⟨_, rfl⟩
      obtain ⟨e, he⟩ : ∃ e, e = (cutR cs[k]).2 := ⟨_, rfl⟩
      have hLe : cutR cs[k] = (L, e) := by rw [hL, he]
      rw [hLe] at HC hL8 HLK
      have HLE := hide hLe
      clear hL he hLe
      simp only at hL8 HLK
      generalize hx : cs[k] = x at c0 HC
      have HX0 := hide hx; clear hx
      by_cases he0 : e = 0
      · subst he0
        have HN : Hid (∃ sh', ShortOK cs (k + 1) sh' ∧ ofGo cutR cs.length (k + 1) (cs.drop (k + 1)) (out ++ L) sh' = ofP cutR cs) := hide (by
          by_cases hc : L.length < 8 ∧ k + 1 < cs.length ∧ short < 0
          · exact ⟨k, short_new hlt HSH.out (by rw [HLE.out]; exact hc.1) hc.2.1 hc.2.2, (ofGo_new hlt HLE.out hc).symm.trans HOF.out⟩
          · exact ⟨short, short_old hlt HSH.out (by rw [HLE.out]; exact hc), (ofGo_old hlt HLE.out hc).symm.trans HOF.out⟩)
        have HZ2 := hide (show ∀ i (h : i < cs.length), i < k + 1 → (cutR cs[i]).2 = 0 from fun i hi hik => by
          by_cases h : i < k
          · exact HZ.out i hi h
          · have : i = k := by omega
            subst this; rw [HLE.out])
        go_wp2_with (first
          | (at_builtin; refine wpList_appAny _ rfl (.tmp 30) (.tmp 31) _ rfl w w.heap.size 32 _ 5 56 Tryd.underlying22 info_item rfl (by omega) (by omega) _ out.length _ (by rfl) HO2.out HB2.out _ L.length _ _ (by rfl) HX.out (cells_one _) (by omega) HB2.out.size ?_; intro A4 c4 w4 hown4 hb4)
          | (go_at_call 32; refine (HC.out _).mono ?_; rintro e w2 ⟨A2, c2, rfl, hown2, hb2⟩; have HX := hide (Fs.of_own rfl hown2); have HB2 := hide (hbel.trans (hb2.mono hbel.size)); have HO2 := hide (own_below HO.out hb2); clear hown2 hb2))
        obtain ⟨sh', hs1, hs2⟩ := HN.out
        refine ⟨⟨k + 1, out ++ L, A4, c4, sh', by go_num, by omega, by rw [List.length_append], hs1, HZ2.out, fun x hx => (List.mem_append.1 hx).elim (HK.out x) (HLK.out x), by rw [List.length_append]; omega, hs2, ?_, hb4⟩, by simp [intOf]; omega⟩
        rw [List.length_append, List.flatMap_append]; exact hown4
      · have he' : ((e : Int) != 0) = true := by rw [bne_iff_ne]; omega
        have HF2 := hide (HOF.out.symm.trans (ofGo_bad hlt HLE.out he0))
        go_wp2_with (go_at_call 32; refine (HC.out _).mono ?_; rintro e w2 ⟨A2, c2, rfl, hown2, hb2⟩; have HX := hide (Fs.of_own rfl hown2); have HB2 := hide (hbel.trans (hb2.mono hbel.size)); have HO2 := hide (own_below HO.out hb2); clear hown2 hb2)
        go_ret3
        rw [HF2.out]
        exact ⟨none, 0, rfl, World.ownsRow_nil _ _ _ _, HB2.out⟩
    · have hke : k = cs.length := by omega
      rename World => w3
      have hlt' : ¬ (k : Int) < cs.length := by omega
      have HOE := hide (show ofGo cutR cs.length k [] out short = ofP cutR cs from by have := HOF.out; rwa [List.drop_of_length_le (by omega)] at this)
      have HSE := hide (show ShortOK cs cs.length short from by have := HSH.out; rwa [hke] at this)
      have HZE := hide (show ∀ i (h : i < cs.length), (cutR cs[i]).2 = 0 from fun i hi => HZ.out i hi (by omega))
      clear hke
      go_wp2_with fail
      go_loopw [9] (fun i w4 => ∃ q : Nat, q ≤ cs.length ∧ i = .int .i64 q ∧ (∀ i (h : i < cs.length), i < q → ¬ (cutR cs[i]).1.length < 8) ∧ w4 = w3) (fun i _ => cs.length - (intOf i).toNat)
      case atStart => exact ⟨0, Nat.zero_le _, rfl, fun _ _ h => absurd h (by omega), rfl⟩
      case round =>
        obtain ⟨q, hq, rfl, hall, rfl⟩ := hrel
        have HA := hide hall; clear hall
        by_cases hq1 : q + 1 < cs.length
        · have hq1' : (q : Int) + 1 < cs.length := by omega
          have hqlt : q < cs.length := by omega
          obtain ⟨b, off, rfl, hbl, hcell⟩ := HF.out.cell (by omega)
          have c0 : wr.cell? ⟨b, off + q, none⟩ = some (.string ⟨cs[q].toArray⟩) := (hbel.cell (p := ⟨b, off + q, none⟩) hbl).trans (hcell q hqlt)
          obtain ⟨t, r, hx, hlen⟩ := cutR_head (HZE.out q hqlt)
          have h8 := cutR_len cs[q]
          clear hcell
          rw [hx] at c0
          have hix : ∀ h, ((⟨(t :: r).toArray⟩ : ByteArray)[0]'h) = t := fun _ => rfl
          by_cases ht8 : t.toNat = 8
          · have ht8' : ((t.toNat : Int) != 8) = false := by rw [ht8]; rfl
            have HN := hide (show ∀ i (h : i < cs.length), i < q + 1 → ¬ (cutR cs[i]).1.length < 8 from fun i hi hiq => by
              by_cases h : i < q
              · exact HA.out i hi h
              · have : i = q := by omega
                subst this; omega)
            have HX0 := hide hx
            clear hx hlen h8 ht8
            go_wp2_with fail
            exact ⟨⟨q + 1, by omega, by go_num, HN.out, trivial⟩, by simp [intOf]; omega⟩
          · have ht8' : ((t.toNat : Int) != 8) = true := by rw [bne_iff_ne]; omega
            have hse := short_is HSE.out hq1 (by omega) HA.out
            have HF2 := hide (show ofP cutR cs = ([], 3, q) from by rw [← HOE.out, ofGo_short (by omega), hse]; rfl)
            have HX0 := hide hx
            clear hx hlen h8 ht8 hse
            go_wp2_with fail
            go_ret3
            rw [HF2.out]
            exact ⟨none, 0, rfl, World.ownsRow_nil _ _ _ _, hbel⟩
        · have hq1' : ¬ (q : Int) + 1 < cs.length := by omega
          have hsh := short_none HSE.out (fun i hi hi1 => HA.out i hi (by omega))
          have HFo := hide (show Fs Item.cells 5 wr Ao out from Fs.of_own rfl HO.out)
          have HCK := hide (rcheck_any Ao out co wr HFo.out (by omega) HK.out)
          by_cases hce : (chk out).1 = 0
          · have HF2 := hide (HOE.out.symm.trans (ofGo_ok hsh hce))
            have hce' : (((chk out).1 : Int) != 0) = false := by rw [hce]; rfl
            clear hce hsh
            go_wp2_with (go_at_call 11; refine HCK.out.mono ?_; rintro e w2 ⟨rfl, hb2⟩)
            go_ret3
            rw [HF2.out]
            exact ⟨Ao, co, rfl, own_below HO.out hb2, hbel.trans (hb2.mono hbel.size)⟩
          · have HF2 := hide (HOE.out.symm.trans (ofGo_chk hsh hce))
            have hce' : (((chk out).1 : Int) != 0) = true := by rw [bne_iff_ne]; omega
            clear hce hsh
            go_wp2_with (go_at_call 11; refine HCK.out.mono ?_; rintro e w2 ⟨rfl, hb2⟩)
            go_ret3
            rw [HF2.out]
            exact ⟨none, 0, rfl, World.ownsRow_nil _ _ _ _, hbel.trans (hb2.mono hbel.size)⟩

/-- the two specs are one -/
theorem stC_ref (l : Bytes) : ∀ k, stC refG l k = ((stC id l k).1.map refG, (stC id l k).2.1, (stC id l k).2.2)
  | 0 => rfl
  | k + 1 => by
    have ih := stC_ref l k
    conv => lhs; unfold stC
    conv => rhs; unfold stC
    rw [ih]
    split
    · rfl
    · split
      · rfl
      · simp
theorem refG_ok {x : Item} (h : itemB x = true) : refG x = x := by
  obtain ⟨key, kind, i, s, ver⟩ := x
  rw [itemB_def] at h
  simp only [Bool.and_eq_true, decide_eq_true_eq] at h
  unfold refG
  rw [if_neg (by simp only; omega)]
theorem refG_bad {x : Item} (h : itemB x ≠ true) : itemB (refG x) ≠ true := by
  unfold refG
  split
  · obtain ⟨key, kind, i, s, ver⟩ := x
    rw [itemB_def]; simp
  · exact h
theorem finL_ref (l : Bytes) (m : List Item) (p e : Nat) : finL l (m.map refG, p, e) = finL l (m, p, e) := by
  by_cases hall : ∀ x ∈ m, itemB x = true
  · have h1 : m.map refG = m.map id := List.map_congr_left (fun x hx => refG_ok (hall x hx))
    rw [h1, List.map_id]
  · have hb : ¬ ∀ x ∈ m.map refG, itemB x = true := by
      intro h
      apply hall
      intro x hx
      by_cases hx2 : itemB x = true
      · exact hx2
      · exact absurd (h _ (List.mem_map_of_mem hx)) (refG_bad hx2)
    unfold finL
    by_cases he : e ≠ 0
    · rw [if_pos he, if_pos he]
    · rw [if_neg he, if_neg he, if_pos hb, if_pos hall]
theorem cut_same (l : Bytes) : cutR l = cutL l := by
  cases l with
  | nil => rfl
  | cons t r =>
    show finL (t :: r) (stC refG (t :: r) t.toNat) = finL (t :: r) (stC id (t :: r) t.toNat)
    rw [stC_ref, finL_ref]
theorem cutRL : cutR = cutL := funext cut_same
end Go.Proofs.YtagdjoabpkmomaaDoor
