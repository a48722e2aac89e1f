/-
  The walk of leaf.Of: the leaf of chunks.
-/
import Derived.Test.YtagdjoabpkmomaaDoorLcut
import Derived.Test.YtagdjoabpkmomaaDoorChunk
namespace Go.Proofs.YtagdjoabpkmomaaDoor
open Go.RowKit
set_option maxRecDepth 100000
set_option linter.unusedSimpArgs false
set_option linter.unusedVariables false
attribute [local go_sem ↓] Go.wp_at_zero Go.wp_at_succ

/-- a slice that reads as slices of bytes -/
def Bss (w : World) (A : Option Addr) (cs : List Bytes) : Prop :=
  ∃ vs, Rd w A 1 cs.length vs ∧ ∀ i (h : i < cs.length), ∃ Ai ci, vs[i]? = some (.slice Ai cs[i].length ci) ∧ Bs w Ai cs[i] ∧ cs[i].length ≤ ci ∧ ci ≤ maxLen
theorem Bss.below {w w' : World} {A : Option Addr} {cs : List Bytes} (h : Bss w A cs) (hb : Below w.heap.size w w') : Bss w' A cs := by
  obtain ⟨vs, hr, hv⟩ := h
  exact ⟨vs, hr.below hb, fun i hi => by obtain ⟨Ai, ci, h1, h2, h3, h4⟩ := hv i hi; exact ⟨Ai, ci, h1, h2.below hb, h3, h4⟩⟩
theorem Bss.cell {w : World} {A : Option Addr} {cs : List Bytes} (h : Bss w A cs) (hn : 0 < cs.length) :
    ∃ b off, A = some ⟨b, off, none⟩ ∧ b < w.heap.size ∧ ∀ i (hi : i < cs.length), ∃ Ai ci, w.cell? ⟨b, off + i, none⟩ = some (.slice Ai cs[i].length ci) ∧ Bs w Ai cs[i] ∧ cs[i].length ≤ ci ∧ ci ≤ maxLen := by
  obtain ⟨vs, hr, hv⟩ := h
  obtain ⟨b, off, e, hb, hc⟩ := hr.2 hn
  exact ⟨b, off, e, hb, fun i hi => by obtain ⟨Ai, ci, h1, h2, h3, h4⟩ := hv i hi; exact ⟨Ai, ci, hc i _ h1, h2, h3, h4⟩⟩

def ofGo (cutF : Bytes → List Item × Nat) (n : Nat) : Nat → List Bytes → List Item → Int → List Item × Nat × Nat
  | _, [], out, short => if 0 ≤ short then ([], 3, short.toNat) else if (chk out).1 ≠ 0 then ([], (chk out).1, n) else (out, 0, 0)
  | k, c :: cs, out, short => if (cutF c).2 ≠ 0 then ([], (cutF c).2, k) else ofGo cutF n (k + 1) cs (out ++ (cutF c).1) (if (cutF c).1.length < 8 ∧ k + 1 < n ∧ short < 0 then (k : Int) else short)
def ofP (cutF : Bytes → List Item × Nat) (cs : List Bytes) : List Item × Nat × Nat := ofGo cutF cs.length 0 cs [] (-1)
section
variable {cutF : Bytes → List Item × Nat} {n k : Nat} {cs : List Bytes} {out L : List Item} {short : Int} {e : Nat}
theorem ofGo_bad (hk : k < cs.length) (hc : cutF cs[k] = (L, e)) (he : e ≠ 0) : ofGo cutF n k (cs.drop k) out short = ([], e, k) := by
  rw [List.drop_eq_getElem_cons hk]; unfold ofGo; rw [hc]; rw [if_pos he]
theorem ofGo_new (hk : k < cs.length) (hc : cutF cs[k] = (L, 0)) (h : L.length < 8 ∧ k + 1 < n ∧ short < 0) : ofGo cutF n k (cs.drop k) out short = ofGo cutF n (k + 1) (cs.drop (k + 1)) (out ++ L) k := by
  rw [List.drop_eq_getElem_cons hk]; conv => lhs; unfold ofGo
  rw [hc]; rw [if_neg (by simp), if_pos h]
theorem ofGo_old (hk : k < cs.length) (hc : cutF cs[k] = (L, 0)) (h : ¬ (L.length < 8 ∧ k + 1 < n ∧ short < 0)) : ofGo cutF n k (cs.drop k) out short = ofGo cutF n (k + 1) (cs.drop (k + 1)) (out ++ L) short := by
  rw [List.drop_eq_getElem_cons hk]; conv => lhs; unfold ofGo
  rw [hc]; rw [if_neg (by simp), if_neg h]
theorem ofGo_short (h : 0 ≤ short) : ofGo cutF n k [] out short = ([], 3, short.toNat) := by unfold ofGo; rw [if_pos h]
theorem ofGo_chk (h : ¬ 0 ≤ short) (he : (chk out).1 ≠ 0) : ofGo cutF n k [] out short = ([], (chk out).1, n) := by unfold ofGo; rw [if_neg h, if_pos he]
theorem ofGo_ok (h : ¬ 0 ≤ short) (he : (chk out).1 = 0) : ofGo cutF n k [] out short = (out, 0, 0) := by unfold ofGo; rw [if_neg h, if_neg (by simpa using he)]
end
theorem finL_len (l : Bytes) (s : List Item × Nat × Nat) : (finL l s).1.length ≤ 8 := by
  unfold finL
  repeat' split
  all_goals first | simp; done | (simp only; omega)
theorem cutL_len (l : Bytes) : (cutL l).1.length ≤ 8 := by
  cases l with
  | nil => simp [cutL]
  | cons t r => exact finL_len _ _
/-- a list of one's own, a number and another one -/
def FsErr2 (w : World) (r : List Item × Nat × Nat) (e : Ending) (w' : World) : Prop :=
  ∃ A cap, e = .returned (.tuple #[.slice A r.1.length cap, .int .i64 r.2.1, .int .i64 r.2.2]) ∧ w'.ownsRow w.heap.size 32 5 (.slice A r.1.length cap) r.1.length (r.1.flatMap Item.cells) ∧ Below w.heap.size w w'

set_option maxHeartbeats 8000000 in
theorem lof_any (A : Option Addr) (cs : List Bytes) (c : Nat) (w : World) (hS : Sig w) (hF : Bss w A cs) (hn : cs.length ≤ 4294967295) (hl : ∀ x ∈ cs, x.length ≤ 34359738368) :
    Calls Tryd.prog 33 #[.slice A cs.length c] w (FsErr2 w (ofP cutL cs)) := by
  have HF := hide hF; have HSg := hide hS; have HL := hide hl
  clear hF hS hl
  go_enter Tryd.func33, Tryd.ntmps33
  go_wp2_with fail
  go_loopw [5, 6, 15] (fun o sh i wr => ∃ (k : Nat) (out : List Item) (Ao : Option Addr) (co : Nat) (short : Int), i = .int .i64 k ∧ k ≤ cs.length ∧ o = .slice Ao out.length co ∧ sh = .int .i64 short ∧ -1 ≤ short ∧ short ≤ 4294967295 ∧ out.length ≤ 8 * k ∧ ofGo cutL cs.length k (cs.drop k) out short = ofP cutL cs ∧ wr.ownsRow w.heap.size 32 5 (.slice Ao out.length co) out.length (out.flatMap Item.cells) ∧ Below w.heap.size w wr) (fun _ _ i _ => cs.length - (intOf i).toNat)
  case atStart => exact ⟨0, [], none, 0, -1, rfl, Nat.zero_le _, rfl, rfl, by omega, by omega, Nat.zero_le _, rfl, World.ownsRow_nil _ _ _ _, Below.refl _ _⟩
  case round =>
    obtain ⟨k, out, Ao, co, short, rfl, hk, rfl, rfl, hs1, hs2, ho8, hof, hown, hbel⟩ := hrel
    have HO := hide hown; have HOF := hide hof
    clear hown hof
    by_cases hlt : k < cs.length
    · have hlt' : (k : Int) < cs.length := by omega
      obtain ⟨b, off, rfl, hbl, hcell⟩ := HF.out.cell (by omega)
      obtain ⟨Ai, ci, h1, h2, h3, h4⟩ := hcell k hlt
      have c0 : wr.cell? ⟨b, off + k, none⟩ = some (.slice Ai cs[k].length ci) := (hbel.cell (p := ⟨b, off + k, none⟩) hbl).trans h1
      have HC := hide (show ∀ w', Below w.heap.size w w' → Calls Tryd.prog 31 #[.slice Ai cs[k].length ci] w' (FsErr w' (cutL cs[k])) from fun w' h => lcut_any Ai cs[k] ci w' (HSg.out.below h) (h2.below h) (HL.out _ (List.getElem_mem hlt)) h3 h4)
      have hL8 := cutL_len cs[k]
      clear h1 h2 h3 h4 hcell
      obtain ⟨L, hL⟩ : ∃ L, L = (cutL cs[k]).1 := ⟨_, rfl⟩
      obtain ⟨e, he⟩ : ∃ e, e = (cutL cs[k]).2 := ⟨_, rfl⟩
      have hLe : cutL cs[k] = (L, e) := by rw [hL, he]
      rw [hLe] at HC hL8
      have HLE := hide hLe
      clear hL he hLe
      simp only at hL8
      generalize cs[k].length = clen at c0 HC
      by_cases he0 : e = 0
      · subst he0
        by_cases h8 : L.length < 8
        · have h8' : (L.length : Int) < 8 := by omega
          by_cases hkn : k + 1 < cs.length
          · have hkn' : (k : Int) < (cs.length : Int) - 1 := by omega
            by_cases hsh : short < 0
            · have _x : True := trivial
              have HN := hide ((ofGo_new hlt HLE.out ⟨h8, hkn, hsh⟩).symm.trans HOF.out)
              go_wp2_with (first
                | (at_builtin; refine wpList_appAny _ rfl (.tmp 44) (.tmp 45) _ rfl w w.heap.size 32 _ 5 56 Tryd.underlying22 info_item rfl (by omega) (by omega) _ out.length _ (by rfl) HO2.out HB2.out _ L.length _ _ (by rfl) HX.out (cells_one _) (by omega) HB2.out.size ?_; intro A4 c4 w4 hown4 hb4)
                | (go_at_call 31; refine (HC.out _ hbel).mono ?_; rintro e w2 ⟨A2, c2, rfl, hown2, hb2⟩; have HX := hide (Fs.of_own rfl hown2); have HB2 := hide (hbel.trans (hb2.mono hbel.size)); have HO2 := hide (own_below HO.out hb2); clear hown2 hb2))
              refine ⟨⟨k + 1, out ++ L, A4, c4, (k : Int), by go_num, by omega, by rw [List.length_append], rfl, by omega, by omega, by rw [List.length_append]; omega, HN.out, ?_, hb4⟩, by simp [intOf]; omega⟩
              rw [List.length_append, List.flatMap_append]; exact hown4
            · have _x : True := trivial
              have HN := hide ((ofGo_old hlt HLE.out (fun h => hsh h.2.2)).symm.trans HOF.out)
              go_wp2_with (first
                | (at_builtin; refine wpList_appAny _ rfl (.tmp 44) (.tmp 45) _ rfl w w.heap.size 32 _ 5 56 Tryd.underlying22 info_item rfl (by omega) (by omega) _ out.length _ (by rfl) HO2.out HB2.out _ L.length _ _ (by rfl) HX.out (cells_one _) (by omega) HB2.out.size ?_; intro A4 c4 w4 hown4 hb4)
                | (go_at_call 31; refine (HC.out _ hbel).mono ?_; rintro e w2 ⟨A2, c2, rfl, hown2, hb2⟩; have HX := hide (Fs.of_own rfl hown2); have HB2 := hide (hbel.trans (hb2.mono hbel.size)); have HO2 := hide (own_below HO.out hb2); clear hown2 hb2))
              refine ⟨⟨k + 1, out ++ L, A4, c4, short, by go_num, by omega, by rw [List.length_append], rfl, by omega, by omega, by rw [List.length_append]; omega, HN.out, ?_, hb4⟩, by simp [intOf]; omega⟩
              rw [List.length_append, List.flatMap_append]; exact hown4
          · have hkn' : ¬ (k : Int) < (cs.length : Int) - 1 := by omega
            have HN := hide ((ofGo_old hlt HLE.out (fun h => hkn h.2.1)).symm.trans HOF.out)
            go_wp2_with (first
              | (at_builtin; refine wpList_appAny _ rfl (.tmp 44) (.tmp 45) _ rfl w w.heap.size 32 _ 5 56 Tryd.underlying22 info_item rfl (by omega) (by omega) _ out.length _ (by rfl) HO2.out HB2.out _ L.length _ _ (by rfl) HX.out (cells_one _) (by omega) HB2.out.size ?_; intro A4 c4 w4 hown4 hb4)
              | (go_at_call 31; refine (HC.out _ hbel).mono ?_; rintro e w2 ⟨A2, c2, rfl, hown2, hb2⟩; have HX := hide (Fs.of_own rfl hown2); have HB2 := hide (hbel.trans (hb2.mono hbel.size)); have HO2 := hide (own_below HO.out hb2); clear hown2 hb2))
            refine ⟨⟨k + 1, out ++ L, A4, c4, short, by go_num, by omega, by rw [List.length_append], rfl, by omega, by omega, by rw [List.length_append]; omega, HN.out, ?_, hb4⟩, by simp [intOf]; omega⟩
            rw [List.length_append, List.flatMap_append]; exact hown4
        · have h8' : ¬ (L.length : Int) < 8 := by omega
          have HN := hide ((ofGo_old hlt HLE.out (fun h => h8 h.1)).symm.trans HOF.out)
          go_wp2_with (first
            | (at_builtin; refine wpList_appAny _ rfl (.tmp 44) (.tmp 45) _ rfl w w.heap.size 32 _ 5 56 Tryd.underlying22 info_item rfl (by omega) (by omega) _ out.length _ (by rfl) HO2.out HB2.out _ L.length _ _ (by rfl) HX.out (cells_one _) (by omega) HB2.out.size ?_; intro A4 c4 w4 hown4 hb4)
            | (go_at_call 31; refine (HC.out _ hbel).mono ?_; rintro e w2 ⟨A2, c2, rfl, hown2, hb2⟩; have HX := hide (Fs.of_own rfl hown2); have HB2 := hide (hbel.trans (hb2.mono hbel.size)); have HO2 := hide (own_below HO.out hb2); clear hown2 hb2))
          refine ⟨⟨k + 1, out ++ L, A4, c4, short, by go_num, by omega, by rw [List.length_append], rfl, by omega, by omega, by rw [List.length_append]; omega, HN.out, ?_, hb4⟩, by simp [intOf]; omega⟩
          rw [List.length_append, List.flatMap_append]; exact hown4
      · have he' : ((e : Int) != 0) = true := by rw [bne_iff_ne]; omega
        have HF2 := hide (HOF.out.symm.trans (ofGo_bad hlt HLE.out he0))
        go_wp2_with (go_at_call 31; refine (HC.out _ hbel).mono ?_; rintro e w2 ⟨A2, c2, rfl, hown2, hb2⟩; have HX := hide (Fs.of_own rfl hown2); have HB2 := hide (hbel.trans (hb2.mono hbel.size)); have HO2 := hide (own_below HO.out hb2); clear hown2 hb2)
        go_ret3
        rw [HF2.out]
        exact ⟨none, 0, rfl, World.ownsRow_nil _ _ _ _, HB2.out⟩
    · have hke : k = cs.length := by omega
      have hlt' : ¬ (k : Int) < cs.length := by omega
      have HOE := hide (show ofGo cutL cs.length k [] out short = ofP cutL cs from by have := HOF.out; rwa [List.drop_of_length_le (by omega)] at this)
      by_cases hsh : 0 ≤ short
      · have HF2 := hide (HOE.out.symm.trans (ofGo_short hsh))
        have hsn : ((short.toNat : Nat) : Int) = short := by omega
        clear hke
        go_wp2_with fail
        go_ret3
        rw [HF2.out]
        exact ⟨none, 0, by simp only [hsn]; rfl, World.ownsRow_nil _ _ _ _, hbel⟩
      · have HFo := hide (show Fs Item.cells 5 wr Ao out from Fs.of_own rfl HO.out)
        have HCK := hide (check_any Ao out co wr (HSg.out.below hbel) HFo.out (by omega))
        clear hke
        by_cases hce : (chk out).1 = 0
        · have HF2 := hide (HOE.out.symm.trans (ofGo_ok hsh hce))
          have hce' : (((chk out).1 : Int) != 0) = false := by rw [hce]; rfl
          clear hce
          go_wp2_with (go_at_call 10; refine HCK.out.mono ?_; rintro e w2 ⟨rfl, hb2⟩)
          go_ret3
          rw [HF2.out]
          exact ⟨Ao, co, rfl, own_below HO.out hb2, hbel.trans (hb2.mono hbel.size)⟩
        · have HF2 := hide (HOE.out.symm.trans (ofGo_chk hsh hce))
          have hce' : (((chk out).1 : Int) != 0) = true := by rw [bne_iff_ne]; omega
          clear hce
          go_wp2_with (go_at_call 10; refine HCK.out.mono ?_; rintro e w2 ⟨rfl, hb2⟩)
          go_ret3
          rw [HF2.out]
          exact ⟨none, 0, rfl, World.ownsRow_nil _ _ _ _, hbel.trans (hb2.mono hbel.size)⟩
end Go.Proofs.YtagdjoabpkmomaaDoor
