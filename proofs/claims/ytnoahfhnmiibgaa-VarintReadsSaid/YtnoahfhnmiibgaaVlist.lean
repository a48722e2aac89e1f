/-
  The walks of varint.PutList, CutList, of the reference's List, CutList, of the law's 'same'.
-/
import Derived.Test.YtnoahfhnmiibgaaVlaw3
import Derived.BigQuiet
import Derived.Deep.QuietTactic
namespace Go.Proofs.Ytnoahfhnmiibgaa
open Go.RowKit
set_option maxRecDepth 100000
set_option linter.unusedSimpArgs false
set_option linter.unusedVariables false

/-- the bytes of a list of texts -/
def flatL (l : List (List UInt8)) : List UInt8 := (l.map fun s => put s.length ++ s).flatten
def listB (l : List (List UInt8)) : List UInt8 := put l.length ++ flatL l
theorem flatL_snoc (l : List (List UInt8)) (k : Nat) (h : k < l.length) : flatL (l.take (k + 1)) = flatL (l.take k) ++ (put l[k].length ++ l[k]) := by
  unfold flatL
  rw [List.take_succ_eq_append_getElem h, List.map_append, List.flatten_append]; simp
theorem flatL_le (B : Nat) : ∀ l : List (List UInt8), (∀ s ∈ l, s.length ≤ B) → B < 18446744073709551616 → (flatL l).length ≤ l.length * (B + 10)
  | [], _, _ => by simp [flatL]
  | s :: r, h, hB => by
    have h1 := flatL_le B r (fun x hx => h x (List.mem_cons_of_mem _ hx)) hB
    have h2 := h s (by simp)
    have h3 := put_len s.length (by omega)
    simp only [flatL, List.map_cons, List.flatten_cons, List.length_append, List.length_cons, Nat.add_mul] at h1 ⊢
    omega
theorem strs_nil : flatL [] = [] := rfl
/-- what PutList gives -/
def putListL (l : List (List UInt8)) : List UInt8 := if l.length ≤ 255 ∧ ∀ s ∈ l, s.length ≤ 255 then listB l else []

theorem own_below {w w' : World} {base : Nat} {e : TypeId} {size : Nat} {v : Value} {n : Nat} {xs : List Value} (h : w.ownsRow base e size v n xs) (hb : Below w.heap.size w w') : w'.ownsRow base e size v n xs :=
  h.kept (row := none) ⟨hb.os, hb.tape, hb.output, hb.size, fun i hi _ => hb.block i hi⟩ (by cases hv : v.ownBlock <;> simp)

/-- the same under names that the walk does not look into -/
def textB (s : List UInt8) : List UInt8 := put s.length ++ s
def preB (l : List (List UInt8)) (k : Nat) : List UInt8 := put l.length ++ flatL (l.take k)
theorem puttext_t (s : List UInt8) (hs : s.length ≤ 255) (w : World) : Calls Try.prog 25 #[.string ⟨s.toArray⟩] w (BytesOut 5 w (textB s)) := puttext_any s hs w
theorem preB_zero (l : List (List UInt8)) : preB l 0 = put l.length := by simp [preB, flatL]
theorem preB_succ (l : List (List UInt8)) (k : Nat) (h : k < l.length) : preB l (k + 1) = preB l k ++ textB l[k] := by
  unfold preB textB; rw [flatL_snoc l k h, List.append_assoc]
theorem preB_all (l : List (List UInt8)) : preB l l.length = listB l := by unfold preB listB; rw [List.take_length]
theorem preB_len (l : List (List UInt8)) (k : Nat) (hk : k ≤ l.length) (hl : l.length < 18446744073709551616) (B : Nat) (hB : B < 18446744073709551616) (h : ∀ s ∈ l.take k, s.length ≤ B) : (preB l k).length ≤ 10 + k * (B + 10) := by
  have h1 := put_len l.length hl
  have h2 := flatL_le B (l.take k) h hB
  rw [List.length_take, Nat.min_eq_left hk] at h2
  unfold preB; rw [List.length_append]; omega
theorem textB_len (s : List UInt8) (hs : s.length < 18446744073709551616) : (textB s).length ≤ s.length + 10 := by
  have := put_len s.length hs
  unfold textB; rw [List.length_append]; omega

set_option maxHeartbeats 1000000 in
theorem putlist_any (A : Option Addr) (l : List (List UInt8)) (c : Nat) (w : World) (hb : Ss w A l) :
    Calls Try.prog 29 #[.slice A l.length c] w (BytesOut 5 w (putListL l)) := by
  by_cases hn : l.length ≤ 255
  · have hn' : ¬ (255 : Int) < l.length := by omega
    have hp := put_len l.length (by omega)
    go_enter Try.func29, Try.ntmps29
    go_wp2_with (go_at_call 12; refine (put_any l.length (by omega) (by omega) _).mono ?_; rintro e w1 ⟨g, cap, rfl, hown, hbel⟩)
    rw [Int.toNat_natCast] at hown
    rw [← preB_zero] at hown ⊢
    go_loopw [3, 5, 15] (fun o _ i wr => ∃ (k : Nat) (A' : Option Addr) (cap' : Nat), k ≤ l.length ∧ i = .int .i64 k ∧ o = .slice A' (preB l k).length cap' ∧
      wr.ownsRow w.heap.size 5 1 (.slice A' (preB l k).length cap') (preB l k).length ((preB l k).map cB) ∧ Below w.heap.size w wr ∧ ∀ s ∈ l.take k, s.length ≤ 255)
      (fun _ _ i _ => l.length - (intOf i).toNat)
    case atStart => exact ⟨0, some ⟨g, 0, none⟩, cap, Nat.zero_le _, rfl, rfl, hown, hbel, by simp⟩
    case round =>
      obtain ⟨k, A', cap', hk, rfl, rfl, hown', hbel', hall⟩ := hrel
      have hpl := preB_len l k hk (by omega) 255 (by omega) hall
      clear hown hbel
      by_cases hlt : k < l.length
      · have hlt' : (k : Int) < l.length := by omega
        have hsn := preB_succ l k hlt
        have htake := List.take_succ_eq_append_getElem hlt
        have hmem : l[k] ∈ l := List.getElem_mem hlt
        obtain ⟨b, off, rfl, hbl, hcell⟩ := hb.cell (by omega)
        have hc := (hbel'.cell (p := ⟨b, off + k, none⟩) hbl).trans (hcell k hlt)
        clear hcell
        generalize hs : l[k] = s at hsn htake hmem hc
        have HS := hide hsn; have HT := hide htake; have HE := hide hs; have HA := hide hall; clear hsn htake hs hall
        by_cases hs255 : s.length ≤ 255
        · have hs' : ¬ (255 : Int) < s.length := by omega
          have htl := textB_len s (by omega)
          go_wp2_with (first
            | (go_at_call 25; refine (puttext_t s hs255 _).mono ?_; rintro e w2 ⟨A2, c2, rfl, hown2, hb2⟩; have hr2 := Rd.of_own hown2; have hbl2 := hbel'.trans (hb2.mono hbel'.size); have hown3 := own_below hown' hb2)
            | (at_builtin; refine wpList_appAny _ rfl (.tmp 22) (.tmp 24) _ rfl w w.heap.size 5 _ 1 1 Try.underlying24 info_u8 rfl (by omega) (by omega) _ _ _ rfl hown3 hbl2 _ _ _ _ rfl hr2 (cB_one _) (by omega) hbl2.size ?_; intro A4 c4 w4 hown4 hb4))
          go_roundw
          case rel =>
            rw [← List.map_append, ← HS.out, ← List.length_append, ← HS.out] at hown4
            refine ⟨k + 1, A4, c4, by omega, by go_num, ?_, hown4, hb4, ?_⟩
            · rw [HS.out, List.length_append]
            · intro x hx; rw [HT.out] at hx; rcases List.mem_append.1 hx with hx | hx
              · exact HA.out x hx
              · simp at hx; rw [hx]; exact hs255
          case measure => simp [intOf]; omega
        · have hs' : (255 : Int) < s.length := by omega
          have HF := hide (show putListL l = [] from by unfold putListL; rw [if_neg (fun h => hs255 (h.2 s hmem))])
          go_wp2_with fail
          go_ret
          rw [HF.out]
          exact ⟨_, _, rfl, World.ownsRow_nil _ _ _ _, hbel'⟩
      · have hk' : k = l.length := by omega
        subst hk'
        have HF := hide (show putListL l = preB l l.length from by unfold putListL; rw [if_pos ⟨hn, by rw [List.take_length] at hall; exact hall⟩, preB_all])
        clear hall
        go_wp2_with fail
        go_ret
        rw [HF.out]
        exact ⟨_, _, rfl, hown', hbel'⟩
  · have hn' : (255 : Int) < l.length := by omega
    have HF := hide (show putListL l = [] from by unfold putListL; rw [if_neg (fun h => hn h.1)])
    go_enter Try.func29, Try.ntmps29
    go_wp2_with fail
    go_ret
    rw [HF.out]
    exact ⟨_, _, rfl, World.ownsRow_nil _ _ _ _, Below.refl _ _⟩

/-- so many texts from a place on; joined to those that are there already -/
def cutTexts : Nat → List UInt8 → Nat → List (List UInt8) × Nat × Nat
  | 0, _, a => ([], a, 0)
  | n + 1, l, a => if (CutText (l.drop a)).2.2 ≠ 0 then ([], 0, (CutText (l.drop a)).2.2)
    else if (cutTexts n l (a + (CutText (l.drop a)).2.1)).2.2 ≠ 0 then ([], 0, (cutTexts n l (a + (CutText (l.drop a)).2.1)).2.2)
    else ((CutText (l.drop a)).1 :: (cutTexts n l (a + (CutText (l.drop a)).2.1)).1, (cutTexts n l (a + (CutText (l.drop a)).2.1)).2.1, 0)
def joinT (xs : List (List UInt8)) (r : List (List UInt8) × Nat × Nat) : List (List UInt8) × Nat × Nat := if r.2.2 ≠ 0 then ([], 0, r.2.2) else (xs ++ r.1, r.2.1, 0)
theorem cutTexts_err : ∀ (n : Nat) (l : List UInt8) (a : Nat), (cutTexts n l a).2.2 ≠ 0 → cutTexts n l a = ([], 0, (cutTexts n l a).2.2)
  | 0, l, a, h => by simp [cutTexts] at h
  | n + 1, l, a, h => by
    rw [cutTexts] at h ⊢
    split
    · rfl
    · rename_i h1; rw [if_neg h1] at h
      split
      · rfl
      · rename_i h2; rw [if_neg h2] at h; exact absurd rfl h
theorem joinT_nil (n : Nat) (l : List UInt8) (a : Nat) : joinT [] (cutTexts n l a) = cutTexts n l a := by
  unfold joinT
  split
  · rename_i h; exact (cutTexts_err n l a h).symm
  · rename_i h; exact Prod.ext (by simp) (Prod.ext rfl (by simp only; omega))
theorem joinT_err (xs : List (List UInt8)) (n : Nat) (l : List UInt8) (a : Nat) (h : (CutText (l.drop a)).2.2 ≠ 0) : joinT xs (cutTexts (n + 1) l a) = ([], 0, (CutText (l.drop a)).2.2) := by
  rw [cutTexts, if_pos h]; unfold joinT; rw [if_pos h]
theorem joinT_step (xs : List (List UInt8)) (n : Nat) (l : List UInt8) (a : Nat) (h : (CutText (l.drop a)).2.2 = 0) :
    joinT xs (cutTexts (n + 1) l a) = joinT (xs ++ [(CutText (l.drop a)).1]) (cutTexts n l (a + (CutText (l.drop a)).2.1)) := by
  rw [cutTexts, if_neg (by omega)]
  generalize cutTexts n l (a + (CutText (l.drop a)).2.1) = r
  by_cases h2 : r.2.2 = 0
  · simp [joinT, h2]
  · simp [joinT, h2]
def cutListL (l : List UInt8) (m : Nat) : List (List UInt8) × Nat × Nat :=
  if (cut l).2.2 ≠ 0 then ([], 0, (cut l).2.2) else if m < (cut l).1 then ([], 0, 8) else cutTexts (cut l).1 l (cut l).2.1
def mostL (most : Int) : Nat := if most < 0 ∨ 255 < most then 255 else most.toNat
theorem mostL_le (most : Int) : mostL most ≤ 255 := by unfold mostL; split <;> omega

theorem info_str : (Try.prog.info? 9).map (fun i => (i.zero, i.size, i.bytes)) = some (some (.string ⟨#[]⟩), 1, 16) := by kernel_rfl

/-- a list of texts, its place and its error are handed back; nothing that was there has turned -/
def ListOut (w : World) (r : List (List UInt8) × Nat × Nat) (e : Ending) (w' : World) : Prop :=
  ∃ A cap, e = .returned (.tuple #[.slice A r.1.length cap, .int .i64 r.2.1, .int .i64 r.2.2]) ∧ Ss w' A r.1 ∧ Below w.heap.size w w'

set_option maxHeartbeats 2000000 in
theorem cutlist_any (A : Option Addr) (l : List UInt8) (c : Nat) (most : Int) (m : Nat) (hmost : (most < 0 ∧ m = 255) ∨ (255 < most ∧ m = 255) ∨ (most = m ∧ m ≤ 255)) (w : World) (hb : Bs w A l) (hl : l.length ≤ 34359738368) (hlc : l.length ≤ c) (hcm : c ≤ 9223372036854775807) :
    Calls Try.prog 27 #[.slice A l.length c, .int .i64 most] w (ListOut w (cutListL l m)) := by
  have hn := cut_n l
  have hv := cut_lt l
  go_enter Try.func27, Try.ntmps27
  rcases hmost with ⟨hmo, hm⟩ | ⟨hmo, hm⟩ | ⟨rfl, hm⟩
  all_goals
    by_cases he : (cut l).2.2 = 0
    · have he' : (((cut l).2.2 : Int) != 0) = false := by rw [he]; rfl
      by_cases hv1 : m < (cut l).1
      · have hv1' : (m : Int) < ((cut l).1 : Int) := by omega
        have HF := hide (show cutListL l m = ([], 0, 8) from by unfold cutListL; rw [if_neg (by omega), if_pos hv1])
        have He := hide he; clear he
        go_wp2_with (go_at_call 14; refine (cut_any A l c w hb hl).mono ?_; rintro e w' ⟨rfl, rfl⟩)
        go_ret3
        rw [HF.out]; exact ⟨_, _, rfl, Rd.empty _ _ _, Below.refl _ _⟩
      · have hv1' : ¬ (m : Int) < ((cut l).1 : Int) := by omega
        have HF := hide (show cutListL l m = cutTexts (cut l).1 l (cut l).2.1 from by unfold cutListL; rw [if_neg (by omega), if_neg hv1])
        have He := hide he; clear he
        go_wp2_with (go_at_call 14; refine (cut_any A l c w hb hl).mono ?_; rintro e w' ⟨rfl, rfl⟩)
        go_loopw [8, 10, 34] (fun at_ o i wr => ∃ (k a : Nat) (xs : List (List UInt8)) (A' : Option Addr) (cap' : Nat), k ≤ (cut l).1 ∧ i = .int .u64 k ∧ at_ = .int .i64 a ∧ a ≤ l.length ∧ xs.length = k ∧ o = .slice A' xs.length cap' ∧
          wr.ownsRow w.heap.size 9 1 (.slice A' xs.length cap') xs.length (xs.map cS) ∧ Below w.heap.size w wr ∧ joinT xs (cutTexts ((cut l).1 - k) l a) = cutTexts (cut l).1 l (cut l).2.1)
          (fun _ _ i _ => (cut l).1 - (intOf i).toNat)
        case atStart => exact ⟨0, (cut l).2.1, [], none, 0, Nat.zero_le _, rfl, rfl, by omega, rfl, rfl, World.ownsRow_nil _ _ _ _, Below.refl _ _, joinT_nil _ _ _⟩
        case round =>
          obtain ⟨k, a, xs, A', cap', hk, rfl, rfl, ha, hxk, rfl, hown, hbel, hj⟩ := hrel
          have hbs := hbel.size
          by_cases hlt : k < (cut l).1
          · have hlt' : (k : Int) < ((cut l).1 : Int) := by omega
            have hbr := hb.below hbel
            have hbd := bs_cutL hbr (c := c) ha hlc
            have hsl := run_cut_from Try.underlying24 size_u8 A l.length c a ha (a : Int) rfl wr
            have hct := cuttext_any (cutA A c a 1) (l.drop a) (c - a) wr hbd (by simp; omega) (by simp; omega) (by omega)
            rw [List.length_drop] at hct
            have htn := cutText_n (l.drop a)
            rw [List.length_drop] at htn
            have hsub : (cut l).1 - k = ((cut l).1 - (k + 1)) + 1 := by omega
            rw [hsub] at hj
            have HT := hide hct; have HX := hide hxk; have HB := hide hbr; clear hct hbd hsub hxk hbr
            by_cases het : (CutText (l.drop a)).2.2 = 0
            · have het' : (((CutText (l.drop a)).2.2 : Int) != 0) = false := by rw [het]; rfl
              rw [joinT_step _ _ _ _ het] at hj
              have HJ := hide hj; have HE := hide het; clear hj het
              go_wp2_with (first
                | (go_at_call 23; refine (unhide HT).mono ?_; rintro e w' ⟨rfl, rfl⟩)
                | (at_builtin; refine wpList_app1 _ rfl (.tmp 47) (.tmp 49) _ rfl w w.heap.size 9 _ _ 16 Try.underlying51 info_str rfl (by omega) _ _ _ (cS (CutText (l.drop a)).1) rfl rfl rfl hown hbel hbs (by have := HX.out; omega) ?_; intro g cap w1 hown1 hbel1))
              go_roundw
              case rel =>
                refine ⟨k + 1, a + (CutText (l.drop a)).2.1, xs ++ [(CutText (l.drop a)).1], some ⟨g, 0, none⟩, cap, by omega, by go_num, by go_num, by omega, by simp [HX.out], by simp, by simpa using hown1, hbel1, HJ.out⟩
              case measure => simp [intOf]; omega
            · have het' : (((CutText (l.drop a)).2.2 : Int) != 0) = true := by rw [bne_iff_ne]; omega
              rw [joinT_err _ _ _ _ het] at hj
              have HJ := hide hj; have HE := hide het; clear hj het
              go_wp2_with (go_at_call 23; refine (unhide HT).mono ?_; rintro e w' ⟨rfl, rfl⟩)
              go_ret3
              rw [HF.out, ← HJ.out]; exact ⟨_, _, rfl, Rd.empty _ _ _, hbel⟩
          · have hk' : k = (cut l).1 := by omega
            subst hk'
            rw [Nat.sub_self] at hj
            have HJ := hide (show cutTexts (cut l).1 l (cut l).2.1 = (xs, a, 0) from by rw [← hj]; simp [joinT, cutTexts])
            clear hj
            have HX := hide hxk; clear hxk
            go_wp2_with fail
            go_ret3
            rw [HF.out, HJ.out]
            exact ⟨_, _, rfl, Rd.of_own hown, hbel⟩
    · have he' : (((cut l).2.2 : Int) != 0) = true := by rw [bne_iff_ne]; omega
      have HF := hide (show cutListL l m = ([], 0, (cut l).2.2) from by unfold cutListL; rw [if_pos he])
      go_wp2_with (go_at_call 14; refine (cut_any A l c w hb hl).mono ?_; rintro e w' ⟨rfl, rfl⟩)
      go_ret3
      rw [HF.out]; exact ⟨_, _, rfl, Rd.empty _ _ _, Below.refl _ _⟩
end Go.Proofs.Ytnoahfhnmiibgaa
