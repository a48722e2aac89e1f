/-
  The walks of leaf.Scan and of the reference's Scan; the law LeafScans.
-/
import Derived.Test.YtagdjoabpkmomaaDoorLf1
namespace Go.Proofs.YtagdjoabpkmomaaDoor
open Go.RowKit
set_option maxRecDepth 100000
set_option linter.unusedSimpArgs false
set_option linter.unusedVariables false
attribute [local go_sem ↓] Go.wp_at_zero Go.wp_at_succ

theorem inK_lo {k lo hi : Bytes} (h : less k lo = true) : inK k lo hi = false := by simp [inK, h]
/-- the range ends where it ends -/
theorem scan_stop {l : List Item} (hlf : leafB l = true) (lo hi : Bytes) (most : Int) (k : Nat) (hk : k ≤ (l.drop (posK l lo)).length) (hm : k ≤ most.toNat) (hall : ∀ x ∈ (l.drop (posK l lo)).take k, inK x.key lo hi = true)
    (hend : most ≤ k ∨ k = (l.drop (posK l lo)).length ∨ ∃ h : k < (l.drop (posK l lo)).length, inK (l.drop (posK l lo))[k].key lo hi = false) : scanK l lo hi most = (l.drop (posK l lo)).take k := by
  obtain ⟨_, hit, hs⟩ := (leafB_iff l).1 hlf
  obtain ⟨h1, h2⟩ := sorted_split lo l hs
  have hd : SortedK (l.drop (posK l lo)) := List.Pairwise.drop hs
  have hi2 : ∀ x ∈ l.drop (posK l lo), itemB x = true := fun x hx => hit x (List.mem_of_mem_drop hx)
  unfold scanK
  have e1 : (l.filter fun x => inK x.key lo hi) = (l.drop (posK l lo)).filter fun x => inK x.key lo hi := by
    conv => lhs; rw [← List.take_append_drop (posK l lo) l]
    rw [List.filter_append, List.filter_eq_nil_iff.2 (fun x hx => by rw [inK_lo (h1 x hx)]; simp), List.nil_append]
  rw [e1]
  generalize l.drop (posK l lo) = D at *
  have e2 : (D.filter fun x => inK x.key lo hi) = D.take k ++ (D.drop k).filter fun x => inK x.key lo hi := by
    conv => lhs; rw [← List.take_append_drop k D]
    rw [List.filter_append, List.filter_eq_self.2 hall]
  rw [e2]
  have hlen : (D.take k).length = k := by rw [List.length_take]; omega
  rcases hend with h | h | ⟨h, hn⟩
  · have : most.toNat = k := by omega
    rw [this, List.take_append_of_le_length (by omega), List.take_of_length_le (by omega)]
  · subst h; rw [List.drop_length, List.filter_nil, List.append_nil, List.take_of_length_le (by omega)]
  · have e3 : ((D.drop k).filter fun x => inK x.key lo hi) = [] := by
      rw [List.filter_eq_nil_iff]
      intro x hx
      obtain ⟨j, hj, rfl⟩ := List.mem_drop_iff_getElem.1 hx
      have hk1 : keyB D[k].key = true := by
        have := hi2 D[k] (List.getElem_mem h)
        simp only [itemB, Bool.and_eq_true] at this
        exact this.1.1.1.1
      have hk2 : less D[k].key lo = false := h2 _ (List.getElem_mem h)
      have hn' := hn
      unfold inK at hn ⊢
      rw [hk1, hk2] at hn
      cases hp1 : patB lo <;> cases hp2 : patB hi <;> simp [hp1, hp2] at hn ⊢
      intro _ _
      refine ⟨hn.1, ?_⟩
      rcases Nat.eq_zero_or_pos j with rfl | hj0
      · simp only [Nat.add_zero]; exact hn.2
      · cases h6 : less D[k + j].key hi with
        | false => rfl
        | true => have := less_trans _ _ _ (sorted_lt hd (i := k) (j := k + j) (by omega) (by omega)) h6; rw [hn.2] at this; cases this
    rw [e3, List.append_nil, List.take_of_length_le (by omega)]

def scanP (l : List Item) (lo hi : Bytes) (most : Int) : List Item := if leafB l then scanK l lo hi most else []

set_option maxHeartbeats 8000000 in
theorem scan_any (A : Option Addr) (l : List Item) (c : Nat) (lo hi : Bytes) (most : Int) (w : World) (hS : Sig w) (hF : Fs Item.cells 5 w A l) (hlc : l.length ≤ c) (hl : l.length ≤ 1000000) :
    Calls Tryd.prog 27 #[.slice A l.length c, .string ⟨lo.toArray⟩, .string ⟨hi.toArray⟩, .int .i64 most] w (FsOut Item.cells 5 32 w (scanP l lo hi most)) := by
  have HSg := hide hS
  clear hS
  cases hlf : leafB l with
  | false =>
    have HR := hide (show scanP l lo hi most = [] from by unfold scanP; rw [hlf]; rfl)
    go_enter Tryd.func27, Tryd.ntmps27
    go_wp2_with (go_at_call 40; refine (leaf_is_any A l c _ HSg.out hF (by omega)).mono ?_; rintro e w1 ⟨rfl, hb⟩)
    go_ret
    rw [HR.out]; exact ⟨_, _, rfl, World.ownsRow_nil _ _ _ _, hb⟩
  | true =>
    have hsrt := hide ((leafB_iff l).1 hlf).2.2
    have HR := hide (show scanP l lo hi most = scanK l lo hi most from by unfold scanP; rw [if_pos hlf])
    have HST := hide (scan_stop hlf lo hi most)
    have hple := posK_le l lo
    have HFF := hide hF
    have HD := hide (hF.cutL (fun _ => rfl) (c := c) hple hlc)
    have hcut := fun w => run_cut_from Tryd.underlying22 size_item A l.length c (posK l lo) hple (posK l lo : Int) rfl w
    have hdl : (l.drop (posK l lo)).length = l.length - posK l lo := List.length_drop
    clear hF
    obtain ⟨D, hD⟩ : ∃ D, D = l.drop (posK l lo) := ⟨_, rfl⟩
    rw [← hD] at HD HST hdl
    obtain ⟨A2, hA2⟩ : ∃ A2, A2 = cutA A c (posK l lo) 5 := ⟨_, rfl⟩
    rw [← hA2] at HD hcut
    rw [← hdl] at hcut
    clear hA2 hD
    have hDl : D.length ≤ 1000000 := by omega
    clear hdl
    go_enter Tryd.func27, Tryd.ntmps27
    go_wp2_with (first
      | (go_at_call 40; refine (leaf_is_any A l c _ HSg.out HFF.out (by omega)).mono ?_; rintro e w1 ⟨rfl, hb⟩)
      | (go_at_call 43; refine (find_any A l c lo _ (HFF.out.below hb) hsrt.out (by omega)).mono ?_; rintro e w2 ⟨rfl, nd, rfl⟩))
    have HB := hide (below_drewN hb nd)
    clear hb
    go_loopw [9, 27] (fun o i wr => ∃ (k : Nat) (Ao : Option Addr) (co : Nat), k ≤ D.length ∧ k ≤ most.toNat ∧ i = .int .i64 k ∧ o = .slice Ao k co ∧ (∀ x ∈ D.take k, inK x.key lo hi = true) ∧ wr.ownsRow w.heap.size 32 5 (.slice Ao k co) k ((D.take k).flatMap Item.cells) ∧ Below w.heap.size w wr) (fun _ i _ => D.length - (intOf i).toNat)
    case atStart => exact ⟨0, none, 0, Nat.zero_le _, Nat.zero_le _, rfl, rfl, by simp, World.ownsRow_nil _ _ _ _, HB.out⟩
    case round =>
      obtain ⟨k, Ao, co, hk, hkm, rfl, rfl, hall, hown, hbel⟩ := hrel
      have HA := hide hall; have HO := hide hown
      clear hall hown
      by_cases hlt : k < D.length
      · have hlt' : (k : Int) < D.length := by omega
        obtain ⟨b, off, rfl, hbl, hcell⟩ := HD.out.cell (fun _ => rfl) (by omega)
        obtain ⟨c0, c1, c2, c3, c4⟩ := five hcell hbel hbl hlt
        by_cases hmost : most ≤ k
        · have HF := hide (HST.out k hk hkm HA.out (.inl hmost))
          generalize D[k] = x at c0 c1 c2 c3 c4
          obtain ⟨key, kind, i, s, ver⟩ := x
          clear hcell
          go_wp2_with fail
          go_ret
          rw [HR.out, HF.out]
          refine ⟨Ao, co, by rw [List.length_take, Nat.min_eq_left hk]; rfl, ?_, below_trans hbel (gr1 _ _)⟩
          rw [List.length_take, Nat.min_eq_left hk]; exact HO.out.alloc _
        · have hmost' : ¬ most ≤ (k : Int) := hmost
          cases hin : inK D[k].key lo hi with
          | false =>
            have HF := hide (HST.out k hk hkm HA.out (.inr (.inr ⟨hlt, hin⟩)))
            generalize D[k] = x at c0 c1 c2 c3 c4 hin
            obtain ⟨key, kind, i, s, ver⟩ := x
            clear hcell
            go_wp2_with (go_at_call 47; refine (keyin_any key lo hi _ (HSg.out.below (below_trans hbel (gr1 _ _)))).mono ?_; rintro e w' ⟨rfl, rfl⟩)
            go_ret
            rw [HR.out, HF.out]
            refine ⟨Ao, co, by rw [List.length_take, Nat.min_eq_left hk]; rfl, ?_, below_trans hbel (gr1 _ _)⟩
            rw [List.length_take, Nat.min_eq_left hk]; exact HO.out.alloc _
          | true =>
            have HN := hide (take_all_succ (p := fun x => inK x.key lo hi = true) hlt HA.out hin)
            have HS := hide (show D.take (k + 1) = D.take k ++ [D[k]] from List.take_succ_eq_append_getElem hlt)
            generalize D[k] = x at c0 c1 c2 c3 c4 hin HS
            obtain ⟨key, kind, i, s, ver⟩ := x
            clear hcell
            go_wp2_with (first
              | (go_at_call 47; refine (keyin_any key lo hi _ (HSg.out.below (below_trans hbel (gr1 _ _)))).mono ?_; rintro e w' ⟨rfl, rfl⟩)
              | (at_builtin; refine wpList_appE (wr.alloc (.cells #[.string ⟨key.toArray⟩, .int .i64 kind, .int .i64 i, .string ⟨s.toArray⟩, .int .i64 ver] 32)) rfl (.tmp 43) (.tmp 45) _ rfl w w.heap.size 32 32 _ 5 56 Tryd.underlying22 info_item rfl (by omega) (by omega) _ k _ #[.string ⟨key.toArray⟩, .int .i64 kind, .int .i64 i, .string ⟨s.toArray⟩, .int .i64 ver] (by rfl) (wr.heap.size + 1) (by simp) (by rfl) rfl (item_one _ _ _ _ _) (HO.out.alloc _) (below_trans hbel (gr1 _ _)) (by have := hbel.size; simp; omega) (by omega) ?_; intro g cap w4 hown4 hb4))
            refine ⟨⟨k + 1, _, cap, by omega, by omega, by go_num, rfl, HN.out, ?_, hb4⟩, by simp [intOf]; omega⟩
            rw [HS.out, cells_snoc]; exact hown4
      · have hk' : k = D.length := by omega
        have HF := hide (HST.out k hk hkm HA.out (.inr (.inl hk')))
        have hlt' : ¬ (k : Int) < D.length := by omega
        clear hk'
        go_wp2_with fail
        go_ret
        rw [HR.out, HF.out]
        refine ⟨Ao, co, by rw [List.length_take, Nat.min_eq_left hk]; rfl, ?_, hbel⟩
        rw [List.length_take, Nat.min_eq_left hk]; exact HO.out
end Go.Proofs.YtagdjoabpkmomaaDoor
