/-
  The walks of leaf.may, Check, is and of the reference's May, Check, Is; of the law's leafIs.
-/
import Derived.Test.YtagdjoabpkmomaaDoorVal
import Derived.Outline
import Derived.IntWalk
namespace Go.Proofs.YtagdjoabpkmomaaDoor
open Go.RowKit
set_option maxRecDepth 100000
set_option linter.unusedSimpArgs false
set_option linter.unusedVariables false

def vItem (key : Bytes) (kind i : Int) (s : Bytes) (ver : Int) : Value := .agg #[.string ⟨key.toArray⟩, .int .i64 kind, .int .i64 i, .string ⟨s.toArray⟩, .int .i64 ver]
theorem size_item : (Tryd.prog.info? 32).map (·.size) = some 5 := by kernel_rfl
theorem itemB_def (key : Bytes) (kind i : Int) (s : Bytes) (ver : Int) : itemB ⟨key, kind, i, s, ver⟩ = (keyB key && valB kind i s && kind != 0 && decide (0 ≤ ver) && decide (ver ≤ 2147483647)) := rfl

set_option maxHeartbeats 2000000 in
theorem may_any (key : Bytes) (kind i : Int) (s : Bytes) (ver : Int) (w : World) (hS : Sig w) :
    Calls Tryd.prog 35 #[.agg #[.string ⟨key.toArray⟩, .int .i64 kind, .int .i64 i, .string ⟨s.toArray⟩, .int .i64 ver]] w fun e w' => e = .returned (.bool (itemB ⟨key, kind, i, s, ver⟩)) ∧ Below w.heap.size w w' := by
  rw [itemB_def]
  have hS1 := hS.below (gr1 w (.cells #[.string ⟨key.toArray⟩, .int .i64 kind, .int .i64 i, .string ⟨s.toArray⟩, .int .i64 ver] 32))
  have HS := hide hS1
  clear hS1 hS
  go_enter Tryd.func35, Tryd.ntmps35
  go_wp2_with (first
    | (go_at_call 55; refine (keyis_any key _ HS.out).mono ?_; rintro e w' ⟨rfl, rfl⟩)
    | (go_at_call 56; refine (valmay_any kind i s _).mono ?_; rintro e w1 ⟨rfl, hb⟩; obtain ⟨hc, hf⟩ := bcell hb))
  all_goals go_ret
  all_goals (refine ⟨retb ?_, by first | exact gr1 _ _ | exact below_trans (gr1 _ _) hb⟩; first | (simp_all; done) | (simp_all; omega))
set_option maxHeartbeats 2000000 in
theorem rmay_any (key : Bytes) (kind i : Int) (s : Bytes) (ver : Int) (w : World) (hk : key.length ≤ maxLen) :
    Calls Tryd.prog 24 #[.agg #[.string ⟨key.toArray⟩, .int .i64 kind, .int .i64 i, .string ⟨s.toArray⟩, .int .i64 ver]] w fun e w' => e = .returned (.bool (itemB ⟨key, kind, i, s, ver⟩)) ∧ Below w.heap.size w w' := by
  rw [itemB_def]
  go_enter Tryd.func24, Tryd.ntmps24
  go_wp2_with (first
    | (go_at_call 45; refine (rkeyis_any key _ hk).mono ?_; rintro e w' ⟨rfl, rfl⟩)
    | (go_at_call 46; refine (rvalmay_any kind i s _).mono ?_; rintro e w1 ⟨rfl, hb⟩; obtain ⟨hc, hf⟩ := bcell hb))
  all_goals go_ret
  all_goals (refine ⟨retb ?_, by first | exact gr1 _ _ | exact below_trans (gr1 _ _) hb⟩; first | (simp_all; done) | (simp_all; omega))

/-- the key ahead of place k -/
def prevK (l : List Item) : Nat → Option Bytes
  | 0 => none
  | k + 1 => (l[k]?).map Item.key
theorem chk_start (l : List Item) (h : ¬ 64 < l.length) : chkFrom (prevK l 0) 0 (l.drop 0) = chk l := by unfold chk; rw [if_neg h]; rfl
theorem chk_bad {l : List Item} {k : Nat} (hk : k < l.length) (h : chkFrom (prevK l k) k (l.drop k) = chk l) (hi : itemB l[k] = false) : chk l = (1, k) := by
  rw [← h, chkFrom_step l k hk, hi]; rfl
theorem chk_form {l : List Item} {k : Nat} (hk : k < l.length) (h : chkFrom (prevK l k) k (l.drop k) = chk l) (hi : itemB l[k] = true) (h0 : 0 < k) (hp : less (l[k - 1]'(by omega)).key l[k].key = false) : chk l = (3, k) := by
  rw [← h, chkFrom_step l k hk, hi]
  obtain ⟨j, rfl⟩ : ∃ j, k = j + 1 := ⟨k - 1, by omega⟩
  simp only [prevK, List.getElem?_eq_getElem (show j < l.length by omega), Option.map_some, Option.getD_some]
  simp only [Nat.add_sub_cancel] at hp
  rw [hp]; rfl
theorem chk_on {l : List Item} {k : Nat} (hk : k < l.length) (h : chkFrom (prevK l k) k (l.drop k) = chk l) (hi : itemB l[k] = true) (hp : ∀ h0 : 0 < k, less (l[k - 1]'(by omega)).key l[k].key = true) : chkFrom (prevK l (k + 1)) (k + 1) (l.drop (k + 1)) = chk l := by
  rw [← h, chkFrom_step l k hk, hi]
  have hx : ((prevK l k).map fun q => !less q l[k].key).getD false = false := by
    cases k with
    | zero => rfl
    | succ j =>
      have := hp (by omega)
      simp only [Nat.add_sub_cancel] at this
      simp only [prevK, List.getElem?_eq_getElem (show j < l.length by omega), Option.map_some, Option.getD_some, this]; rfl
  rw [hx]
  simp only [prevK, List.getElem?_eq_getElem hk, Option.map_some]
  rfl
theorem chk_end {l : List Item} {k : Nat} (hk : k = l.length) (h : chkFrom (prevK l k) k (l.drop k) = chk l) : chk l = (0, 0) := by
  subst hk; rw [← h, List.drop_length]; rfl

theorem five {w wr : World} {b off : Nat} {l : List Item} {k : Nat} (hcell : ∀ i (hi : i < l.length) j u, j < 5 → (Item.cells l[i])[j]? = some u → w.cell? ⟨b, off + i * 5 + j, none⟩ = some u) (hbel : Below w.heap.size w wr) (hbl : b < w.heap.size) (hk : k < l.length) :
    wr.cell? ⟨b, off + k * 5, none⟩ = some (.string ⟨l[k].key.toArray⟩) ∧ wr.cell? ⟨b, off + k * 5 + 1, none⟩ = some (.int .i64 l[k].kind) ∧ wr.cell? ⟨b, off + k * 5 + 2, none⟩ = some (.int .i64 l[k].i) ∧
    wr.cell? ⟨b, off + k * 5 + 3, none⟩ = some (.string ⟨l[k].s.toArray⟩) ∧ wr.cell? ⟨b, off + k * 5 + 4, none⟩ = some (.int .i64 l[k].ver) :=
  ⟨(hbel.cell (p := ⟨b, off + k * 5, none⟩) hbl).trans (hcell k hk 0 _ (by omega) rfl), (hbel.cell (p := ⟨b, off + k * 5 + 1, none⟩) hbl).trans (hcell k hk 1 _ (by omega) rfl),
   (hbel.cell (p := ⟨b, off + k * 5 + 2, none⟩) hbl).trans (hcell k hk 2 _ (by omega) rfl), (hbel.cell (p := ⟨b, off + k * 5 + 3, none⟩) hbl).trans (hcell k hk 3 _ (by omega) rfl),
   (hbel.cell (p := ⟨b, off + k * 5 + 4, none⟩) hbl).trans (hcell k hk 4 _ (by omega) rfl)⟩

set_option maxHeartbeats 4000000 in
theorem check_any (A : Option Addr) (l : List Item) (c : Nat) (w : World) (hS : Sig w) (hF : Fs Item.cells 5 w A l) (hl : l.length ≤ 34359738368) :
    Calls Tryd.prog 10 #[.slice A l.length c] w fun e w' => e = .returned (.tuple #[.int .i64 (chk l).1, .int .i64 (chk l).2]) ∧ Below w.heap.size w w' := by
  by_cases hn : 64 < l.length
  · have hn' : (64 : Int) < l.length := by omega
    have HF := hide (show chk l = (5, 64) from by unfold chk; rw [if_pos hn])
    go_enter Tryd.func10, Tryd.ntmps10
    go_wp2_with fail
    go_ret2
    rw [HF.out]; exact ⟨rfl, Below.refl _ _⟩
  · have hn' : ¬ (64 : Int) < l.length := by omega
    have HC0 := hide (chk_start l hn)
    have HSg := hide hS
    clear hS
    go_enter Tryd.func10, Tryd.ntmps10
    go_wp2_with fail
    go_loopw [11] (fun i wr => ∃ k : Nat, k ≤ l.length ∧ i = .int .i64 k ∧ Below w.heap.size w wr ∧ chkFrom (prevK l k) k (l.drop k) = chk l) (fun i _ => l.length - (intOf i).toNat)
    case atStart => exact ⟨0, Nat.zero_le _, rfl, Below.refl _ _, HC0.out⟩
    case round =>
      obtain ⟨k, hk, rfl, hbel, hc0⟩ := hrel
      have HC := hide hc0; clear hc0
      by_cases hlt : k < l.length
      · have hlt' : (k : Int) < l.length := by omega
        obtain ⟨b, off, rfl, hbl, hcell⟩ := hF.cell (fun _ => rfl) (by omega)
        obtain ⟨c0, c1, c2, c3, c4⟩ := five hcell hbel hbl hlt
        have HI := hide (show ∀ j (hj : j < l.length), itemB l[j] = itemB ⟨l[j].key, l[j].kind, l[j].i, l[j].s, l[j].ver⟩ from fun _ _ => rfl)
        cases hi : itemB l[k] with
        | false =>
          have HF := hide (chk_bad hlt HC.out hi)
          generalize hx : l[k] = x at c0 c1 c2 c3 c4 hi
          obtain ⟨key, kind, i, s, ver⟩ := x
          have HX := hide hx; clear hx hcell
          go_wp2_with (go_at_call 35; refine (may_any key kind i s ver _ (HSg.out.below (hbel.trans ((gr1 _ _).mono hbel.size)))).mono ?_; rintro e w1 ⟨rfl, hb⟩; obtain ⟨hc, hf⟩ := bcell hb)
          go_ret2
          rw [HF.out]; exact ⟨rfl, hbel.trans (((gr1 _ _).mono hbel.size).trans (hb.mono (by simp; have := hbel.size; omega)))⟩
        | true =>
          by_cases hk0 : 0 < k
          · have hk0' : (0 : Int) < k := by omega
            obtain ⟨d0, d1, d2, d3, d4⟩ := five hcell hbel hbl (k := k - 1) (by omega)
            have hbr : b < wr.heap.size := Nat.lt_of_lt_of_le hbl hbel.size
            have hbr1 : b < wr.heap.size + 1 := by omega
            have kix := fun w => run_elemAddr Tryd.underlying22 size_item b off l.length c (k - 1) (by omega) ((k : Int) - 1) (by omega) w
            cases hp : less (l[k - 1]'(by omega)).key l[k].key with
            | false =>
              have HF := hide (chk_form hlt HC.out hi hk0 hp)
              generalize l[k - 1] = y at d0 d1 d2 d3 d4 hp
              generalize hx : l[k] = x at c0 c1 c2 c3 c4 hi hp
              obtain ⟨key, kind, i, s, ver⟩ := x
              obtain ⟨pkey, pkind, pi, ps, pver⟩ := y
              have HX := hide hx; clear hx hcell d1 d2 d3 d4
              have hle : (Op.bytesLess key pkey || key == pkey) = !less pkey key := less_or_eq key pkey
              rw [hp] at hle
              go_wp2_with (go_at_call 35; refine (may_any key kind i s ver _ (HSg.out.below (hbel.trans ((gr1 _ _).mono hbel.size)))).mono ?_; rintro e w1 ⟨rfl, hb⟩; obtain ⟨hc, hf⟩ := bcell hb)
              have ka : IntKind.i64.wrap ((k : Int) - 1) = (k : Int) - 1 := IntWalk.i64_in _ (by omega)
              go_quiet (fail)
              clear ka
              go_wp2_with fail
              go_ret2
              rw [HF.out]; exact ⟨rfl, hbel.trans (((gr1 _ _).mono hbel.size).trans (below_drewN hb _ |>.mono (by simp; have := hbel.size; omega)))⟩
            | true =>
              have HF := hide (chk_on hlt HC.out hi (fun _ => hp))
              generalize l[k - 1] = y at d0 d1 d2 d3 d4 hp
              generalize hx : l[k] = x at c0 c1 c2 c3 c4 hi hp
              obtain ⟨key, kind, i, s, ver⟩ := x
              obtain ⟨pkey, pkind, pi, ps, pver⟩ := y
              have HX := hide hx; clear hx hcell d1 d2 d3 d4
              have hle : (Op.bytesLess key pkey || key == pkey) = !less pkey key := less_or_eq key pkey
              rw [hp] at hle
              go_wp2_with (go_at_call 35; refine (may_any key kind i s ver _ (HSg.out.below (hbel.trans ((gr1 _ _).mono hbel.size)))).mono ?_; rintro e w1 ⟨rfl, hb⟩; obtain ⟨hc, hf⟩ := bcell hb)
              have ka : IntKind.i64.wrap ((k : Int) - 1) = (k : Int) - 1 := IntWalk.i64_in _ (by omega)
              go_quiet (fail)
              clear ka
              go_wp2_with fail
              clear hc hf
              exact ⟨⟨k + 1, by omega, by go_num, hbel.trans (((gr1 _ _).mono hbel.size).trans (below_drewN hb _ |>.mono (by simp; have := hbel.size; omega))), HF.out⟩, by simp [intOf]; omega⟩
          · have hk0' : ¬ (0 : Int) < k := by omega
            have HF := hide (chk_on hlt HC.out hi (fun h => absurd h hk0))
            generalize hx : l[k] = x at c0 c1 c2 c3 c4 hi
            obtain ⟨key, kind, i, s, ver⟩ := x
            have HX := hide hx; clear hx hcell
            go_wp2_with (go_at_call 35; refine (may_any key kind i s ver _ (HSg.out.below (hbel.trans ((gr1 _ _).mono hbel.size)))).mono ?_; rintro e w1 ⟨rfl, hb⟩; obtain ⟨hc, hf⟩ := bcell hb)
            go_quiet (fail)
            go_wp2_with fail
            clear hc hf
            exact ⟨⟨k + 1, by omega, by go_num, hbel.trans (((gr1 _ _).mono hbel.size).trans (below_drewN hb _ |>.mono (by simp; have := hbel.size; omega))), HF.out⟩, by simp [intOf]; omega⟩
      · have hk' : k = l.length := by omega
        have HF := hide (chk_end hk' HC.out)
        go_wp2_with fail
        go_ret2
        rw [HF.out]; exact ⟨rfl, hbel⟩

set_option maxHeartbeats 4000000 in
theorem rcheck_any (A : Option Addr) (l : List Item) (c : Nat) (w : World) (hF : Fs Item.cells 5 w A l) (hl : l.length ≤ 34359738368) (hkeys : ∀ x ∈ l, x.key.length ≤ maxLen) :
    Calls Tryd.prog 11 #[.slice A l.length c] w fun e w' => e = .returned (.tuple #[.int .i64 (chk l).1, .int .i64 (chk l).2]) ∧ Below w.heap.size w w' := by
  by_cases hn : 64 < l.length
  · have hn' : (64 : Int) < l.length := by omega
    have HF := hide (show chk l = (5, 64) from by unfold chk; rw [if_pos hn])
    go_enter Tryd.func11, Tryd.ntmps11
    go_wp2_with fail
    go_ret2
    rw [HF.out]; exact ⟨rfl, Below.refl _ _⟩
  · have hn' : ¬ (64 : Int) < l.length := by omega
    have HC0 := hide (chk_start l hn)
    have HKs := hide hkeys
    clear hkeys
    go_enter Tryd.func11, Tryd.ntmps11
    go_wp2_with fail
    go_loopw [4] (fun i wr => ∃ k : Nat, k ≤ l.length ∧ i = .int .i64 k ∧ Below w.heap.size w wr ∧ chkFrom (prevK l k) k (l.drop k) = chk l) (fun i _ => l.length - (intOf i).toNat)
    case atStart => exact ⟨0, Nat.zero_le _, rfl, Below.refl _ _, HC0.out⟩
    case round =>
      obtain ⟨k, hk, rfl, hbel, hc0⟩ := hrel
      have HC := hide hc0; clear hc0
      by_cases hlt : k < l.length
      · have hlt' : (k : Int) < l.length := by omega
        obtain ⟨b, off, rfl, hbl, hcell⟩ := hF.cell (fun _ => rfl) (by omega)
        obtain ⟨c0, c1, c2, c3, c4⟩ := five hcell hbel hbl hlt
        have hkl := HKs.out l[k] (List.getElem_mem hlt)
        cases hi : itemB l[k] with
        | false =>
          have HF := hide (chk_bad hlt HC.out hi)
          generalize hx : l[k] = x at c0 c1 c2 c3 c4 hi hkl
          obtain ⟨key, kind, i, s, ver⟩ := x
          have HX := hide hx; clear hx hcell
          go_wp2_with (go_at_call 24; refine (rmay_any key kind i s ver _ hkl).mono ?_; rintro e w1 ⟨rfl, hb⟩; obtain ⟨hc, hf⟩ := bcell hb)
          go_ret2
          rw [HF.out]; exact ⟨rfl, hbel.trans (hb.mono hbel.size)⟩
        | true =>
          by_cases hk0 : 0 < k
          · have hk0' : (0 : Int) < k := by omega
            obtain ⟨d0, d1, d2, d3, d4⟩ := five hcell hbel hbl (k := k - 1) (by omega)
            have hpl := HKs.out (l[k - 1]'(by omega)) (List.getElem_mem _)
            have hbr : b < wr.heap.size := Nat.lt_of_lt_of_le hbl hbel.size
            have kix := fun w => run_elemAddr Tryd.underlying22 size_item b off l.length c (k - 1) (by omega) ((k : Int) - 1) (by omega) w
            cases hp : less (l[k - 1]'(by omega)).key l[k].key with
            | false =>
              have HF := hide (chk_form hlt HC.out hi hk0 hp)
              generalize l[k - 1] = y at d0 d1 d2 d3 d4 hp hpl
              generalize hx : l[k] = x at c0 c1 c2 c3 c4 hi hp hkl
              obtain ⟨key, kind, i, s, ver⟩ := x
              obtain ⟨pkey, pkind, pi, ps, pver⟩ := y
              have HX := hide hx; clear hx hcell d1 d2 d3 d4
              go_wp2_with (go_at_call 24; refine (rmay_any key kind i s ver _ hkl).mono ?_; rintro e w1 ⟨rfl, hb⟩; obtain ⟨hc, hf⟩ := bcell hb)
              have ka : IntKind.i64.wrap ((k : Int) - 1) = (k : Int) - 1 := IntWalk.i64_in _ (by omega)
              go_quiet ((go_at_call 36; first | exact quiet_drew (rahead_any _ _ _ hpl hkl) | exact quiet_drew_add (rahead_any _ _ _ hpl hkl)))
              clear ka
              go_wp2_with fail
              go_ret2
              rw [HF.out]; exact ⟨rfl, hbel.trans ((below_drewN hb _).mono hbel.size)⟩
            | true =>
              have HF := hide (chk_on hlt HC.out hi (fun _ => hp))
              generalize l[k - 1] = y at d0 d1 d2 d3 d4 hp hpl
              generalize hx : l[k] = x at c0 c1 c2 c3 c4 hi hp hkl
              obtain ⟨key, kind, i, s, ver⟩ := x
              obtain ⟨pkey, pkind, pi, ps, pver⟩ := y
              have HX := hide hx; clear hx hcell d1 d2 d3 d4
              go_wp2_with (go_at_call 24; refine (rmay_any key kind i s ver _ hkl).mono ?_; rintro e w1 ⟨rfl, hb⟩; obtain ⟨hc, hf⟩ := bcell hb)
              have ka : IntKind.i64.wrap ((k : Int) - 1) = (k : Int) - 1 := IntWalk.i64_in _ (by omega)
              go_quiet ((go_at_call 36; first | exact quiet_drew (rahead_any _ _ _ hpl hkl) | exact quiet_drew_add (rahead_any _ _ _ hpl hkl)))
              clear ka
              go_wp2_with fail
              clear hc hf
              exact ⟨⟨k + 1, by omega, by go_num, hbel.trans ((below_drewN hb _).mono hbel.size), HF.out⟩, by simp [intOf]; omega⟩
          · have hk0' : ¬ (0 : Int) < k := by omega
            have HF := hide (chk_on hlt HC.out hi (fun h => absurd h hk0))
            generalize hx : l[k] = x at c0 c1 c2 c3 c4 hi hkl
            obtain ⟨key, kind, i, s, ver⟩ := x
            have HX := hide hx; clear hx hcell
            go_wp2_with (go_at_call 24; refine (rmay_any key kind i s ver _ hkl).mono ?_; rintro e w1 ⟨rfl, hb⟩; obtain ⟨hc, hf⟩ := bcell hb)
            go_quiet (fail)
            go_wp2_with fail
            clear hc hf
            exact ⟨⟨k + 1, by omega, by go_num, hbel.trans ((below_drewN hb _).mono hbel.size), HF.out⟩, by simp [intOf]; omega⟩
      · have hk' : k = l.length := by omega
        have HF := hide (chk_end hk' HC.out)
        go_wp2_with fail
        go_ret2
        rw [HF.out]; exact ⟨rfl, hbel⟩

theorem leafB_int (l : List Item) : (((chk l).1 : Int) == 0) = leafB l := by
  unfold leafB; rw [Bool.eq_iff_iff]; simp
theorem leaf_is_any (A : Option Addr) (l : List Item) (c : Nat) (w : World) (hS : Sig w) (hF : Fs Item.cells 5 w A l) (hl : l.length ≤ 34359738368) :
    Calls Tryd.prog 40 #[.slice A l.length c] w fun e w' => e = .returned (.bool (leafB l)) ∧ Below w.heap.size w w' := by
  have H := hide (leafB_int l)
  go_enter Tryd.func40, Tryd.ntmps40
  go_wp2_with (go_at_call 10; refine (check_any A l c _ hS hF hl).mono ?_; rintro e w1 ⟨rfl, hb⟩)
  go_ret
  exact ⟨retb H.out, hb⟩
theorem leafIs_any (A : Option Addr) (l : List Item) (c : Nat) (w : World) (hS : Sig w) (hF : Fs Item.cells 5 w A l) (hl : l.length ≤ 34359738368) :
    Calls Tryd.prog 26 #[.slice A l.length c] w fun e w' => e = .returned (.bool (leafB l)) ∧ Below w.heap.size w w' := by
  have H := hide (leafB_int l)
  go_enter Tryd.func26, Tryd.ntmps26
  go_wp2_with (go_at_call 10; refine (check_any A l c _ hS hF hl).mono ?_; rintro e w1 ⟨rfl, hb⟩)
  go_ret
  exact ⟨retb H.out, hb⟩
theorem ris_any (A : Option Addr) (l : List Item) (c : Nat) (w : World) (hF : Fs Item.cells 5 w A l) (hl : l.length ≤ 34359738368) (hkeys : ∀ x ∈ l, x.key.length ≤ maxLen) :
    Calls Tryd.prog 21 #[.slice A l.length c] w fun e w' => e = .returned (.bool (leafB l)) ∧ Below w.heap.size w w' := by
  have H := hide (leafB_int l)
  go_enter Tryd.func21, Tryd.ntmps21
  go_wp2_with (go_at_call 11; refine (rcheck_any A l c _ hF hl hkeys).mono ?_; rintro e w1 ⟨rfl, hb⟩)
  go_ret
  exact ⟨retb H.out, hb⟩
end Go.Proofs.YtagdjoabpkmomaaDoor
