/-
  The walks of the reference's At, Without, With, Scan, Same.
-/
import Derived.Test.YtagdjoabpkmomaaDoorEqIt
import Derived.Deep.Onto
namespace Go.Proofs.YtagdjoabpkmomaaDoor
open Go.RowKit
set_option maxRecDepth 100000
set_option linter.unusedSimpArgs false
set_option linter.unusedVariables false

/-- a place, or -1 -/
def placeI : Option Nat → Int
  | some n => n
  | none => -1
theorem atK_found {l : List Item} {q : Bytes} {k : Nat} (hk : k < l.length) (hb : ∀ x ∈ l.take k, x.key ≠ q) (h : l[k].key = q) : placeI (atK l q) = k := by
  have : atK l q = some k := by
    unfold atK
    rw [List.findIdx?_eq_some_iff_getElem]
    refine ⟨hk, by simpa using h, fun j hj => ?_⟩
    have := hb l[j] (List.mem_take_iff_getElem.2 ⟨j, by omega, rfl⟩)
    simpa using this
  rw [this]; rfl
theorem atK_not {l : List Item} {q : Bytes} (hb : ∀ x ∈ l.take l.length, x.key ≠ q) : placeI (atK l q) = -1 := by
  have : atK l q = none := by
    unfold atK
    rw [List.findIdx?_eq_none_iff]
    intro x hx
    have := hb x (by rw [List.take_length]; exact hx)
    simpa using this
  rw [this]; rfl
theorem take_all_succ {α : Type} {l : List α} {p : α → Prop} {k : Nat} (hk : k < l.length) (h : ∀ x ∈ l.take k, p x) (h1 : p l[k]) : ∀ x ∈ l.take (k + 1), p x := by
  intro x hx
  rw [List.take_succ_eq_append_getElem hk] at hx
  rcases List.mem_append.1 hx with hx | hx
  · exact h x hx
  · simp at hx; rw [hx]; exact h1
theorem filter_snoc {l : List Item} {p : Item → Bool} {k : Nat} (hk : k < l.length) : (l.take (k + 1)).filter p = (l.take k).filter p ++ (if p l[k] then [l[k]] else []) := by
  rw [List.take_succ_eq_append_getElem hk, List.filter_append]; simp [List.filter_cons]

set_option maxHeartbeats 2000000 in
theorem rat_any (A : Option Addr) (l : List Item) (c : Nat) (q : Bytes) (w : World) (hF : Fs Item.cells 5 w A l) (hl : l.length ≤ 34359738368) :
    Calls Tryd.prog 22 #[.slice A l.length c, .string ⟨q.toArray⟩] w fun e w' => e = .returned (.int .i64 (placeI (atK l q))) ∧ w = w' := by
  go_enter Tryd.func22, Tryd.ntmps22
  go_wp2_with fail
  go_loop [5] (fun i => ∃ k : Nat, k ≤ l.length ∧ i = .int .i64 k ∧ ∀ x ∈ l.take k, x.key ≠ q) (fun i => l.length - (intOf i).toNat)
  case atStart => exact ⟨0, Nat.zero_le _, rfl, by simp⟩
  case round =>
    obtain ⟨k, hk, rfl, hb⟩ := hrel
    have HB := hide hb; clear hb
    by_cases hlt : k < l.length
    · have hlt' : (k : Int) < l.length := by omega
      obtain ⟨b, off, rfl, hbl, hcell⟩ := hF.cell (fun _ => rfl) (by omega)
      obtain ⟨c0, -, -, -, -⟩ := five hcell (Below.refl _ _) hbl hlt
      by_cases he : l[k].key = q
      · have HR := hide (atK_found hlt HB.out he)
        generalize l[k].key = key at c0 he
        subst he
        clear hcell
        go_wp2_with fail
        go_ret
        rw [HR.out]; exact ⟨rfl, rfl⟩
      · have HN := hide (take_all_succ (p := fun x => x.key ≠ q) hlt HB.out he)
        have hne : (l[k].key == q) = false := by simpa using he
        generalize l[k].key = key at c0 hne
        clear hcell he
        go_wp2_with fail
        exact ⟨⟨k + 1, by omega, by go_num, HN.out⟩, by simp [intOf]; omega⟩
    · have hk' : k = l.length := by omega
      subst hk'
      have HR := hide (atK_not HB.out)
      go_wp2_with fail
      go_ret
      rw [HR.out]; exact ⟨rfl, rfl⟩

set_option maxHeartbeats 4000000 in
theorem rwithout_any (A : Option Addr) (l : List Item) (c : Nat) (q : Bytes) (w : World) (hF : Fs Item.cells 5 w A l) (hl : l.length ≤ 1000000) :
    Calls Tryd.prog 23 #[.slice A l.length c, .string ⟨q.toArray⟩] w (FsOut Item.cells 5 32 w (withoutK l q)) := by
  go_enter Tryd.func23, Tryd.ntmps23
  go_wp2_with fail
  go_loopw [5, 6] (fun o i wr => ∃ (k n : Nat) (A' : Option Addr) (cap' : Nat), k ≤ l.length ∧ i = .int .i64 k ∧ o = .slice A' n cap' ∧ n = ((l.take k).filter fun x => x.key != q).length ∧ wr.ownsRow w.heap.size 32 5 (.slice A' n cap') n (((l.take k).filter fun x => x.key != q).flatMap Item.cells) ∧ Below w.heap.size w wr) (fun _ i _ => l.length - (intOf i).toNat)
  case atStart => exact ⟨0, 0, none, 0, Nat.zero_le _, rfl, rfl, rfl, World.ownsRow_nil _ _ _ _, Below.refl _ _⟩
  case round =>
    obtain ⟨k, n, A', cap', hk, rfl, rfl, hn, hown, hbel⟩ := hrel
    have hnl : n ≤ k := by rw [hn]; have := List.length_filter_le (fun x : Item => x.key != q) (l.take k); rw [List.length_take] at this; omega
    have HN := hide hn; clear hn
    by_cases hlt : k < l.length
    · have hlt' : (k : Int) < l.length := by omega
      obtain ⟨b, off, rfl, hbl, hcell⟩ := hF.cell (fun _ => rfl) (by omega)
      obtain ⟨c0, c1, c2, c3, c4⟩ := five hcell hbel hbl hlt
      have HS := hide (filter_snoc (p := fun x => x.key != q) hlt)
      generalize l[k] = x at c0 c1 c2 c3 c4 HS
      obtain ⟨key, kind, i, s, ver⟩ := x
      have HO := hide hown
      clear hcell hown
      by_cases he : key = q
      · subst he
        go_wp2_with fail
        refine ⟨⟨k + 1, n, A', cap', by omega, by go_num, rfl, ?_, ?_, hbel⟩, by simp [intOf]; omega⟩
        · rw [HS.out, HN.out]; simp
        · rw [HS.out]; simpa using HO.out
      · have hne : (key == q) = false := by simpa using he
        have hne2 : (key != q) = true := by simpa using he
        clear he
        go_wp2_with (at_builtin; refine wpList_appE wr rfl (.tmp 20) (.tmp 25) _ rfl w w.heap.size 32 32 _ 5 56 Tryd.underlying22 info_item rfl (by omega) (by omega) _ n _ #[.string ⟨key.toArray⟩, .int .i64 kind, .int .i64 i, .string ⟨s.toArray⟩, .int .i64 ver] (by rfl) wr.heap.size rfl (by rfl) rfl (item_one _ _ _ _ _) HO.out hbel hbel.size (by omega) ?_; intro g cap w4 hown4 hb4)
        refine ⟨⟨k + 1, n + 1, _, cap, by omega, by go_num, rfl, ?_, ?_, hb4⟩, by simp [intOf]; omega⟩
        · rw [HS.out, List.length_append, ← HN.out]; simp [hne2]
        · rw [HS.out, if_pos hne2, cells_snoc]; exact hown4
    · have hk' : k = l.length := by omega
      subst hk'
      rw [List.take_length] at hown
      have hn := HN.out
      rw [List.take_length] at hn
      have HN2 := hide (show n = (withoutK l q).length from hn); clear hn
      go_wp2_with fail
      go_ret
      refine ⟨A', cap', by rw [← HN2.out]; rfl, ?_, hbel⟩
      rw [← HN2.out]; exact hown

set_option maxHeartbeats 4000000 in
theorem rsame_any (A : Option Addr) (l : List Item) (c : Nat) (B : Option Addr) (m : List Item) (d : Nat) (w : World) (hA : Fs Item.cells 5 w A l) (hB : Fs Item.cells 5 w B m) (hl : l.length ≤ 34359738368) (hm : m.length ≤ 34359738368) :
    Calls Tryd.prog 20 #[.slice A l.length c, .slice B m.length d] w fun e w' => e = .returned (.bool (decide (l = m))) ∧ Drew w w' := by
  by_cases hlen : l.length = m.length
  · have hn : ((l.length : Int) != (m.length : Int)) = false := by simp [hlen]
    have HL := hide hlen
    have hml : m.length ≤ l.length := by omega
    have hlm : l.length ≤ m.length := by omega
    clear hlen
    go_enter Tryd.func20, Tryd.ntmps20
    go_wp2_with fail
    go_loopw [5] (fun i wr => ∃ k n : Nat, k ≤ l.length ∧ i = .int .i64 k ∧ wr = w.drewN n ∧ l.take k = m.take k) (fun i _ => l.length - (intOf i).toNat)
    case atStart => exact ⟨0, 0, Nat.zero_le _, rfl, rfl, by simp⟩
    case round =>
      obtain ⟨k, n, hk, rfl, rfl, heq⟩ := hrel
      have HE := hide heq; clear heq
      by_cases hlt : k < l.length
      · have hlt' : (k : Int) < l.length := by omega
        have hltm : k < m.length := by omega
        have hltm' : (k : Int) < m.length := by omega
        obtain ⟨b, off, rfl, hbl, hcell⟩ := hA.cell (fun _ => rfl) (by omega)
        obtain ⟨c0, c1, c2, c3, c4⟩ := five hcell (Below.refl _ _) hbl hlt
        obtain ⟨b', off', rfl, hbl', hcell'⟩ := hB.cell (fun _ => rfl) (by omega)
        obtain ⟨d0, d1, d2, d3, d4⟩ := five hcell' (Below.refl _ _) hbl' hltm
        by_cases he : l[k] = m[k]
        · have HN := hide (show l.take (k + 1) = m.take (k + 1) from by rw [List.take_succ_eq_append_getElem hlt, List.take_succ_eq_append_getElem hltm, HE.out, he])
          rw [he] at c0 c1 c2 c3 c4
          generalize m[k] = x at c0 c1 c2 c3 c4 d0 d1 d2 d3 d4
          obtain ⟨key, kind, i, s, ver⟩ := x
          clear hcell hcell' he
          go_wp2_with fail
          go_quiet (fail)
          go_wp2_with fail
          exact ⟨⟨k + 1, n + nq, by omega, by go_num, rfl, HN.out⟩, by simp [intOf]; omega⟩
        · have HR := hide (show decide (l = m) = false from by rw [decide_eq_false_iff_not]; rintro rfl; exact he rfl)
          generalize l[k] = y at c0 c1 c2 c3 c4 he
          generalize m[k] = x at d0 d1 d2 d3 d4 he
          obtain ⟨key, kind, i, s, ver⟩ := x
          obtain ⟨key', kind', i', s', ver'⟩ := y
          have hq : ∀ w, (binOp .neq 32 (.agg #[.string ⟨key'.toArray⟩, .int .i64 kind', .int .i64 i', .string ⟨s'.toArray⟩, .int .i64 ver']) (.agg #[.string ⟨key.toArray⟩, .int .i64 kind, .int .i64 i, .string ⟨s.toArray⟩, .int .i64 ver])).run Tryd.prog w = .ok (.bool true) w := fun w => by
            rw [run_neq_item, decide_eq_false he]; rfl
          clear hcell hcell' he
          go_wp2_with fail
          go_quiet (fail)
          go_wp2_with fail
          go_ret
          rw [HR.out]; exact ⟨rfl, by first | exact Drew.mk _ _ | exact Drew.mk2 _ _ _⟩
      · have hk' : k = l.length := by omega
        subst hk'
        have HR := hide (show decide (l = m) = true from by rw [decide_eq_true_iff]; have := HE.out; rwa [List.take_length, HL.out, List.take_length] at this)
        go_wp2_with fail
        go_ret
        rw [HR.out]; exact ⟨rfl, Drew.mk _ _⟩
  · have hn : ((l.length : Int) != (m.length : Int)) = true := by rw [bne_iff_ne]; omega
    have HR := hide (show decide (l = m) = false from by rw [decide_eq_false_iff_not]; rintro rfl; exact hlen rfl)
    clear hlen
    go_enter Tryd.func20, Tryd.ntmps20
    go_wp2_with fail
    go_ret
    rw [HR.out]; exact ⟨rfl, Drew.refl _⟩

set_option maxHeartbeats 8000000 in
theorem rwith_any (A : Option Addr) (l : List Item) (c : Nat) (xk : Bytes) (xkind xi : Int) (xs : Bytes) (xver : Int) (w : World) (hF : Fs Item.cells 5 w A l) (hl : l.length ≤ 1000000) (hxk : xk.length ≤ maxLen) (hkeys : ∀ x ∈ l, x.key.length ≤ maxLen) :
    Calls Tryd.prog 25 #[.slice A l.length c, .agg #[.string ⟨xk.toArray⟩, .int .i64 xkind, .int .i64 xi, .string ⟨xs.toArray⟩, .int .i64 xver]] w (FsOut Item.cells 5 32 w (withK l ⟨xk, xkind, xi, xs, xver⟩)) := by
  have hF1 := hF.alloc (.cells #[.string ⟨xk.toArray⟩, .int .i64 xkind, .int .i64 xi, .string ⟨xs.toArray⟩, .int .i64 xver] 32)
  have HKs := hide hkeys
  have HX := hide hxk
  clear hkeys hF hxk
  go_enter Tryd.func25, Tryd.ntmps25
  go_wp2_with fail
  go_loopw [5, 6] (fun o i wr => ∃ (k n : Nat) (A' : Option Addr) (cap' : Nat), k ≤ l.length ∧ i = .int .i64 k ∧ o = .slice A' n cap' ∧ n = ((l.take k).filter fun x => less x.key xk).length ∧ wr.ownsRow (w.alloc (.cells #[.string ⟨xk.toArray⟩, .int .i64 xkind, .int .i64 xi, .string ⟨xs.toArray⟩, .int .i64 xver] 32)).heap.size 32 5 (.slice A' n cap') n (((l.take k).filter fun x => less x.key xk).flatMap Item.cells) ∧ Below (w.alloc (.cells #[.string ⟨xk.toArray⟩, .int .i64 xkind, .int .i64 xi, .string ⟨xs.toArray⟩, .int .i64 xver] 32)).heap.size (w.alloc (.cells #[.string ⟨xk.toArray⟩, .int .i64 xkind, .int .i64 xi, .string ⟨xs.toArray⟩, .int .i64 xver] 32)) wr) (fun _ i _ => l.length - (intOf i).toNat)
  case atStart => exact ⟨0, 0, none, 0, Nat.zero_le _, rfl, rfl, rfl, World.ownsRow_nil _ _ _ _, Below.refl _ _⟩
  case round =>
    obtain ⟨k, n, A', cap', hk, rfl, rfl, hn, hown, hbel⟩ := hrel
    have hnl : n ≤ k := by rw [hn]; have := List.length_filter_le (fun x : Item => less x.key xk) (l.take k); rw [List.length_take] at this; omega
    have HN := hide hn; clear hn
    have hxc : ∀ o, wr.cell? ⟨w.heap.size, o, none⟩ = (w.alloc (.cells #[.string ⟨xk.toArray⟩, .int .i64 xkind, .int .i64 xi, .string ⟨xs.toArray⟩, .int .i64 xver] 32)).cell? ⟨w.heap.size, o, none⟩ := fun o => hbel.cell (p := ⟨w.heap.size, o, none⟩) (by simp)
    by_cases hlt : k < l.length
    · have hlt' : (k : Int) < l.length := by omega
      obtain ⟨b, off, rfl, hbl, hcell⟩ := hF1.cell (fun _ => rfl) (by omega)
      obtain ⟨c0, c1, c2, c3, c4⟩ := five hcell hbel hbl hlt
      have HS := hide (filter_snoc (p := fun x => less x.key xk) hlt)
      have hkl := HKs.out l[k] (List.getElem_mem hlt)
      generalize l[k] = x at c0 c1 c2 c3 c4 HS hkl
      obtain ⟨key, kind, i, s, ver⟩ := x
      have HO := hide hown; have HL := hide hkl
      clear hcell hown hkl
      cases he : less key xk with
      | false =>
        go_wp2_with fail
        go_quiet ((go_at_call 36; first | exact quiet_drew (rahead_any _ _ _ HL.out HX.out) | exact quiet_drew_add (rahead_any _ _ _ HL.out HX.out)))
        simp only [he]
        go_wp2_with fail
        clear hxc
        refine ⟨⟨k + 1, n, A', cap', by omega, by go_num, rfl, ?_, ?_, below_drewN hbel _⟩, by simp [intOf]; omega⟩
        · rw [HS.out, HN.out]; simp [he]
        · rw [HS.out]; simp only [he, Bool.false_eq_true, if_false, List.append_nil]; exact HO.out
      | true =>
        go_wp2_with fail
        go_quiet ((go_at_call 36; first | exact quiet_drew (rahead_any _ _ _ HL.out HX.out) | exact quiet_drew_add (rahead_any _ _ _ HL.out HX.out)))
        simp only [he]
        go_wp2_with (at_builtin; refine wpList_appE (wr.drewN nq) rfl (.tmp 22) (.tmp 27) _ rfl (w.alloc (.cells #[.string ⟨xk.toArray⟩, .int .i64 xkind, .int .i64 xi, .string ⟨xs.toArray⟩, .int .i64 xver] 32)) (w.alloc (.cells #[.string ⟨xk.toArray⟩, .int .i64 xkind, .int .i64 xi, .string ⟨xs.toArray⟩, .int .i64 xver] 32)).heap.size 32 32 _ 5 56 Tryd.underlying22 info_item rfl (by omega) (by omega) _ n _ #[.string ⟨key.toArray⟩, .int .i64 kind, .int .i64 i, .string ⟨s.toArray⟩, .int .i64 ver] (by rfl) wr.heap.size rfl (by rfl) rfl (item_one _ _ _ _ _) HO.out (below_drewN hbel nq) hbel.size (by omega) ?_; intro g cap w4 hown4 hb4)
        clear hxc
        refine ⟨⟨k + 1, n + 1, _, cap, by omega, by go_num, rfl, ?_, ?_, hb4⟩, by simp [intOf]; omega⟩
        · rw [HS.out, List.length_append, ← HN.out]; simp [he]
        · rw [HS.out, if_pos he, cells_snoc]; exact hown4
    · have hk' : k = l.length := by omega
      subst hk'
      rw [List.take_length] at hown
      have hn0 := HN.out
      rw [List.take_length] at hn0
      obtain ⟨R0, hR0⟩ : ∃ R0 : List Item, R0 = (l.filter fun x => less x.key xk) ++ [⟨xk, xkind, xi, xs, xver⟩] := ⟨_, rfl⟩
      have hnR : n + 1 = R0.length := by rw [hR0, hn0]; simp
      have HNR := hide hnR; have HR0 := hide hR0; have HO := hide hown
      have hcf : ∀ y : Nat, ((l.filter fun x => less x.key xk).flatMap Item.cells ++ [Value.string ⟨xk.toArray⟩, .int .i64 xkind, .int .i64 xi, .string ⟨xs.toArray⟩, .int .i64 xver]) = R0.flatMap Item.cells := fun _ => by rw [hR0, cells_snoc]; rfl
      have HCF := hide (hcf 0)
      clear hcf hnR hR0 hown hn0
      go_wp2_with (at_builtin; refine wpList_appE wr rfl (.tmp 29) (.tmp 31) _ rfl (w.alloc (.cells #[.string ⟨xk.toArray⟩, .int .i64 xkind, .int .i64 xi, .string ⟨xs.toArray⟩, .int .i64 xver] 32)) (w.alloc (.cells #[.string ⟨xk.toArray⟩, .int .i64 xkind, .int .i64 xi, .string ⟨xs.toArray⟩, .int .i64 xver] 32)).heap.size 32 32 _ 5 56 Tryd.underlying22 info_item rfl (by omega) (by omega) _ n _ #[.string ⟨xk.toArray⟩, .int .i64 xkind, .int .i64 xi, .string ⟨xs.toArray⟩, .int .i64 xver] (by rfl) wr.heap.size rfl (by rfl) rfl (item_one _ _ _ _ _) HO.out hbel hbel.size (by omega) ?_; intro g cap w4 hown4 hb4)
      have HO4 := hide hown4
      clear hown4 hxc hbel
      go_loopw [5, 7] (fun o i wr => ∃ (k n : Nat) (A' : Option Addr) (cap' : Nat), k ≤ l.length ∧ i = .int .i64 k ∧ o = .slice A' n cap' ∧ n = (R0 ++ (l.take k).filter fun x => less xk x.key).length ∧ wr.ownsRow (w.alloc (.cells #[.string ⟨xk.toArray⟩, .int .i64 xkind, .int .i64 xi, .string ⟨xs.toArray⟩, .int .i64 xver] 32)).heap.size 32 5 (.slice A' n cap') n ((R0 ++ (l.take k).filter fun x => less xk x.key).flatMap Item.cells) ∧ Below (w.alloc (.cells #[.string ⟨xk.toArray⟩, .int .i64 xkind, .int .i64 xi, .string ⟨xs.toArray⟩, .int .i64 xver] 32)).heap.size (w.alloc (.cells #[.string ⟨xk.toArray⟩, .int .i64 xkind, .int .i64 xi, .string ⟨xs.toArray⟩, .int .i64 xver] 32)) wr) (fun _ i _ => l.length - (intOf i).toNat)
      case atStart =>
        refine ⟨0, n + 1, _, cap, Nat.zero_le _, rfl, rfl, ?_, ?_, hb4⟩
        · simp [HNR.out]
        · have := HO4.out
          simp only [List.take_zero, List.filter_nil, List.append_nil]
          rw [← HCF.out]; exact this
      case round =>
        obtain ⟨k, n, A', cap', hk, rfl, rfl, hn, hown, hbel⟩ := hrel
        have hnl : n ≤ 2 * l.length + 1 := by
          have := List.length_filter_le (fun x : Item => less xk x.key) (l.take k); rw [List.length_take] at this
          rw [hn, List.length_append, ← HNR.out]; omega
        have HN := hide hn; clear hn
        have hxc : ∀ o, wr.cell? ⟨w.heap.size, o, none⟩ = (w.alloc (.cells #[.string ⟨xk.toArray⟩, .int .i64 xkind, .int .i64 xi, .string ⟨xs.toArray⟩, .int .i64 xver] 32)).cell? ⟨w.heap.size, o, none⟩ := fun o => hbel.cell (p := ⟨w.heap.size, o, none⟩) (by simp)
        by_cases hlt : k < l.length
        · have hlt' : (k : Int) < l.length := by omega
          obtain ⟨b, off, rfl, hbl, hcell⟩ := hF1.cell (fun _ => rfl) (by omega)
          obtain ⟨c0, c1, c2, c3, c4⟩ := five hcell hbel hbl hlt
          have HS := hide (filter_snoc (p := fun x => less xk x.key) hlt)
          have hkl := HKs.out l[k] (List.getElem_mem hlt)
          generalize l[k] = x at c0 c1 c2 c3 c4 HS hkl
          obtain ⟨key, kind, i, s, ver⟩ := x
          have HO := hide hown; have HL := hide hkl
          clear hcell hown hkl
          cases he : less xk key with
          | false =>
            go_wp2_with fail
            go_quiet ((go_at_call 36; first | exact quiet_drew (rahead_any _ _ _ HX.out HL.out) | exact quiet_drew_add (rahead_any _ _ _ HX.out HL.out)))
            simp only [he]
            go_wp2_with fail
            clear hxc
            refine ⟨⟨k + 1, n, A', cap', by omega, by go_num, rfl, ?_, ?_, below_drewN hbel _⟩, by simp [intOf]; omega⟩
            · rw [HS.out, HN.out]; simp [he]
            · rw [HS.out]; simp only [he, Bool.false_eq_true, if_false, List.append_nil]; exact HO.out
          | true =>
            go_wp2_with fail
            go_quiet ((go_at_call 36; first | exact quiet_drew (rahead_any _ _ _ HX.out HL.out) | exact quiet_drew_add (rahead_any _ _ _ HX.out HL.out)))
            simp only [he]
            go_wp2_with (at_builtin; refine wpList_appE (wr.drewN nq) rfl (.tmp 47) (.tmp 52) _ rfl (w.alloc (.cells #[.string ⟨xk.toArray⟩, .int .i64 xkind, .int .i64 xi, .string ⟨xs.toArray⟩, .int .i64 xver] 32)) (w.alloc (.cells #[.string ⟨xk.toArray⟩, .int .i64 xkind, .int .i64 xi, .string ⟨xs.toArray⟩, .int .i64 xver] 32)).heap.size 32 32 _ 5 56 Tryd.underlying22 info_item rfl (by omega) (by omega) _ n _ #[.string ⟨key.toArray⟩, .int .i64 kind, .int .i64 i, .string ⟨s.toArray⟩, .int .i64 ver] (by rfl) wr.heap.size rfl (by rfl) rfl (item_one _ _ _ _ _) HO.out (below_drewN hbel nq) hbel.size (by omega) ?_; intro g cap w4 hown4 hb4)
            clear hxc
            refine ⟨⟨k + 1, n + 1, _, cap, by omega, by go_num, rfl, ?_, ?_, hb4⟩, by simp [intOf]; omega⟩
            · rw [HS.out, HN.out]; simp [he]; omega
            · rw [HS.out, if_pos he, ← List.append_assoc, cells_snoc]; exact hown4
        · have hk' : k = l.length := by omega
          subst hk'
          rw [List.take_length] at hown
          have hn := HN.out
          rw [List.take_length] at hn
          have HW := hide (show withK l ⟨xk, xkind, xi, xs, xver⟩ = R0 ++ l.filter fun x => less xk x.key from by rw [HR0.out]; rfl)
          have HN2 := hide (show n = (withK l ⟨xk, xkind, xi, xs, xver⟩).length from by rw [HW.out]; exact hn); clear hn
          clear hxc
          go_wp2_with fail
          go_ret
          refine ⟨A', cap', by rw [← HN2.out]; rfl, ?_, below_trans (gr1 _ _) hbel⟩
          rw [← HN2.out, HW.out]; exact hown.mono (by simp)
end Go.Proofs.YtagdjoabpkmomaaDoor
