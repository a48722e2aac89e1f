/-
  The walk of the law LeafDoes: its cases joined. (Printed by gen_doesj.py.)
-/
import Derived.Test.YtagdjoabpkmomaaDoorLf3j
import Derived.Test.YtagdjoabpkmomaaDoorLf2
import Derived.Test.YtagdjoabpkmomaaDoorLf2b
import Derived.Test.YtagdjoabpkmomaaDoorLf2c
namespace Go.Proofs.YtagdjoabpkmomaaDoor
open Go.RowKit
set_option maxRecDepth 100000

theorem same_yes (A B : Option Addr) (c d : Nat) (l : List Item) (w : World) (hA : Fs Item.cells 5 w A l) (hB : Fs Item.cells 5 w B l) (hl : l.length ≤ 100) :
    Calls Tryd.prog 20 #[.slice A l.length c, .slice B l.length d] w (fun e w' => e = .returned (.bool true) ∧ Below w.heap.size w w') :=
  (rsame_any A l c B l d w hA hB (by omega) (by omega)).mono fun e w' h => ⟨by simpa using h.1, drew_gr h.2⟩
theorem is_of {m : List Item} {b : Bool} (hm : m.length ≤ 66) (hk : ∀ x ∈ m, x.key.length ≤ maxLen) (h : leafB m = b) (A : Option Addr) (c : Nat) (w : World) (hF : Fs Item.cells 5 w A m) :
    Calls Tryd.prog 21 #[.slice A m.length c] w (fun e w' => e = .returned (.bool b) ∧ Below w.heap.size w w') := by
  rw [← h]; exact ris_any A m c w hF (by omega) hk
theorem at_of {m : List Item} {q : Bytes} {p : Int} (hm : m.length ≤ 66) (h : placeI (atK m q) = p) (A : Option Addr) (c : Nat) (w : World) (hF : Fs Item.cells 5 w A m) :
    Calls Tryd.prog 22 #[.slice A m.length c, .string ⟨q.toArray⟩] w (fun e w' => e = .returned (.int .i64 p) ∧ Below w.heap.size w w') := by
  rw [← h]; exact (rat_any A m c q w hF (by omega)).mono fun e w' h => ⟨h.1, by rw [← h.2]; exact Below.refl _ _⟩
theorem put_nil {m : List Item} (hm : m.length ≤ 66) {k : Bytes} {d i : Int} {s : Bytes} {v : Int} {n : Nat} (h : putK m ⟨k, d, i, s, v⟩ = ([], n)) (A : Option Addr) (c : Nat) (w : World) (hS : Sig w) (hF : Fs Item.cells 5 w A m) (hc : m.length ≤ c) :
    Calls Tryd.prog 18 #[.slice A m.length c, .agg #[.string ⟨k.toArray⟩, .int .i64 d, .int .i64 i, .string ⟨s.toArray⟩, .int .i64 v]] w (fun e w' => ∃ (A2 : Option Addr) (c2 : Nat), e = .returned (.tuple #[.slice A2 0 c2, .int .i64 n]) ∧ Below w.heap.size w w') :=
  (put_item_any A m c k d i s v w hS hF hc (by omega)).mono fun e w' hh => by
    rw [h] at hh
    obtain ⟨A2, cap, he, hown, hb⟩ := hh
    exact ⟨A2, cap, he, hb⟩
theorem put_ok {m : List Item} (hm : m.length ≤ 66) {k : Bytes} {d i : Int} {s : Bytes} {v : Int} {r : List Item} (h : putK m ⟨k, d, i, s, v⟩ = (r, 0)) (A : Option Addr) (c : Nat) (w : World) (hS : Sig w) (hF : Fs Item.cells 5 w A m) (hc : m.length ≤ c) :
    Calls Tryd.prog 18 #[.slice A m.length c, .agg #[.string ⟨k.toArray⟩, .int .i64 d, .int .i64 i, .string ⟨s.toArray⟩, .int .i64 v]] w (fun e w' => ∃ (A2 : Option Addr) (c2 : Nat), e = .returned (.tuple #[.slice A2 r.length c2, .int .i64 0]) ∧ Fs Item.cells 5 w' A2 r ∧ Below w.heap.size w w') :=
  (put_item_any A m c k d i s v w hS hF hc (by omega)).mono fun e w' hh => by
    rw [h] at hh
    obtain ⟨A2, cap, he, hown, hb⟩ := hh
    exact ⟨A2, cap, he, Fs.of_own rfl hown, hb⟩
theorem del_nil {m : List Item} (hm : m.length ≤ 66) {q : Bytes} {n : Nat} (h : delK m q = ([], n)) (A : Option Addr) (c : Nat) (w : World) (hS : Sig w) (hF : Fs Item.cells 5 w A m) (hc : m.length ≤ c) :
    Calls Tryd.prog 19 #[.slice A m.length c, .string ⟨q.toArray⟩] w (fun e w' => ∃ (A2 : Option Addr) (c2 : Nat), e = .returned (.tuple #[.slice A2 0 c2, .int .i64 n]) ∧ Below w.heap.size w w') :=
  (del_any A m c q w hS hF hc (by omega)).mono fun e w' hh => by
    rw [h] at hh
    obtain ⟨A2, cap, he, hown, hb⟩ := hh
    exact ⟨A2, cap, he, hb⟩
theorem del_ok {m : List Item} (hm : m.length ≤ 66) {q : Bytes} {r : List Item} (h : delK m q = (r, 0)) (A : Option Addr) (c : Nat) (w : World) (hS : Sig w) (hF : Fs Item.cells 5 w A m) (hc : m.length ≤ c) :
    Calls Tryd.prog 19 #[.slice A m.length c, .string ⟨q.toArray⟩] w (fun e w' => ∃ (A2 : Option Addr) (c2 : Nat), e = .returned (.tuple #[.slice A2 r.length c2, .int .i64 0]) ∧ Fs Item.cells 5 w' A2 r ∧ Below w.heap.size w w') :=
  (del_any A m c q w hS hF hc (by omega)).mono fun e w' hh => by
    rw [h] at hh
    obtain ⟨A2, cap, he, hown, hb⟩ := hh
    exact ⟨A2, cap, he, Fs.of_own rfl hown, hb⟩
theorem wo_of {m : List Item} (hm : m.length ≤ 66) (q : Bytes) (A : Option Addr) (c : Nat) (w : World) (hF : Fs Item.cells 5 w A m) :
    Calls Tryd.prog 23 #[.slice A m.length c, .string ⟨q.toArray⟩] w (fun e w' => ∃ (A2 : Option Addr) (c2 : Nat), e = .returned (.slice A2 (withoutK m q).length c2) ∧ Fs Item.cells 5 w' A2 (withoutK m q) ∧ Below w.heap.size w w') :=
  (rwithout_any A m c q w hF (by omega)).mono fun e w' ⟨A2, cap, he, hown, hb⟩ => ⟨A2, cap, he, Fs.of_own rfl hown, hb⟩
theorem with_of {m : List Item} (hm : m.length ≤ 66) (hk : ∀ x ∈ m, x.key.length ≤ maxLen) (k : Bytes) (d i : Int) (s : Bytes) (v : Int) (hkk : k.length ≤ maxLen) (A : Option Addr) (c : Nat) (w : World) (hF : Fs Item.cells 5 w A m) :
    Calls Tryd.prog 25 #[.slice A m.length c, .agg #[.string ⟨k.toArray⟩, .int .i64 d, .int .i64 i, .string ⟨s.toArray⟩, .int .i64 v]] w (fun e w' => ∃ (A2 : Option Addr) (c2 : Nat), e = .returned (.slice A2 (withK m ⟨k, d, i, s, v⟩).length c2) ∧ Fs Item.cells 5 w' A2 (withK m ⟨k, d, i, s, v⟩) ∧ Below w.heap.size w w') :=
  (rwith_any A m c k d i s v w hF (by omega) hkk hk).mono fun e w' ⟨A2, cap, he, hown, hb⟩ => ⟨A2, cap, he, Fs.of_own rfl hown, hb⟩
theorem may_of {k : Bytes} {d i : Int} {s : Bytes} {v : Int} {b : Bool} (hk : k.length ≤ maxLen) (h : itemB ⟨k, d, i, s, v⟩ = b) (w : World) :
    Calls Tryd.prog 24 #[.agg #[.string ⟨k.toArray⟩, .int .i64 d, .int .i64 i, .string ⟨s.toArray⟩, .int .i64 v]] w (fun e w' => e = .returned (.bool b) ∧ Below w.heap.size w w') := by
  rw [← h]; exact rmay_any k d i s v w hk
theorem at_no {m : List Item} (hs : SortedK m) {q : Bytes} (h : thereK m q = false) : placeI (atK m q) = -1 := by rw [atK_sorted hs, h, if_neg (by simp)]; rfl
theorem at_yes {m : List Item} (hs : SortedK m) {q : Bytes} (h : thereK m q = true) : placeI (atK m q) = (posK m q : Nat) := by rw [atK_sorted hs, h, if_pos rfl]; rfl

set_option maxHeartbeats 1000000 in
theorem walk_LeafDoes (w : World) (hS : Sig w) (A : Option Addr) (l : List Item) (c : Nat) (hF : Fs Item.cells 5 w A l) (hlc : l.length ≤ c) (hcm : c ≤ maxLen) (hin : ∀ x ∈ l, ItemIn x) (xk : Bytes) (xd xi : Int) (xs : Bytes) (xv : Int) (hx : ItemIn ⟨xk, xd, xi, xs, xv⟩) (k : Bytes) (hk : k.length ≤ maxLen) :
    Calls Tryd.prog 4 #[.slice A l.length c, .agg #[.string ⟨xk.toArray⟩, .int .i64 xd, .int .i64 xi, .string ⟨xs.toArray⟩, .int .i64 xv], .string ⟨k.toArray⟩] w fun e w' => e = .returned (.bool true) ∧ Below w.heap.size w w' := by
  have hfew := few_any A l c (w.alloc (.cells #[.string ⟨xk.toArray⟩, .int .i64 xd, .int .i64 xi, .string ⟨xs.toArray⟩, .int .i64 xv] 32)).drew (Fs.drewN (hF.alloc _) 1) hlc hcm (fun x hx => ⟨(hin x hx).1, (hin x hx).2.1⟩)
  have hml := fewL_len l
  have hmk := fewL_key (l := l)
  have hs1 := fun w => short_any k w hk
  have hone := fun w => one_any xk xd xi xs xv w hx.1 hx.2.1
  have hyk : (xk.take 60).length ≤ maxLen := by simp [maxLen]; omega
  generalize xk.take 60 = yk at hone hyk
  generalize xs.take 200 = ys at hone
  generalize k.take 60 = q at hs1
  generalize fewL l = m at hfew hml hmk
  cases hlf : leafB m with
  | false =>
    have hp : putK m ⟨yk, xd, xi, ys, xv⟩ = ([], 1) := by unfold putK; rw [hlf]; rfl
    have hd : delK m q = ([], 1) := by unfold delK; rw [hlf]; rfl
    have hg := getK_no (q := q) hlf
    exact does_n w hS A l m c xk xd xi xs xv k yk ys q hml hfew hs1 hone (get_is hml (by rw [hg]; rfl) (by rw [hg]; rfl)) (put_nil hml hp) (del_nil hml hd) same_yes (is_of hml hmk hlf)
  | true =>
    have hs := ((leafB_iff m).1 hlf).2.2
    have h64 := ((leafB_iff m).1 hlf).1
    cases ht : thereK m q with
    | false =>
      have hd : delK m q = ([], 6) := by unfold delK; rw [hlf, ht]; rfl
      have hg := getK_none (l := m) ht
      cases hit : itemB ⟨yk, xd, xi, ys, xv⟩ with
      | false =>
        have hp : putK m ⟨yk, xd, xi, ys, xv⟩ = ([], 1) := by unfold putK; rw [hlf, hit]; rfl
        exact does_am w hS A l m c xk xd xi xs xv k yk ys q hml hfew hs1 hone (get_is hml (by rw [hg]; rfl) (by rw [hg]; rfl)) (put_nil hml hp) (del_nil hml hd) same_yes (is_of hml hmk hlf) (at_of hml (at_no hs ht)) (may_of hyk hit)
      | true =>
        cases ht2 : thereK m yk with
        | false =>
          by_cases hful : m.length = 64
          · have hp : putK m ⟨yk, xd, xi, ys, xv⟩ = ([], 5) := by unfold putK; rw [hlf, hit, ht2, hful]; rfl
            exact does_af w hS A l m c xk xd xi xs xv k yk ys q hml hfew hs1 hone (get_is hml (by rw [hg]; rfl) (by rw [hg]; rfl)) (put_nil hml hp) (del_nil hml hd) same_yes (is_of hml hmk hlf) (at_of hml (at_no hs ht)) (may_of hyk hit) (at_of hml (at_no hs ht2)) hful
          · have hfb : (m.length == 64) = false := by simpa using hful
            have hp : putK m ⟨yk, xd, xi, ys, xv⟩ = (withK m ⟨yk, xd, xi, ys, xv⟩, 0) := by unfold putK; rw [hlf, hit, ht2, hfb]; rfl
            have hlr : (withK m ⟨yk, xd, xi, ys, xv⟩).length ≤ 100 := by rw [withK_len hs]; split <;> omega
            exact does_ao w hS A l m c xk xd xi xs xv k yk ys q hml hfew hs1 hone (get_is hml (by rw [hg]; rfl) (by rw [hg]; rfl)) (withK m ⟨yk, xd, xi, ys, xv⟩) (put_ok hml hp) (del_nil hml hd) same_yes (is_of hml hmk hlf) (at_of hml (at_no hs ht)) (may_of hyk hit) (at_of hml (at_no hs ht2)) (by rw [beq_eq_false_iff_ne]; omega) hlr (with_of hml hmk yk xd xi ys xv hyk)
        | true =>
          have hp : putK m ⟨yk, xd, xi, ys, xv⟩ = (withK m ⟨yk, xd, xi, ys, xv⟩, 0) := by unfold putK; rw [hlf, hit, ht2]; rfl
          have hlr : (withK m ⟨yk, xd, xi, ys, xv⟩).length ≤ 100 := by rw [withK_len hs]; split <;> omega
          exact does_aw w hS A l m c xk xd xi xs xv k yk ys q hml hfew hs1 hone (get_is hml (by rw [hg]; rfl) (by rw [hg]; rfl)) (withK m ⟨yk, xd, xi, ys, xv⟩) (put_ok hml hp) (del_nil hml hd) same_yes (is_of hml hmk hlf) (at_of hml (at_no hs ht)) (may_of hyk hit) (posK m yk) (at_of hml (at_yes hs ht2)) hlr (with_of hml hmk yk xd xi ys xv hyk)
    | true =>
      have hd : delK m q = (withoutK m q, 0) := by unfold delK; rw [hlf, ht]; rfl
      have hg := getK_some hlf ht
      have hwl : (withoutK m q).length ≤ 66 := by have := withoutK_len hs q ht; omega
      rcases hat : m[posK m q]'(there_lt ht) with ⟨hk', hd', hi', hs', hv'⟩
      rw [hat] at hg
      cases hit : itemB ⟨yk, xd, xi, ys, xv⟩ with
      | false =>
        have hp : putK m ⟨yk, xd, xi, ys, xv⟩ = ([], 1) := by unfold putK; rw [hlf, hit]; rfl
        exact does_tm w hS A l m c xk xd xi xs xv k yk ys q hml hfew hs1 hone hk' hs' hd' hi' hv' (posK m q) (there_lt ht) hat (get_is hml (by rw [hg]; rfl) (by rw [hg]; rfl)) (put_nil hml hp) (withoutK m q) (del_ok hml hd) same_yes (is_of hml hmk hlf) (at_of hml (at_yes hs ht)) hwl (wo_of hml q) (may_of hyk hit)
      | true =>
        cases ht2 : thereK m yk with
        | false =>
          by_cases hful : m.length = 64
          · have hp : putK m ⟨yk, xd, xi, ys, xv⟩ = ([], 5) := by unfold putK; rw [hlf, hit, ht2, hful]; rfl
            exact does_tf w hS A l m c xk xd xi xs xv k yk ys q hml hfew hs1 hone hk' hs' hd' hi' hv' (posK m q) (there_lt ht) hat (get_is hml (by rw [hg]; rfl) (by rw [hg]; rfl)) (put_nil hml hp) (withoutK m q) (del_ok hml hd) same_yes (is_of hml hmk hlf) (at_of hml (at_yes hs ht)) hwl (wo_of hml q) (may_of hyk hit) (at_of hml (at_no hs ht2)) hful
          · have hfb : (m.length == 64) = false := by simpa using hful
            have hp : putK m ⟨yk, xd, xi, ys, xv⟩ = (withK m ⟨yk, xd, xi, ys, xv⟩, 0) := by unfold putK; rw [hlf, hit, ht2, hfb]; rfl
            have hlr : (withK m ⟨yk, xd, xi, ys, xv⟩).length ≤ 100 := by rw [withK_len hs]; split <;> omega
            exact does_to w hS A l m c xk xd xi xs xv k yk ys q hml hfew hs1 hone hk' hs' hd' hi' hv' (posK m q) (there_lt ht) hat (get_is hml (by rw [hg]; rfl) (by rw [hg]; rfl)) (withK m ⟨yk, xd, xi, ys, xv⟩) (put_ok hml hp) (withoutK m q) (del_ok hml hd) same_yes (is_of hml hmk hlf) (at_of hml (at_yes hs ht)) hwl (wo_of hml q) (may_of hyk hit) (at_of hml (at_no hs ht2)) (by rw [beq_eq_false_iff_ne]; omega) hlr (with_of hml hmk yk xd xi ys xv hyk)
        | true =>
          have hp : putK m ⟨yk, xd, xi, ys, xv⟩ = (withK m ⟨yk, xd, xi, ys, xv⟩, 0) := by unfold putK; rw [hlf, hit, ht2]; rfl
          have hlr : (withK m ⟨yk, xd, xi, ys, xv⟩).length ≤ 100 := by rw [withK_len hs]; split <;> omega
          exact does_tw w hS A l m c xk xd xi xs xv k yk ys q hml hfew hs1 hone hk' hs' hd' hi' hv' (posK m q) (there_lt ht) hat (get_is hml (by rw [hg]; rfl) (by rw [hg]; rfl)) (withK m ⟨yk, xd, xi, ys, xv⟩) (put_ok hml hp) (withoutK m q) (del_ok hml hd) same_yes (is_of hml hmk hlf) (at_of hml (at_yes hs ht)) hwl (wo_of hml q) (may_of hyk hit) (posK m yk) (at_of hml (at_yes hs ht2)) hlr (with_of hml hmk yk xd xi ys xv hyk)
end Go.Proofs.YtagdjoabpkmomaaDoor
