/-
  The walk of the law LeafKeeps: its cases joined.
-/
import Derived.Test.YtagdjoabpkmomaaDoorLf3
namespace Go.Proofs.YtagdjoabpkmomaaDoor
open Go.RowKit
set_option maxRecDepth 100000

theorem get_is {r : List Item} {q : Bytes} (hl : r.length ≤ 66) {k : Bytes} {d i : Int} {s : Bytes} {v : Int} {o : Bool} (h1 : (getK r q).getD Item.zero = ⟨k, d, i, s, v⟩) (h2 : (getK r q).isSome = o) (A : Option Addr) (c : Nat) (w : World) (hS : Sig w) (hF : Fs Item.cells 5 w A r) :
    Calls Tryd.prog 17 #[.slice A r.length c, .string ⟨q.toArray⟩] w (fun e w' => e = .returned (.tuple #[.agg #[.string ⟨k.toArray⟩, .int .i64 d, .int .i64 i, .string ⟨s.toArray⟩, .int .i64 v], .bool o]) ∧ Below w.heap.size w w') := by
  have := get_any A r c q w hS hF (by omega)
  rw [h1, h2] at this
  exact this
theorem leafIs_yes {r : List Item} (hl : r.length ≤ 66) (h : leafB r = true) (A : Option Addr) (c : Nat) (w : World) (hS : Sig w) (hF : Fs Item.cells 5 w A r) :
    Calls Tryd.prog 26 #[.slice A r.length c] w (fun e w' => e = .returned (.bool true) ∧ Below w.heap.size w w') := by
  have := leafIs_any A r c w hS hF (by omega)
  rw [h] at this
  exact this
theorem put_yes {m : List Item} (hm : m.length ≤ 66) {k : Bytes} {d i : Int} {s : Bytes} {v : Int} {r : List Item} (h : putK m ⟨k, d, i, s, v⟩ = (r, 0)) (A : Option Addr) (c : Nat) (w : World) (hS : Sig w) (hF : Fs Item.cells 5 w A m) (hc : m.length ≤ c) :
    Calls Tryd.prog 18 #[.slice A m.length c, .agg #[.string ⟨k.toArray⟩, .int .i64 d, .int .i64 i, .string ⟨s.toArray⟩, .int .i64 v]] w (fun e w' => ∃ (A2 : Option Addr) (n2 c2 : Nat), e = .returned (.tuple #[.slice A2 n2 c2, .int .i64 0]) ∧ n2 = r.length ∧ Fs Item.cells 5 w' A2 r ∧ Below w.heap.size w w') :=
  (put_item_any A m c k d i s v w hS hF hc (by omega)).mono fun e w' hh => by
    rw [h] at hh
    obtain ⟨A2, cap, he, hown, hb⟩ := hh
    exact ⟨A2, _, cap, he, rfl, Fs.of_own rfl hown, hb⟩
theorem put_no {m : List Item} (hm : m.length ≤ 66) (k : Bytes) (d i : Int) (s : Bytes) (v : Int) (A : Option Addr) (c : Nat) (w : World) (hS : Sig w) (hF : Fs Item.cells 5 w A m) (hc : m.length ≤ c) :
    Calls Tryd.prog 18 #[.slice A m.length c, .agg #[.string ⟨k.toArray⟩, .int .i64 d, .int .i64 i, .string ⟨s.toArray⟩, .int .i64 v]] w (fun e w' => ∃ (A2 : Option Addr) (n2 c2 : Nat), e = .returned (.tuple #[.slice A2 n2 c2, .int .i64 (putK m ⟨k, d, i, s, v⟩).2]) ∧ Below w.heap.size w w') :=
  (put_item_any A m c k d i s v w hS hF hc (by omega)).mono fun e w' hh => by
    obtain ⟨A2, cap, he, hown, hb⟩ := hh
    exact ⟨A2, _, cap, he, hb⟩
theorem del_yes {m : List Item} (hm : m.length ≤ 66) {q : Bytes} {r : List Item} (h : delK m q = (r, 0)) (A : Option Addr) (c : Nat) (w : World) (hS : Sig w) (hF : Fs Item.cells 5 w A m) (hc : m.length ≤ c) :
    Calls Tryd.prog 19 #[.slice A m.length c, .string ⟨q.toArray⟩] w (fun e w' => ∃ (A2 : Option Addr) (n2 c2 : Nat), e = .returned (.tuple #[.slice A2 n2 c2, .int .i64 0]) ∧ n2 = r.length ∧ Fs Item.cells 5 w' A2 r ∧ Below w.heap.size w w') :=
  (del_any A m c q w hS hF hc (by omega)).mono fun e w' hh => by
    rw [h] at hh
    obtain ⟨A2, cap, he, hown, hb⟩ := hh
    exact ⟨A2, _, cap, he, rfl, Fs.of_own rfl hown, hb⟩
theorem del_no {m : List Item} (hm : m.length ≤ 66) (q : Bytes) (A : Option Addr) (c : Nat) (w : World) (hS : Sig w) (hF : Fs Item.cells 5 w A m) (hc : m.length ≤ c) :
    Calls Tryd.prog 19 #[.slice A m.length c, .string ⟨q.toArray⟩] w (fun e w' => ∃ (A2 : Option Addr) (n2 c2 : Nat), e = .returned (.tuple #[.slice A2 n2 c2, .int .i64 (delK m q).2]) ∧ Below w.heap.size w w') :=
  (del_any A m c q w hS hF hc (by omega)).mono fun e w' hh => by
    obtain ⟨A2, cap, he, hown, hb⟩ := hh
    exact ⟨A2, _, cap, he, hb⟩
theorem nat_ne {n : Nat} (h : ¬ n = 0) : ((n : Int) == 0) = false := by rw [beq_eq_false_iff_ne]; omega

theorem walk_keeps (w : World) (hS : Sig w) (A : Option Addr) (l : List Item) (c : Nat) (xk : Bytes) (xd xi : Int) (xs : Bytes) (xv : Int) (k : Bytes) (hF : Fs Item.cells 5 w A l) (hlc : l.length ≤ c) (hcm : c ≤ maxLen) (hin : ∀ x ∈ l, ItemIn x) (hx : ItemIn ⟨xk, xd, xi, xs, xv⟩) (hk : k.length ≤ maxLen) :
    Calls Tryd.prog 5 #[.slice A l.length c, .agg #[.string ⟨xk.toArray⟩, .int .i64 xd, .int .i64 xi, .string ⟨xs.toArray⟩, .int .i64 xv], .string ⟨k.toArray⟩] w fun e w' => e = .returned (.bool true) ∧ Below w.heap.size w w' := by
  have hfew := few_any A l c (w.alloc (.cells #[.string ⟨xk.toArray⟩, .int .i64 xd, .int .i64 xi, .string ⟨xs.toArray⟩, .int .i64 xv] 32)).drew (Fs.drewN (hF.alloc _) 1) hlc hcm (fun x hx => ⟨(hin x hx).1, (hin x hx).2.1⟩)
  have hml := fewL_len l
  have hs1 := fun w => short_any k w hk
  have hone := fun w => one_any xk xd xi xs xv w hx.1 hx.2.1
  generalize xk.take 60 = yk at hone
  generalize xs.take 200 = ys at hone
  generalize k.take 60 = q at hs1
  generalize fewL l = m at hfew hml
  rcases hg : (getK m q).getD Item.zero with ⟨hk, hd, hi, hs, hv⟩
  have hget := get_is (q := q) hml hg rfl
  by_cases hp : (putK m ⟨yk, xd, xi, ys, xv⟩).2 = 0
  · obtain ⟨e1, hlm, hxi, hlr, h64, hgx, hgo⟩ := put_kept hp
    by_cases hdl : (delK m yk).2 = 0
    · obtain ⟨f1, hlm2, hlr2, hlen2, hgx2, hgo2⟩ := del_kept hdl
      by_cases hqe : q = yk
      · have hq : (q == yk) = true := by simpa using hqe
        exact keeps_yye w hS A l m c xk xd xi xs xv k yk ys q hk hs hd hi hv (getK m q).isSome hml hfew hs1 hone hget (withK m ⟨yk, xd, xi, ys, xv⟩) (put_yes hml (Prod.ext e1 hp)) (leafIs_yes (by omega) hlr) (get_is (by omega) (by rw [hgx]; rfl) (by rw [hgx]; rfl)) (get_is (by omega) (by rw [hqe, hgx]; rfl) (by rw [hqe, hgx]; rfl)) (withoutK m yk) (del_yes hml (Prod.ext f1 hdl)) (by rw [IntWalk.i64_in _ (by omega)]; omega) (leafIs_yes (by omega) hlr2) (get_is (by omega) (by rw [hgx2]; rfl) (by rw [hgx2]; rfl)) (get_is (by omega) (by rw [hqe, hgx2]; rfl) (by rw [hqe, hgx2]; rfl)) hq
      · have hq : (q == yk) = false := by simpa using hqe
        have hqn : q ≠ yk := hqe
        exact keeps_yyu w hS A l m c xk xd xi xs xv k yk ys q hk hs hd hi hv (getK m q).isSome hml hfew hs1 hone hget (withK m ⟨yk, xd, xi, ys, xv⟩) (put_yes hml (Prod.ext e1 hp)) (leafIs_yes (by omega) hlr) (get_is (by omega) (by rw [hgx]; rfl) (by rw [hgx]; rfl)) (get_is (by omega) (by rw [hgo q hqn, hg]) (by rw [hgo q hqn])) (withoutK m yk) (del_yes hml (Prod.ext f1 hdl)) (by rw [IntWalk.i64_in _ (by omega)]; omega) (leafIs_yes (by omega) hlr2) (get_is (by omega) (by rw [hgx2]; rfl) (by rw [hgx2]; rfl)) (get_is (by omega) (by rw [hgo2 q hqn, hg]) (by rw [hgo2 q hqn])) hq
    · skip
      by_cases hqe : q = yk
      · have hq : (q == yk) = true := by simpa using hqe
        exact keeps_yne w hS A l m c xk xd xi xs xv k yk ys q hk hs hd hi hv (getK m q).isSome hml hfew hs1 hone hget (withK m ⟨yk, xd, xi, ys, xv⟩) (put_yes hml (Prod.ext e1 hp)) (leafIs_yes (by omega) hlr) (get_is (by omega) (by rw [hgx]; rfl) (by rw [hgx]; rfl)) (get_is (by omega) (by rw [hqe, hgx]; rfl) (by rw [hqe, hgx]; rfl)) _ (nat_ne hdl) (del_no hml yk) hq
      · have hq : (q == yk) = false := by simpa using hqe
        have hqn : q ≠ yk := hqe
        exact keeps_ynu w hS A l m c xk xd xi xs xv k yk ys q hk hs hd hi hv (getK m q).isSome hml hfew hs1 hone hget (withK m ⟨yk, xd, xi, ys, xv⟩) (put_yes hml (Prod.ext e1 hp)) (leafIs_yes (by omega) hlr) (get_is (by omega) (by rw [hgx]; rfl) (by rw [hgx]; rfl)) (get_is (by omega) (by rw [hgo q hqn, hg]) (by rw [hgo q hqn])) _ (nat_ne hdl) (del_no hml yk) hq
  · skip
    by_cases hdl : (delK m yk).2 = 0
    · obtain ⟨f1, hlm2, hlr2, hlen2, hgx2, hgo2⟩ := del_kept hdl
      by_cases hqe : q = yk
      · have hq : (q == yk) = true := by simpa using hqe
        exact keeps_nye w hS A l m c xk xd xi xs xv k yk ys q hk hs hd hi hv (getK m q).isSome hml hfew hs1 hone hget _ (nat_ne hp) (put_no hml yk xd xi ys xv) (withoutK m yk) (del_yes hml (Prod.ext f1 hdl)) (by rw [IntWalk.i64_in _ (by omega)]; omega) (leafIs_yes (by omega) hlr2) (get_is (by omega) (by rw [hgx2]; rfl) (by rw [hgx2]; rfl)) (get_is (by omega) (by rw [hqe, hgx2]; rfl) (by rw [hqe, hgx2]; rfl)) hq
      · have hq : (q == yk) = false := by simpa using hqe
        have hqn : q ≠ yk := hqe
        exact keeps_nyu w hS A l m c xk xd xi xs xv k yk ys q hk hs hd hi hv (getK m q).isSome hml hfew hs1 hone hget _ (nat_ne hp) (put_no hml yk xd xi ys xv) (withoutK m yk) (del_yes hml (Prod.ext f1 hdl)) (by rw [IntWalk.i64_in _ (by omega)]; omega) (leafIs_yes (by omega) hlr2) (get_is (by omega) (by rw [hgx2]; rfl) (by rw [hgx2]; rfl)) (get_is (by omega) (by rw [hgo2 q hqn, hg]) (by rw [hgo2 q hqn])) hq
    · skip
      exact keeps_nn w hS A l m c xk xd xi xs xv k yk ys q hk hs hd hi hv (getK m q).isSome hml hfew hs1 hone hget _ (nat_ne hp) (put_no hml yk xd xi ys xv) _ (nat_ne hdl) (del_no hml yk)
theorem walk_LeafKeeps (w : World) (hS : Sig w) (A : Option Addr) (l : List Item) (c : Nat) (hF : Fs Item.cells 5 w A l) (hlc : l.length ≤ c) (hcm : c ≤ maxLen) (hin : ∀ x ∈ l, ItemIn x) (xk : Bytes) (xd xi : Int) (xs : Bytes) (xv : Int) (hx : ItemIn ⟨xk, xd, xi, xs, xv⟩) (k : Bytes) (hk : k.length ≤ maxLen) :
    Calls Tryd.prog 5 #[.slice A l.length c, .agg #[.string ⟨xk.toArray⟩, .int .i64 xd, .int .i64 xi, .string ⟨xs.toArray⟩, .int .i64 xv], .string ⟨k.toArray⟩] w fun e w' => e = .returned (.bool true) ∧ Below w.heap.size w w' :=
  walk_keeps w hS A l c xk xd xi xs xv k hF hlc hcm hin hx hk
end Go.Proofs.YtagdjoabpkmomaaDoor
