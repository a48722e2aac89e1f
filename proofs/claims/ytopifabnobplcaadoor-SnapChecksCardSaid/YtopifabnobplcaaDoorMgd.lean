/-
  Texts laid together, part 4 of 6: laws of a walk over data, contracts of functions, each whole by itself.
-/
import Derived.Test.YtopifabnobplcaaDoorMgc
import Derived.Deep.RegionHeld3
import Derived.Deep.Onto
import Derived.Deep.DrawnRows
import Derived.Test.YtopifabnobplcaaDoorMgb
import Derived.Test.YtopifabnobplcaaDoorProg
import Derived.KernelRfl
import Derived.WalkKit
import Derived.OwnWalk
namespace Go.Proofs.YtopifabnobplcaaDoor
open Go.RowKit
set_option maxRecDepth 100000
set_option linter.unusedSimpArgs false
set_option linter.unusedVariables false
theorem own_new (w : World) (base e size n : Nat) (cs : Array Value) (hb : base ≤ w.heap.size) (hs : cs.size = n * size) (hm : n ≤ maxLen) :
    (w.alloc (.cells cs e)).ownsRow base e size (.slice (some ⟨w.heap.size, 0, none⟩) n n) n cs.toList :=
  ⟨by simpa using hs, .inr ⟨w.heap.size, n, cs, rfl, hb, heap_alloc_new w _, Nat.le_refl _, hm, hs, List.take_of_length_le (by simp; omega)⟩⟩
theorem own_below {w w' : World} {base : Nat} {e : TypeId} {size : Nat} {v : Value} {n : Nat} {xs : List Value} (h : w.ownsRow base e size v n xs) (hb : Below w.heap.size w w') : w'.ownsRow base e size v n xs :=
  h.kept (row := none) ⟨hb.os, hb.tape, hb.output, hb.size, fun i hi _ => hb.block i hi⟩ (by cases hv : v.ownBlock <;> simp)
theorem wpList_appE {P : Program} (w : World) {ops : Array Oper} {rest : List Oper} {o : Oper} {a : Act} {Q : Exit → Act → World → Prop} (hgd : o.guard = none) (s x : Operand) (t : TypeId)
    (ho : o.op = .call { callee := .builtin .append, args := #[s, x], argTypes := #[t, t] })
    (w0 : World) (base : Nat) (e te : TypeId) (z : Value) (size bytes : Nat) (ht : P.underlying t = some (.slice e)) (hi : (P.info? e).map (fun i => (i.zero, i.size, i.bytes)) = some (some z, size, bytes))
    (hzs : z.cells.size = size) (hsz : 0 < size) (hby : bytes ≤ 4096)
    (v : Value) (n : Nat) (xs : List Value) (cs : Array Value) (hs : a.eval s = v) (H : Nat) (hH : w.heap.size = H) (hx : a.eval x = .slice (some ⟨H, 0, none⟩) 1 1) (hcs : cs.size = size) (h1 : ∀ u ∈ cs.toList, u.oneCell' = true)
    (hown : w.ownsRow base e size v n xs) (hbel : Below base w0 w) (hbase : base ≤ w.heap.size) (hroom : n + 1 ≤ 34359738368)
    (h : ∀ g cap w', w'.ownsRow base e size (.slice (some ⟨g, 0, none⟩) (n + 1) cap) (n + 1) (xs ++ cs.toList) → Below base w0 w' → wpList P ops Q rest (a.put o.dst (.slice (some ⟨g, 0, none⟩) (n + 1) cap)) w') :
    wpList P ops Q (o :: rest) a (w.alloc (.cells cs te)) := by
  subst hH
  refine wpList_app (w.alloc (.cells cs te)) hgd s x t ho w0 base e z size bytes ht hi hzs hsz hby v n xs hs (hown.alloc _) (hbel.alloc hbase _) ⟨w.heap.size, 0, none⟩ 1 1 cs.toList hx (by simp [hcs]) (fun j u hj => ?_)
    h1 (by omega) hroom (by simp; omega) ?_
  · rw [show (⟨w.heap.size, 0, none⟩ : Addr).add j = ⟨w.heap.size, j, none⟩ from by unfold Addr.add; split <;> simp_all, (Blk.new w te cs).cell]
    simpa using hj
  intro g cap w' hown' hb' _
  exact h g cap w' hown' hb'
theorem wp_appAny {P : Program} (w : World) {o : Oper} {a : Act} {K : Act → World → Prop} {Q : Exit → Act → World → Prop} (s x : Operand) (t : TypeId)
    (ho : o.op = .call { callee := .builtin .append, args := #[s, x], argTypes := #[t, t] })
    (w0 : World) (base : Nat) (e : TypeId) (z : Value) (size bytes : Nat) (ht : P.underlying t = some (.slice e)) (hi : (P.info? e).map (fun i => (i.zero, i.size, i.bytes)) = some (some z, size, bytes))
    (hzs : z.cells.size = size) (hsz : 0 < size) (hby : bytes ≤ 4096)
    (v : Value) (n : Nat) (xs : List Value) (hs : a.eval s = v) (hown : w.ownsRow base e size v n xs) (hbel : Below base w0 w)
    (A : Option Addr) (m c : Nat) (news : List Value) (hx : a.eval x = .slice A m c) (hr : Rd w A size m news) (h1 : ∀ u ∈ news, u.oneCell' = true) (hroom : n + m ≤ 34359738368) (hbase : base ≤ w.heap.size)
    (h : ∀ A' cap' w', w'.ownsRow base e size (.slice A' (n + m) cap') (n + m) (xs ++ news) → Below base w0 w' → K (a.put o.dst (.slice A' (n + m) cap')) w') : Oper.wp P o a w K Q := by
  obtain ⟨A', cap', w', hrun, h2, h3⟩ := run_append_rd w base t o.type e z size bytes ht hi hzs hsz hby v n xs hown A m c news hr h1 hroom hbase
  unfold Oper.wp execOp
  simp only [ho, resolve, invoke, builtin, Sem.run_bind, Sem.run_pure, Result.andThen_ok, List.map_toArray, List.map_cons, List.map_nil, hs, hx, hrun]
  exact h A' cap' w' h2 (hbel.grown h3 hbase fun k hk => (hown.lt k hk).1)
theorem step_appAny {P : Program} (w : World) {ops : Array Oper} {o : Oper} {a : Act} {K : Act → World → Prop} {Q : Exit → Act → World → Prop} {E : Prop} (hgd : o.guard = none) (s x : Operand) (t : TypeId)
    (ho : o.op = .call { callee := .builtin .append, args := #[s, x], argTypes := #[t, t] })
    (w0 : World) (base : Nat) (e : TypeId) (z : Value) (size bytes : Nat) (ht : P.underlying t = some (.slice e)) (hi : (P.info? e).map (fun i => (i.zero, i.size, i.bytes)) = some (some z, size, bytes))
    (hzs : z.cells.size = size) (hsz : 0 < size) (hby : bytes ≤ 4096)
    (v : Value) (n : Nat) (xs : List Value) (hs : a.eval s = v) (hown : w.ownsRow base e size v n xs) (hbel : Below base w0 w)
    (A : Option Addr) (m c : Nat) (news : List Value) (hx : a.eval x = .slice A m c) (hr : Rd w A size m news) (h1 : ∀ u ∈ news, u.oneCell' = true) (hroom : n + m ≤ 34359738368) (hbase : base ≤ w.heap.size)
    (h : ∀ A' cap' w', w'.ownsRow base e size (.slice A' (n + m) cap') (n + m) (xs ++ news) → Below base w0 w' → K (a.put o.dst (.slice A' (n + m) cap')) w') :
    if Region.wanted o (yielded ops a.tmps) = true then Oper.wp P o a w K Q else E := by
  have hw : Region.wanted o (yielded ops a.tmps) = true := by simp [Region.wanted, hgd]
  rw [if_pos hw]
  exact wp_appAny w s x t ho w0 base e z size bytes ht hi hzs hsz hby v n xs hs hown hbel A m c news hx hr h1 hroom hbase h
theorem bz {w w1 : World} {o : Obj} (hb : Below (w.alloc o).heap.size (w.alloc o) w1) : w.heap.size < w1.heap.size := by have := hb.size; simp at this; omega
def encP (kind i : Int) (s : Bytes) : Bytes := if valB kind i s then encV kind i s else []
theorem encP_no {kind i : Int} {s : Bytes} (h : valB kind i s = false) : encP kind i s = [] := by unfold encP; rw [h]; rfl
theorem encP_yes {kind i : Int} {s : Bytes} (h : valB kind i s = true) : encP kind i s = encV kind i s := by unfold encP; rw [if_pos h]
theorem valB_cases {kind i : Int} {s : Bytes} (h : valB kind i s = true) :
    (kind = 0 ∧ i = 0 ∧ s = []) ∨ (kind = 1 ∧ (i = 0 ∨ i = 1) ∧ s = []) ∨ (kind = 2 ∧ s = []) ∨ (kind = 3 ∧ i = 0 ∧ s.length ≤ 64) := by
  unfold valB at h
  simp only [Bool.or_eq_true, Bool.and_eq_true, beq_iff_eq, List.isEmpty_iff, decide_eq_true_eq] at h
  rcases h with ((⟨⟨h1, h2⟩, h3⟩ | ⟨⟨h1, h2⟩, h3⟩) | ⟨h1, h2⟩) | ⟨⟨h1, h2⟩, h3⟩
  · exact .inl ⟨h1, h2, h3⟩
  · exact .inr (.inl ⟨h1, h2, h3⟩)
  · exact .inr (.inr (.inl ⟨h1, h2⟩))
  · exact .inr (.inr (.inr ⟨h1, h2, h3⟩))
theorem out_cons {t : TypeId} {w w' : World} {d : UInt8} {D : Int} {l : Bytes} {A : Option Addr} {c : Nat} (hd : D = (d.toNat : Int)) (hown : w'.ownsRow w.heap.size t 1 (.slice A (1 + l.length) c) (1 + l.length) ([.int .u8 D] ++ l.map cB)) (hb : Below w.heap.size w w') :
    BytesOut t w (d :: l) (.returned (.slice A (1 + l.length) c)) w' := by
  subst hd
  refine bytesOut_of (by simp; omega) ?_ hb
  rw [show (d :: l).length = 1 + l.length from by simp; omega]
  exact hown
theorem enc_no (kind i : Int) (s : Bytes) (w : World) (h : valB kind i s = false) :
    Calls Tryd.prog 53 #[.agg #[.int .i64 kind, .int .i64 i, .string ⟨s.toArray⟩]] w (BytesOut 5 w (encP kind i s)) := by
  have HF := hide (encP_no h)
  go_enter Tryd.func53, Tryd.ntmps53
  go_wp2_with (go_at_call 62; refine (valmay_any kind i s _).mono ?_; rintro e w1 ⟨rfl, hb⟩; obtain ⟨hc, hf⟩ := bcell hb; have hz := bz hb)
  go_ret
  rw [HF.out]
  exact ⟨_, _, rfl, World.ownsRow_nil _ _ _ _, below_trans (gr1 _ _) hb⟩
theorem enc_0 (w : World) :
    Calls Tryd.prog 53 #[.agg #[.int .i64 0, .int .i64 0, .string ⟨#[]⟩]] w (BytesOut 5 w [0]) := by
  have hv : valB 0 0 [] = true := by decide
  go_enter Tryd.func53, Tryd.ntmps53
  go_wp2_with (go_at_call 62; refine (valmay_any 0 0 [] _).mono ?_; rintro e w1 ⟨rfl, hb⟩; obtain ⟨hc, hf⟩ := bcell hb; have hz := bz hb)
  go_ret
  have hs := hb.size
  exact ⟨_, _, rfl, own_new w1 _ _ 1 1 #[.int .u8 0] (by simp at hs; omega) rfl (by simp [maxLen]), (below_trans (gr1 _ _) hb).alloc (by simp at hs; omega) _⟩
theorem enc_1 (i : Nat) (hi : i ≤ 1) (w : World) :
    Calls Tryd.prog 53 #[.agg #[.int .i64 1, .int .i64 (i : Int), .string ⟨#[]⟩]] w (BytesOut 5 w [1, UInt8.ofNat i]) := by
  have hv : valB 1 (i : Int) [] = true := by rcases (show i = 0 ∨ i = 1 by omega) with rfl | rfl <;> decide
  have HC := hide (cB_of i (by omega))
  go_enter Tryd.func53, Tryd.ntmps53
  go_wp2_with (first
    | (go_at_call 62; refine (valmay_any 1 i [] _).mono ?_; rintro e w1 ⟨rfl, hb⟩; obtain ⟨hc, hf⟩ := bcell hb; have hz := bz hb)
    | (at_builtin; refine wpList_appE (w1.alloc (.cells #[.int .u8 1] 5)) rfl (.tmp 15) (.tmp 19) _ rfl w w.heap.size 5 5 _ 1 1 Tryd.underlying84 info_u8 rfl (by omega) (by omega) _ 1 [.int .u8 1] #[.int .u8 (i : Int)] (by rfl) (w1.heap.size + 1) (by simp) (by rfl) rfl (by simp [Value.oneCell'])
        (own_new w1 _ _ 1 1 #[.int .u8 1] (by omega) rfl (by simp [maxLen])) ((below_trans (gr1 _ _) hb).alloc (by omega) _) (by simp; omega) (by omega) ?_; intro g cap w2 hown2 hb2))
  go_ret
  exact ⟨_, _, rfl, by rw [List.map_cons, List.map_cons, HC.out]; exact hown2, hb2⟩
theorem enc_2 (i : Int) (h0 : -9223372036854775808 ≤ i) (h1 : i < 9223372036854775808) (w : World) :
    Calls Tryd.prog 53 #[.agg #[.int .i64 2, .int .i64 i, .string ⟨#[]⟩]] w (BytesOut 5 w (2 :: put (zig i))) := by
  have hv : valB 2 i [] = true := by simp [valB]
  have hp := put_len (zig i) (zig_lt i h0 h1)
  go_enter Tryd.func53, Tryd.ntmps53
  go_wp2_with (first
    | (go_at_call 62; refine (valmay_any 2 i [] _).mono ?_; rintro e w1 ⟨rfl, hb⟩; obtain ⟨hc, hf⟩ := bcell hb; have hz := bz hb; have hown := own_new w1 w.heap.size 5 1 1 #[.int .u8 2] (by omega) rfl (by simp [maxLen]); have hbl := (below_trans (gr1 _ _) hb).alloc (Nat.le_of_lt hz) (.cells #[.int .u8 2] 5))
    | (go_at_call 63; refine (putint_any i h0 h1 _).mono ?_; rintro e w2 ⟨A2, c2, rfl, hown2, hb2⟩; have hr2 := Rd.of_own hown2; have hown3 := own_below hown hb2; have hbl3 := hbl.trans (hb2.mono hbl.size))
    | (at_builtin; refine wpList_appAny _ rfl (.tmp 23) (.tmp 26) _ rfl w w.heap.size 5 _ 1 1 Tryd.underlying84 info_u8 rfl (by omega) (by omega) _ 1 [.int .u8 2] (by rfl) hown3 hbl3 _ _ _ _ (by rfl) hr2 (cB_one _) (by omega) hbl3.size ?_; intro A4 c4 w4 hown4 hb4))
  go_ret
  exact out_cons rfl hown4 hb4
theorem enc_3 (s : Bytes) (hs : s.length ≤ 64) (w : World) :
    Calls Tryd.prog 53 #[.agg #[.int .i64 3, .int .i64 0, .string ⟨s.toArray⟩]] w (BytesOut 5 w (3 :: (put s.length ++ s))) := by
  have hv : valB 3 0 s = true := by simp [valB]; omega
  have hp := put_len s.length (by omega)
  have hq : (put s.length ++ s).length ≤ 100 := by simp; omega
  have hpt := fun w => puttext_any s (by omega) w
  generalize put s.length ++ s = B at hpt hq ⊢
  have HPT := hide hpt; clear hpt
  go_enter Tryd.func53, Tryd.ntmps53
  go_wp2_with (first
    | (go_at_call 62; refine (valmay_any 3 0 s _).mono ?_; rintro e w1 ⟨rfl, hb⟩; obtain ⟨hc, hf⟩ := bcell hb; have hz := bz hb; have hown := own_new w1 w.heap.size 5 1 1 #[.int .u8 3] (by omega) rfl (by simp [maxLen]); have hbl := (below_trans (gr1 _ _) hb).alloc (Nat.le_of_lt hz) (.cells #[.int .u8 3] 5))
    | (go_at_call 64; refine (HPT.out _).mono ?_; rintro e w2 ⟨A2, c2, rfl, hown2, hb2⟩; have hr2 := Rd.of_own hown2; have hown3 := own_below hown hb2; have hbl3 := hbl.trans (hb2.mono hbl.size))
    | (at_builtin; refine wpList_appAny _ rfl (.tmp 30) (.tmp 33) _ rfl w w.heap.size 5 _ 1 1 Tryd.underlying84 info_u8 rfl (by omega) (by omega) _ 1 [.int .u8 3] (by rfl) hown3 hbl3 _ _ _ _ (by rfl) hr2 (cB_one _) (by omega) hbl3.size ?_; intro A4 c4 w4 hown4 hb4))
  go_ret
  exact out_cons rfl hown4 hb4
theorem enc_any (kind i : Int) (s : Bytes) (h0 : -9223372036854775808 ≤ i) (h1 : i < 9223372036854775808) (w : World) :
    Calls Tryd.prog 53 #[.agg #[.int .i64 kind, .int .i64 i, .string ⟨s.toArray⟩]] w (BytesOut 5 w (encP kind i s)) := by
  cases hv : valB kind i s with
  | false => exact enc_no kind i s w hv
  | true =>
    rw [encP_yes hv]
    rcases valB_cases hv with ⟨rfl, rfl, rfl⟩ | ⟨rfl, hi, rfl⟩ | ⟨rfl, rfl⟩ | ⟨rfl, rfl, hs⟩
    · exact enc_0 w
    · obtain ⟨n, rfl⟩ : ∃ n : Nat, i = n := ⟨i.toNat, by omega⟩
      exact enc_1 n (by omega) w
    · exact enc_2 i h0 h1 w
    · exact enc_3 s hs w
theorem encV_1 (i : Int) (s : Bytes) : encV 1 i s = [1, UInt8.ofNat i.toNat] := rfl
theorem ba_app (a b : Bytes) : (ByteArray.mk a.toArray) ++ (ByteArray.mk b.toArray) = ⟨(a ++ b).toArray⟩ := by
  apply ByteArray.ext
  simp
theorem ba_app' (x : UInt8) (b : Bytes) : (ByteArray.mk #[x]) ++ (ByteArray.mk b.toArray) = ⟨(x :: b).toArray⟩ := ba_app [x] b
theorem renc_0 (w : World) :
    Calls Tryd.prog 48 #[.agg #[.int .i64 0, .int .i64 0, .string ⟨#[]⟩]] w fun e w' => e = .returned (.string ⟨([0] : Bytes).toArray⟩) ∧ Below w.heap.size w w' := by
  go_enter Tryd.func48, Tryd.ntmps48
  go_wp2_with fail
  go_ret
  exact ⟨rfl, gr1 _ _⟩
theorem renc_1 (i : Nat) (hi : i ≤ 1) (w : World) :
    Calls Tryd.prog 48 #[.agg #[.int .i64 1, .int .i64 (i : Int), .string ⟨#[]⟩]] w fun e w' => e = .returned (.string ⟨([1, UInt8.ofNat i] : Bytes).toArray⟩) ∧ Below w.heap.size w w' := by
  have hcv : ∀ w : World, (_root_.Go.convert 84 9 (.slice (some ⟨w.heap.size, 0, none⟩) 1 1)).run Tryd.prog (w.alloc (.cells #[.int .u8 (i : Int)] 5)) = .ok (.string ⟨([UInt8.ofNat i] : Bytes).toArray⟩) (w.alloc (.cells #[.int .u8 (i : Int)] 5)) := by
    intro w
    refine run_str _ _ 1 [UInt8.ofNat i] ?_
    have := own_new w w.heap.size 5 1 1 #[cB (UInt8.ofNat i)] (Nat.le_refl _) rfl (by simp [maxLen])
    rw [cB_of i (by omega)] at this
    refine Bs.of_own (base := w.heap.size) (t := 5) (c := 1) ?_
    rw [List.map_cons, List.map_nil, cB_of i (by omega)]
    exact this
  have hcv1 := hcv (w.alloc (.cells #[.int .i64 1, .int .i64 (i : Int), .string ⟨#[]⟩] 66))
  rw [show (w.alloc (.cells #[.int .i64 1, .int .i64 (i : Int), .string ⟨#[]⟩] 66)).heap.size = w.heap.size + 1 from by simp] at hcv1
  clear hcv
  go_enter Tryd.func48, Tryd.ntmps48
  go_wp2_with fail
  go_ret
  exact ⟨by first | rfl | (simp only [ba_app']; rfl), (gr1 _ _).alloc (by simp) _⟩
theorem renc_2 (i : Int) (h0 : -9223372036854775808 ≤ i) (h1 : i < 9223372036854775808) (w : World) :
    Calls Tryd.prog 48 #[.agg #[.int .i64 2, .int .i64 i, .string ⟨#[]⟩]] w fun e w' => e = .returned (.string ⟨(2 :: put (zig i)).toArray⟩) ∧ Below w.heap.size w w' := by
  have hz := zig_lt i h0 h1
  have hp := put_len (zig i) hz
  go_enter Tryd.func48, Tryd.ntmps48
  go_wp2_with (first
    | (go_at_call 57; refine (rzig_any i h0 h1 _).mono ?_; rintro e w1 ⟨rfl, rfl⟩)
    | (go_at_call 56; refine (rput_any (zig i) (by omega) (by omega) _).mono ?_; rintro e w2 ⟨rfl, hb2⟩))
  go_ret
  refine ⟨?_, below_trans (gr1 _ _) hb2⟩
  rw [← ba_app']; rfl
theorem renc_3 (s : Bytes) (hs : s.length ≤ 64) (w : World) :
    Calls Tryd.prog 48 #[.agg #[.int .i64 3, .int .i64 0, .string ⟨s.toArray⟩]] w fun e w' => e = .returned (.string ⟨(3 :: (put s.length ++ s)).toArray⟩) ∧ Below w.heap.size w w' := by
  have hpt := fun w => rtext_any s (by omega) w
  have hp := put_len s.length (by omega)
  have hq : (put s.length ++ s).length ≤ 100 := by simp; omega
  clear hp
  generalize put s.length ++ s = B at hpt hq ⊢
  have HPT := hide hpt; clear hpt
  go_enter Tryd.func48, Tryd.ntmps48
  go_wp2_with (go_at_call 58; refine (HPT.out _).mono ?_; rintro e w2 ⟨rfl, hb2⟩)
  go_ret
  refine ⟨?_, below_trans (gr1 _ _) hb2⟩
  rw [← ba_app']; rfl
theorem renc_any (kind i : Int) (s : Bytes) (h0 : -9223372036854775808 ≤ i) (h1 : i < 9223372036854775808) (hv : valB kind i s = true) (w : World) :
    Calls Tryd.prog 48 #[.agg #[.int .i64 kind, .int .i64 i, .string ⟨s.toArray⟩]] w fun e w' => e = .returned (.string ⟨(encV kind i s).toArray⟩) ∧ Below w.heap.size w w' := by
  rcases valB_cases hv with ⟨rfl, rfl, rfl⟩ | ⟨rfl, hi, rfl⟩ | ⟨rfl, rfl⟩ | ⟨rfl, rfl, hs⟩
  · exact renc_0 w
  · obtain ⟨n, rfl⟩ : ∃ n : Nat, i = n := ⟨i.toNat, by omega⟩
    exact renc_1 n (by omega) w
  · exact renc_2 i h0 h1 w
  · exact renc_3 s hs w
end Go.Proofs.YtopifabnobplcaaDoor

namespace Go.Proofs.YtopifabnobplcaaDoor
open Go.RowKit
set_option maxRecDepth 100000
set_option linter.unusedSimpArgs false
set_option linter.unusedVariables false
def Item.one (x : Item) : Item := ⟨x.key.take 60, x.kind, x.i, x.s.take 200, x.ver⟩
def fewL (l : List Item) : List Item := (l.take 66).map Item.one
theorem gr2 (w : World) (o p : Obj) : Below w.heap.size w ((w.alloc o).alloc p) := (gr1 _ _).alloc (by simp) _
theorem info_item : (Tryd.prog.info? 68).map (fun i => (i.zero, i.size, i.bytes)) = some (some (.agg #[.string ⟨#[]⟩, .int .i64 0, .int .i64 0, .string ⟨#[]⟩, .int .i64 0]), 5, 56) := by kernel_rfl
theorem one_cells (cs : List Value) (h : cs = cs) : True := trivial
theorem item_one (key : Bytes) (kind i : Int) (s : Bytes) (ver : Int) : ∀ u ∈ (#[Value.string ⟨key.toArray⟩, .int .i64 kind, .int .i64 i, .string ⟨s.toArray⟩, .int .i64 ver] : Array Value).toList, u.oneCell' = true := by
  intro u hu; simp at hu; rcases hu with rfl | rfl | rfl | rfl | rfl <;> rfl
theorem cells_snoc (l : List Item) (x : Item) : (l ++ [x]).flatMap Item.cells = l.flatMap Item.cells ++ x.cells := by simp
theorem map_snoc {α β : Type} (f : α → β) (l : List α) (k : Nat) (h : k < l.length) : (l.take (k + 1)).map f = (l.take k).map f ++ [f l[k]] := by
  rw [List.take_succ_eq_append_getElem h, List.map_append]; rfl
end Go.Proofs.YtopifabnobplcaaDoor

namespace Go.Proofs.YtopifabnobplcaaDoor
open Go.RowKit
set_option maxRecDepth 100000
set_option linter.unusedSimpArgs false
set_option linter.unusedVariables false
theorem run_eq_item (w : World) (k1 : Bytes) (d1 i1 : Int) (s1 : Bytes) (v1 : Int) (k2 : Bytes) (d2 i2 : Int) (s2 : Bytes) (v2 : Int) :
    (binOp .eql 68 (.agg #[.string ⟨k1.toArray⟩, .int .i64 d1, .int .i64 i1, .string ⟨s1.toArray⟩, .int .i64 v1]) (.agg #[.string ⟨k2.toArray⟩, .int .i64 d2, .int .i64 i2, .string ⟨s2.toArray⟩, .int .i64 v2])).run Tryd.prog w =
      .ok (.bool (decide ((⟨k1, d1, i1, s1, v1⟩ : Item) = ⟨k2, d2, i2, s2, v2⟩))) w := by
  by_cases h1 : k1 = k2
  · by_cases h2 : d1 = d2
    · by_cases h3 : i1 = i2
      · by_cases h4 : s1 = s2
        · by_cases h5 : v1 = v2
          · subst h1 h2 h3 h4 h5; go_simp
          · have h5' : (v1 == v2) = false := by simpa using h5
            subst h1 h2 h3 h4; go_simp
        · have h4' : (s1 == s2) = false := by simpa using h4
          subst h1 h2 h3; go_simp
      · have h3' : (i1 == i2) = false := by simpa using h3
        subst h1 h2; go_simp
    · have h2' : (d1 == d2) = false := by simpa using h2
      subst h1; go_simp
  · have h1' : (k1 == k2) = false := by simpa using h1
    go_simp
theorem run_neq_item (w : World) (k1 : Bytes) (d1 i1 : Int) (s1 : Bytes) (v1 : Int) (k2 : Bytes) (d2 i2 : Int) (s2 : Bytes) (v2 : Int) :
    (binOp .neq 68 (.agg #[.string ⟨k1.toArray⟩, .int .i64 d1, .int .i64 i1, .string ⟨s1.toArray⟩, .int .i64 v1]) (.agg #[.string ⟨k2.toArray⟩, .int .i64 d2, .int .i64 i2, .string ⟨s2.toArray⟩, .int .i64 v2])).run Tryd.prog w =
      .ok (.bool (!decide ((⟨k1, d1, i1, s1, v1⟩ : Item) = ⟨k2, d2, i2, s2, v2⟩))) w := by
  by_cases h1 : k1 = k2
  · by_cases h2 : d1 = d2
    · by_cases h3 : i1 = i2
      · by_cases h4 : s1 = s2
        · by_cases h5 : v1 = v2
          · subst h1 h2 h3 h4 h5; go_simp
          · have h5' : (v1 == v2) = false := by simpa using h5
            subst h1 h2 h3 h4; go_simp
        · have h4' : (s1 == s2) = false := by simpa using h4
          subst h1 h2 h3; go_simp
      · have h3' : (i1 == i2) = false := by simpa using h3
        subst h1 h2; go_simp
    · have h2' : (d1 == d2) = false := by simpa using h2
      subst h1; go_simp
  · have h1' : (k1 == k2) = false := by simpa using h1
    go_simp
end Go.Proofs.YtopifabnobplcaaDoor

namespace Go.Proofs.YtopifabnobplcaaDoor
open Go.RowKit
set_option maxRecDepth 100000
set_option linter.unusedSimpArgs false
set_option linter.unusedVariables false
def placeI : Option Nat → Int
  | some n => n
  | none => -1
theorem atK_found {l : List Item} {q : Bytes} {k : Nat} (hk : k < l.length) (hb : ∀ x ∈ l.take k, x.key ≠ q) (h : l[k].key = q) : placeI (atK l q) = k := by
  have : atK l q = some k := by
    unfold atK
    rw [List.findIdx?_eq_some_iff_getElem]
    refine ⟨hk, by simpa using h, fun j hj => ?_⟩
    have := hb l[j] (List.mem_take_iff_getElem.2 ⟨j, by omega, rfl⟩)
    simpa using this
  rw [this]; rfl
theorem atK_not {l : List Item} {q : Bytes} (hb : ∀ x ∈ l.take l.length, x.key ≠ q) : placeI (atK l q) = -1 := by
  have : atK l q = none := by
    unfold atK
    rw [List.findIdx?_eq_none_iff]
    intro x hx
    have := hb x (by rw [List.take_length]; exact hx)
    simpa using this
  rw [this]; rfl
theorem take_all_succ {α : Type} {l : List α} {p : α → Prop} {k : Nat} (hk : k < l.length) (h : ∀ x ∈ l.take k, p x) (h1 : p l[k]) : ∀ x ∈ l.take (k + 1), p x := by
  intro x hx
  rw [List.take_succ_eq_append_getElem hk] at hx
  rcases List.mem_append.1 hx with hx | hx
  · exact h x hx
  · simp at hx; rw [hx]; exact h1
theorem filter_snoc {l : List Item} {p : Item → Bool} {k : Nat} (hk : k < l.length) : (l.take (k + 1)).filter p = (l.take k).filter p ++ (if p l[k] then [l[k]] else []) := by
  rw [List.take_succ_eq_append_getElem hk, List.filter_append]; simp [List.filter_cons]
set_option maxHeartbeats 4000000 in
theorem rsame_any (A : Option Addr) (l : List Item) (c : Nat) (B : Option Addr) (m : List Item) (d : Nat) (w : World) (hA : Fs Item.cells 5 w A l) (hB : Fs Item.cells 5 w B m) (hl : l.length ≤ 34359738368) (hm : m.length ≤ 34359738368) :
    Calls Tryd.prog 24 #[.slice A l.length c, .slice B m.length d] w fun e w' => e = .returned (.bool (decide (l = m))) ∧ Drew w w' := by
  by_cases hlen : l.length = m.length
  · have hn : ((l.length : Int) != (m.length : Int)) = false := by simp [hlen]
    have HL := hide hlen
    have hml : m.length ≤ l.length := by omega
    have hlm : l.length ≤ m.length := by omega
    clear hlen
    go_enter Tryd.func24, Tryd.ntmps24
    go_wp2_with fail
    go_loopw [5] (fun i wr => ∃ k n : Nat, k ≤ l.length ∧ i = .int .i64 k ∧ wr = w.drewN n ∧ l.take k = m.take k) (fun i _ => l.length - (intOf i).toNat)
    case atStart => exact ⟨0, 0, Nat.zero_le _, rfl, rfl, by simp⟩
    case round =>
      obtain ⟨k, n, hk, rfl, rfl, heq⟩ := hrel
      have HE := hide heq; clear heq
      by_cases hlt : k < l.length
      · have hlt' : (k : Int) < l.length := by omega
        have hltm : k < m.length := by omega
        have hltm' : (k : Int) < m.length := by omega
        obtain ⟨b, off, rfl, hbl, hcell⟩ := hA.cell (fun _ => rfl) (by omega)
        obtain ⟨c0, c1, c2, c3, c4⟩ := five hcell (Below.refl _ _) hbl hlt
        obtain ⟨b', off', rfl, hbl', hcell'⟩ := hB.cell (fun _ => rfl) (by omega)
        obtain ⟨d0, d1, d2, d3, d4⟩ := five hcell' (Below.refl _ _) hbl' hltm
        by_cases he : l[k] = m[k]
        · have HN := hide (show l.take (k + 1) = m.take (k + 1) from by rw [List.take_succ_eq_append_getElem hlt, List.take_succ_eq_append_getElem hltm, HE.out, he])
          rw [he] at c0 c1 c2 c3 c4
          generalize m[k] = x at c0 c1 c2 c3 c4 d0 d1 d2 d3 d4
          obtain ⟨key, kind, i, s, ver⟩ := x
          clear hcell hcell' he
          go_wp2_with fail
          go_quiet (fail)
          go_wp2_with fail
          exact ⟨⟨k + 1, n + nq, by omega, by go_num, rfl, HN.out⟩, by simp [intOf]; omega⟩
        · have HR := hide (show decide (l = m) = false from by rw [decide_eq_false_iff_not]; rintro rfl; exact he rfl)
          generalize l[k] = y at c0 c1 c2 c3 c4 he
          generalize m[k] = x at d0 d1 d2 d3 d4 he
          obtain ⟨key, kind, i, s, ver⟩ := x
          obtain ⟨key', kind', i', s', ver'⟩ := y
          have hq : ∀ w, (binOp .neq 68 (.agg #[.string ⟨key'.toArray⟩, .int .i64 kind', .int .i64 i', .string ⟨s'.toArray⟩, .int .i64 ver']) (.agg #[.string ⟨key.toArray⟩, .int .i64 kind, .int .i64 i, .string ⟨s.toArray⟩, .int .i64 ver])).run Tryd.prog w = .ok (.bool true) w := fun w => by
            rw [run_neq_item, decide_eq_false he]; rfl
          clear hcell hcell' he
          go_wp2_with fail
          go_quiet (fail)
          go_wp2_with fail
          go_ret
          rw [HR.out]; exact ⟨rfl, by first | exact Drew.mk _ _ | exact Drew.mk2 _ _ _⟩
      · have hk' : k = l.length := by omega
        subst hk'
        have HR := hide (show decide (l = m) = true from by rw [decide_eq_true_iff]; have := HE.out; rwa [List.take_length, HL.out, List.take_length] at this)
        go_wp2_with fail
        go_ret
        rw [HR.out]; exact ⟨rfl, Drew.mk _ _⟩
  · have hn : ((l.length : Int) != (m.length : Int)) = true := by rw [bne_iff_ne]; omega
    have HR := hide (show decide (l = m) = false from by rw [decide_eq_false_iff_not]; rintro rfl; exact hlen rfl)
    clear hlen
    go_enter Tryd.func24, Tryd.ntmps24
    go_wp2_with fail
    go_ret
    rw [HR.out]; exact ⟨rfl, Drew.refl _⟩
end Go.Proofs.YtopifabnobplcaaDoor

namespace Go.Proofs.YtopifabnobplcaaDoor
open Go.RowKit
set_option maxRecDepth 100000
set_option linter.unusedSimpArgs false
set_option linter.unusedVariables false
theorem there_at {l : List Item} {k : Bytes} (h : posK l k < l.length) : thereK l k = (l[posK l k].key == k) := by
  unfold thereK; rw [List.getElem?_eq_getElem h]; rfl
theorem there_no {l : List Item} {k : Bytes} (h : ¬ posK l k < l.length) : thereK l k = false := by
  unfold thereK; rw [List.getElem?_eq_none (by omega)]; rfl
theorem int_eq {k : IntKind} {a b : Int} (h : a = b) : Value.int k a = Value.int k b := by rw [h]
theorem Fs.key {w : World} {l : List Item} {b off : Nat} (hcell : ∀ i (hi : i < l.length) j u, j < 5 → (Item.cells l[i])[j]? = some u → w.cell? ⟨b, off + i * 5 + j, none⟩ = some u) {k : Nat} (hk : k < l.length) : w.cell? ⟨b, off + k * 5, none⟩ = some (.string ⟨l[k].key.toArray⟩) := hcell k hk 0 _ (by omega) rfl
theorem set5 {w w1 : World} (h : Below w.heap.size w w1) (u0 u1 u2 u3 u4 : Value) :
    Below w.heap.size w (((((w1.setCell ⟨w.heap.size, 0, none⟩ u0).setCell ⟨w.heap.size, 1, none⟩ u1).setCell ⟨w.heap.size, 2, none⟩ u2).setCell ⟨w.heap.size, 3, none⟩ u3).setCell ⟨w.heap.size, 4, none⟩ u4) :=
  ((((h.setCell (Nat.le_refl _) _).setCell (Nat.le_refl _) _).setCell (Nat.le_refl _) _).setCell (Nat.le_refl _) _).setCell (Nat.le_refl _) _
def getK (l : List Item) (q : Bytes) : Option Item := if leafB l && thereK l q then l[posK l q]? else none
def vIt (x : Item) : Value := .agg #[.string ⟨x.key.toArray⟩, .int .i64 x.kind, .int .i64 x.i, .string ⟨x.s.toArray⟩, .int .i64 x.ver]
theorem getK_no {l : List Item} {q : Bytes} (h : leafB l = false) : getK l q = none := by unfold getK; rw [h]; rfl
theorem getK_none {l : List Item} {q : Bytes} (h : thereK l q = false) : getK l q = none := by unfold getK; rw [h, Bool.and_false]; rfl
theorem there_lt {l : List Item} {q : Bytes} (h : thereK l q = true) : posK l q < l.length := by
  rcases Nat.lt_or_ge (posK l q) l.length with h1 | h1
  · exact h1
  · rw [there_no (by omega)] at h; cases h
theorem getK_some {l : List Item} {q : Bytes} (h : leafB l = true) (ht : thereK l q = true) : getK l q = some (l[posK l q]'(there_lt ht)) := by
  unfold getK; rw [h, ht, Bool.and_self, if_pos rfl, List.getElem?_eq_getElem (there_lt ht)]
theorem drew_gr {w w' : World} (h : Drew w w') : Below w.heap.size w w' := by
  obtain ⟨n, rfl⟩ := h; exact below_drewN (Below.refl _ _) n
theorem rd_take {w : World} {A : Option Addr} {l : List Item} (h : Fs Item.cells 5 w A l) (k : Nat) (hk : k ≤ l.length) : Rd w A 5 k ((l.take k).flatMap Item.cells) := by
  have := h.take (fun _ => rfl) k
  unfold Fs at this
  rwa [List.length_take, Nat.min_eq_left hk] at this
theorem rd_drop {w : World} {A : Option Addr} {l : List Item} (h : Fs Item.cells 5 w A l) (k c : Nat) (hk : k ≤ l.length) (hc : l.length ≤ c) : Rd w (cutA A c k 5) 5 (l.length - k) ((l.drop k).flatMap Item.cells) := by
  have := h.cutL (fun _ => rfl) (c := c) hk hc
  unfold Fs at this
  rwa [List.length_drop] at this
theorem cells_one (l : List Item) : ∀ u ∈ l.flatMap Item.cells, u.oneCell' = true := by
  intro u hu
  obtain ⟨x, _, hx⟩ := List.mem_flatMap.1 hu
  simp [Item.cells, cStr, cI] at hx
  rcases hx with rfl | rfl | rfl | rfl | rfl <;> rfl
theorem fs_new1 (w : World) (key : Bytes) (kind i : Int) (s : Bytes) (ver : Int) (t H : Nat) (hH : w.heap.size = H) :
    Fs Item.cells 5 (w.alloc (.cells #[.string ⟨key.toArray⟩, .int .i64 kind, .int .i64 i, .string ⟨s.toArray⟩, .int .i64 ver] t)) (some ⟨H, 0, none⟩) [⟨key, kind, i, s, ver⟩] := by
  subst hH
  exact Fs.of_own (base := w.heap.size) (e := t) (n := 1) (c := 1) rfl (own_new w w.heap.size t 5 1 _ (Nat.le_refl _) rfl (by simp [maxLen]))
def putK (l : List Item) (x : Item) : List Item × Nat :=
  if !(leafB l && itemB x) then ([], 1) else if !thereK l x.key && l.length == 64 then ([], 5) else (withK l x, 0)
def delK (l : List Item) (q : Bytes) : List Item × Nat :=
  if !leafB l then ([], 1) else if !thereK l q then ([], 6) else (withoutK l q, 0)
def FsErr (w : World) (r : List Item × Nat) (e : Ending) (w' : World) : Prop :=
  ∃ A cap, e = .returned (.tuple #[.slice A r.1.length cap, .int .i64 r.2]) ∧ w'.ownsRow w.heap.size 68 5 (.slice A r.1.length cap) r.1.length (r.1.flatMap Item.cells) ∧ Below w.heap.size w w'
end Go.Proofs.YtopifabnobplcaaDoor

namespace Go.Proofs.YtopifabnobplcaaDoor
open Go.RowKit
set_option maxRecDepth 100000
set_option linter.unusedSimpArgs false
set_option linter.unusedVariables false
attribute [local go_sem ↓] Go.wp_at_zero Go.wp_at_succ
theorem below_of_drew {W w2 : World} (h : Below W.drew.heap.size W.drew w2) : Below W.heap.size W w2 := ⟨h.os, h.tape, h.output, h.size, h.block⟩
theorem gr1d (w : World) (o : Obj) : Below w.heap.size w (w.alloc o).drew := below_drewN (gr1 w o) 1
theorem weight_take (l : List Item) (k : Nat) (h : k < l.length) : weight (l.take (k + 1)) = weight (l.take k) + (l[k].key.length + (encV l[k].kind l[k].i l[k].s).length) := by
  unfold weight; rw [map_snoc _ l k h, List.sum_append]; simp
theorem encV_len {kind i : Int} {s : Bytes} (h0 : -9223372036854775808 ≤ i) (h1 : i < 9223372036854775808) (hv : valB kind i s = true) : (encV kind i s).length ≤ 100 := by
  rcases valB_cases hv with ⟨rfl, rfl, rfl⟩ | ⟨rfl, hi, rfl⟩ | ⟨rfl, rfl⟩ | ⟨rfl, rfl, hs⟩
  · decide
  · simp [encV]
  · have := put_len (zig i) (zig_lt i h0 h1)
    simp [encV]; omega
  · have := put_len s.length (by omega)
    simp [encV]; omega
theorem keyB_len {k : Bytes} (h : keyB k = true) : k.length ≤ 24 := by
  simp [keyB, patB] at h; exact h.2.1
theorem itemB_parts {key : Bytes} {kind i : Int} {s : Bytes} {ver : Int} (h : itemB ⟨key, kind, i, s, ver⟩ = true) : keyB key = true ∧ valB kind i s = true ∧ kind ≠ 0 ∧ 0 ≤ ver ∧ ver ≤ 2147483647 := by
  rw [itemB_def] at h
  simp only [Bool.and_eq_true, bne_iff_ne, ne_eq, decide_eq_true_eq] at h
  exact ⟨h.1.1.1.1, h.1.1.1.2, h.1.1.2, h.1.2, h.2⟩
def weightP (l : List Item) : Nat := if leafB l then weight l else 0
set_option maxHeartbeats 4000000 in
theorem weight_any (A : Option Addr) (l : List Item) (c : Nat) (w : World) (hS : Sig w) (hF : Fs Item.cells 5 w A l) (hnum : ∀ x ∈ l, NumOk x) (hl : l.length ≤ 1000000) :
    Calls Tryd.prog 46 #[.slice A l.length c] w fun e w' => e = .returned (.int .i64 (weightP l)) ∧ Below w.heap.size w w' := by
  cases hlf : leafB l with
  | false =>
    have HR := hide (show weightP l = 0 from by unfold weightP; rw [hlf]; rfl)
    go_enter Tryd.func46, Tryd.ntmps46
    go_wp2_with (go_at_call 52; refine (leaf_is_any A l c _ hS hF (by omega)).mono ?_; rintro e w1 ⟨rfl, hb⟩)
    go_ret
    rw [HR.out]; exact ⟨rfl, hb⟩
  | true =>
    have HLF := hide ((leafB_iff l).1 hlf)
    have HR := hide (show weightP l = weight l from by unfold weightP; rw [if_pos hlf])
    have HNm := hide hnum
    have HS := hide hS
    clear hnum hS
    go_enter Tryd.func46, Tryd.ntmps46
    go_wp2_with (go_at_call 52; refine (leaf_is_any A l c _ HS.out hF (by omega)).mono ?_; rintro e w1 ⟨rfl, hb⟩)
    have HB := hide hb; clear hb
    go_loopw [3, 11] (fun n i wr => ∃ k : Nat, k ≤ l.length ∧ i = .int .i64 k ∧ n = .int .i64 (weight (l.take k)) ∧ weight (l.take k) ≤ k * 200 ∧ Below w.heap.size w wr) (fun _ i _ => l.length - (intOf i).toNat)
    case atStart => exact ⟨0, Nat.zero_le _, rfl, rfl, by simp [weight], HB.out⟩
    case round =>
      obtain ⟨k, hk, rfl, rfl, hwt, hbel⟩ := hrel
      by_cases hlt : k < l.length
      · have hlt' : (k : Int) < l.length := by omega
        obtain ⟨b, off, rfl, hbl, hcell⟩ := hF.cell (fun _ => rfl) (by omega)
        obtain ⟨c0, c1, c2, c3, c4⟩ := five hcell hbel hbl hlt
        have HW := hide (weight_take l k hlt)
        have hn := HNm.out l[k] (List.getElem_mem hlt)
        have hi := HLF.out.2.1 l[k] (List.getElem_mem hlt)
        generalize weight (l.take k) = W at hwt HW ⊢
        generalize l[k] = x at c0 c1 c2 c3 c4 HW hn hi
        obtain ⟨key, kind, i, s, ver⟩ := x
        obtain ⟨hn0, hn1⟩ := hn
        obtain ⟨hk1, hv, -, -, -⟩ := itemB_parts hi
        have hkl := keyB_len hk1
        have hel := encV_len hn0 hn1 hv
        have hce := fun w => (encP_yes hv) ▸ enc_any kind i s hn0 hn1 w
        have HV := hide hv
        generalize encV kind i s = E at HW hel hce
        have HCE := hide hce
        clear hcell hk1 hi hv hce
        go_wp2_with fail
        go_region_held3 (fun w' => w'.cell? ⟨wr.heap.size, 0, none⟩ = some (.string ⟨key.toArray⟩) ∧ w'.cell? ⟨wr.heap.size, 1, none⟩ = some (.int .i64 kind) ∧ w'.cell? ⟨wr.heap.size, 2, none⟩ = some (.int .i64 i) ∧ w'.cell? ⟨wr.heap.size, 3, none⟩ = some (.string ⟨s.toArray⟩)) (go_keep)
          (first | (go_at_call 53; refine (HCE.out _).mono ?_; rintro e w2 ⟨A2, c2, rfl, hown2, hb2⟩; obtain ⟨hc, hf⟩ := bcell hb2))
        all_goals go_wp2_with fail
        clear hc hf
        refine ⟨⟨k + 1, by omega, by go_num, ?_, ?_, hbel.trans ((below_trans (gr1d _ _) hb2).mono hbel.size)⟩, by simp [intOf]; omega⟩
        · rw [HW.out]; refine int_eq ?_
          rw [IntWalk.i64_in ((key.length : Int) + E.length) (by omega), IntWalk.i64_in _ (by omega)]; omega
        · rw [HW.out, Nat.succ_mul]; omega
      · have hk' : k = l.length := by omega
        subst hk'
        rw [List.take_length]
        go_wp2_with fail
        go_ret
        rw [HR.out]; exact ⟨rfl, hbel⟩
def bytesP (x : Item) : Bytes := (put x.key.length ++ x.key) ++ encV x.kind x.i x.s ++ put x.ver.toNat
end Go.Proofs.YtopifabnobplcaaDoor

namespace Go.Proofs.YtopifabnobplcaaDoor
open Go.RowKit
set_option linter.unusedVariables false
set_option linter.unusedSimpArgs false
set_option maxRecDepth 20000
def iA (x : Item) : AV := flA Item.cells x
theorem iA_def (x : Item) : iA x = .agg [V (.string ⟨x.key.toArray⟩), V (.int .i64 x.kind), V (.int .i64 x.i), V (.string ⟨x.s.toArray⟩), V (.int .i64 x.ver)] := _root_.id rfl
def lA (l : List Item) : AV := SL (l.map (flA Item.cells))
theorem it_five (x : Item) : x.cells.length = 5 := _root_.id rfl
theorem it_one (x : Item) : ∀ u ∈ x.cells, u.oneCell' = true := by intro u hu; simp [Item.cells, cStr, cI] at hu; rcases hu with rfl | rfl | rfl | rfl | rfl <;> rfl
def SigG (G : Gl) : Prop := (0, (.agg [V (.int .u64 288195191779622912), V (.int .u64 576460745860972544)] : AV)) ∈ G
theorem SigG.at {G : Gl} {S : SS} {w : World} (h : SigG G) (hr : Rel w S [] []) (hg : GOk G S) : Sig w := still_two hr hg h
theorem Drew.belowD {w w' : World} (h : Drew w w') : Below w.heap.size w w' := by obtain ⟨n, rfl⟩ := h; exact below_drewN (Below.refl _ _) n
theorem rep_V1 {S : SS} {v : Value} (h : v.oneCell' = true := by rfl) : rep S [] (V v) v := ⟨rfl, h⟩
theorem repA_iA {S : SS} (x : Item) : repA S [] (iA x) (vIt x) := by
  refine ⟨x.cells, rfl, by simp, fun j d u hd hu => ?_⟩
  rw [List.getElem?_map, hu] at hd
  simp at hd; subst hd
  have := it_one x u (List.mem_of_getElem? hu)
  exact ⟨this, rfl, this⟩
theorem rep_two {S : SS} {a b : AV} {u v : Value} (ha : repA S [] a u) (hb : repA S [] b v) : rep S [] (TU [a, b]) (.tuple #[u, v]) := by
  refine ⟨[u, v], rfl, rfl, fun j d x hd hx => ?_⟩
  match j, hd, hx with
  | 0, hd, hx => simp at hd hx; subst hd hx; exact ha
  | 1, hd, hx => simp at hd hx; subst hd hx; exact hb
section
variable {G : Gl}
theorem cl_check (l : List Item) (hG : SigG G) (hl : l.length ≤ 34359738368) : ACp Tryd.prog G 50 [lA l] (TU [nA (chk l).1, nA (chk l).2]) := by
  refine acp_of_tells (by kernel_rfl) fun w S vs hr hg hlen hv => ?_
  rcases vs with _ | ⟨v1, _ | ⟨_, _⟩⟩ <;> simp at hlen
  obtain ⟨A1, c1, rfl, hc1, hm1, hF1⟩ := fs_of it_five (by omega) hr (hv 0 _ v1 rfl rfl)
  have hS := hG.at hr hg
  refine (check_any A1 l c1 w hS hF1 hl).mono ?_
  rintro e w' ⟨rfl, hb⟩
  exact ⟨_, rfl, hb, rep_two ⟨rfl, rfl⟩ ⟨rfl, rfl⟩⟩
theorem cl_weight (l : List Item) (hG : SigG G) (hnum : ∀ x ∈ l, NumOk x) (hl : l.length ≤ 1000000) : ACp Tryd.prog G 46 [lA l] (nA (weightP l)) := by
  refine acp_of_tells (by kernel_rfl) fun w S vs hr hg hlen hv => ?_
  rcases vs with _ | ⟨v1, _ | ⟨_, _⟩⟩ <;> simp at hlen
  obtain ⟨A1, c1, rfl, hc1, hm1, hF1⟩ := fs_of it_five (by omega) hr (hv 0 _ v1 rfl rfl)
  have hS := hG.at hr hg
  refine (weight_any A1 l c1 w hS hF1 hnum hl).mono ?_
  rintro e w' ⟨rfl, hb⟩
  exact ⟨_, rfl, hb, rep_V1⟩
theorem cl_keyis (q : Bytes) (hG : SigG G) : ACp Tryd.prog G 61 [sA q] (bA (keyB q)) := by
  refine acp_of_tells (by kernel_rfl) fun w S vs hr hg hlen hv => ?_
  rcases vs with _ | ⟨v1, _ | ⟨_, _⟩⟩ <;> simp at hlen
  have e1 := arg_V (hv 0 _ v1 rfl rfl); subst e1
  have hS := hG.at hr hg
  refine (keyis_any q w hS).mono ?_
  rintro e w' ⟨rfl, rfl⟩
  exact ⟨_, rfl, Below.refl _ _, rep_V1⟩
theorem cl_rkeyis (q : Bytes) (hq : q.length ≤ maxLen) : ACp Tryd.prog G 54 [sA q] (bA (keyB q)) := by
  refine acp_of_tells (by kernel_rfl) fun w S vs hr hg hlen hv => ?_
  rcases vs with _ | ⟨v1, _ | ⟨_, _⟩⟩ <;> simp at hlen
  have e1 := arg_V (hv 0 _ v1 rfl rfl); subst e1
  refine (rkeyis_any q w hq).mono ?_
  rintro e w' ⟨rfl, rfl⟩
  exact ⟨_, rfl, Below.refl _ _, rep_V1⟩
theorem cl_ris (l : List Item) (hl : l.length ≤ 34359738368) (hk : ∀ x ∈ l, x.key.length ≤ maxLen) : ACp Tryd.prog G 55 [lA l] (bA (leafB l)) := by
  refine acp_of_tells (by kernel_rfl) fun w S vs hr hg hlen hv => ?_
  rcases vs with _ | ⟨v1, _ | ⟨_, _⟩⟩ <;> simp at hlen
  obtain ⟨A1, c1, rfl, hc1, hm1, hF1⟩ := fs_of it_five (by omega) hr (hv 0 _ v1 rfl rfl)
  refine (ris_any A1 l c1 w hF1 hl hk).mono ?_
  rintro e w' ⟨rfl, hb⟩
  exact ⟨_, rfl, hb, rep_V1⟩
theorem cl_rsame (l : List Item) (m : List Item) (hl : l.length ≤ 34359738368) (hm : m.length ≤ 34359738368) : ACp Tryd.prog G 24 [lA l, lA m] (bA (decide (l = m))) := by
  refine acp_of_tells (by kernel_rfl) fun w S vs hr hg hlen hv => ?_
  rcases vs with _ | ⟨v1, _ | ⟨v2, _ | ⟨_, _⟩⟩⟩ <;> simp at hlen
  obtain ⟨A1, c1, rfl, hc1, hm1, hF1⟩ := fs_of it_five (by omega) hr (hv 0 _ v1 rfl rfl)
  obtain ⟨A2, c2, rfl, hc2, hm2, hF2⟩ := fs_of it_five (by omega) hr (hv 1 _ v2 rfl rfl)
  refine (rsame_any A1 l c1 A2 m c2 w hF1 hF2 hl hm).mono ?_
  rintro e w' ⟨rfl, hb⟩
  exact ⟨_, rfl, hb.belowD, rep_V1⟩
theorem cl_rmay (x : Item) (hk : x.key.length ≤ maxLen) : ACp Tryd.prog G 71 [iA x] (bA (itemB x)) := by
  refine acp_of_tells (by kernel_rfl) fun w S vs hr hg hlen hv => ?_
  rcases vs with _ | ⟨v1, _ | ⟨_, _⟩⟩ <;> simp at hlen
  have e1 := arg_fl (hv 0 _ v1 rfl rfl); subst e1
  refine (rmay_any x.key x.kind x.i x.s x.ver w hk).mono ?_
  rintro e w' ⟨rfl, hb⟩
  exact ⟨_, rfl, hb, rep_V1⟩
theorem cl_renc (k i : Int) (s : Bytes) (h0 : -9223372036854775808 ≤ i) (h1 : i < 9223372036854775808) (hv : valB k i s = true) : ACp Tryd.prog G 48 [.agg [nA k, nA i, sA s]] (sA (encV k i s)) := by
  refine acp_of_tells (by kernel_rfl) fun w S vs hr hg hlen hv' => ?_
  rcases vs with _ | ⟨v1, _ | ⟨_, _⟩⟩ <;> simp at hlen
  obtain ⟨us, rfl, hx⟩ := hv' 0 _ v1 rfl rfl
  have := reps_plain (us := [.int .i64 k, .int .i64 i, .string ⟨s.toArray⟩]) hx
  subst this
  refine (renc_any k i s h0 h1 hv w).mono ?_
  rintro e w' ⟨rfl, hb⟩
  exact ⟨_, rfl, hb, rep_V1⟩
end
end Go.Proofs.YtopifabnobplcaaDoor

namespace Go.Proofs.YtopifabnobplcaaDoor
open Go.RowKit
set_option linter.unusedVariables false
set_option linter.unusedSimpArgs false
theorem MIX : Tryd.prog.follows .mixedOrders = true := by kernel_rfl
def GG : Gl := [(0, .agg [V (.int .u64 288195191779622912), V (.int .u64 576460745860972544)])]
theorem sigGG : SigG GG := List.mem_cons_self ..
theorem iA_inj {x y : Item} (h : flA Item.cells x = flA Item.cells y) : x = y := by
  obtain ⟨k1, d1, i1, s1, v1⟩ := x
  obtain ⟨k2, d2, i2, s2, v2⟩ := y
  simp only [flA, Item.cells, cStr, cI, List.map_cons, List.map_nil, DataW.agg.injEq, List.cons.injEq, DataW.held.injEq, Sum.inl.injEq, Value.string.injEq, Value.int.injEq, ByteArray.mk.injEq, Array.mk.injEq, true_and, and_true] at h
  obtain ⟨h1, h2, h3, h4, h5⟩ := h
  have h1 : k1 = k2 := by simpa using h1
  have h4 : s1 = s2 := by simpa using h4
  subst h1 h2 h3 h4 h5
  rfl
theorem lA_inj {l m : List Item} (h : lA l = lA m) : l = m := by
  unfold lA at h
  injection h with h
  exact map_inj (fun _ _ => iA_inj) h
noncomputable def leaf_Check_t (m : Nat) : List AV → RO := orac (ι := List Item) (fun l => [lA l]) (fun l => TU [nA (chk l).1, nA (chk l).2]) (fun l => l.length ≤ 34359738368)
theorem leaf_Check_ok (m : Nat) : ∀ args X H', leaf_Check_t m args = some (X, H') → ACp Tryd.prog GG 50 args X := orac_ok (by
  intro l hl
  exact cl_check l sigGG hl)
theorem leaf_Check_e (m : Nat) (l : List Item) (hl : l.length ≤ 34359738368) : leaf_Check_t m [lA l] = some (TU [nA (chk l).1, nA (chk l).2], []) := orac_eq (ι := List Item) (by
  intro l1 l2 h
  try dsimp only at h ⊢
  simp only [List.cons.injEq, and_true] at h
  rw [lA_inj h]) (i := l) hl
noncomputable def leaf_Weight_t (m : Nat) : List AV → RO := orac (ι := List Item) (fun l => [lA l]) (fun l => nA (weightP l)) (fun l => (∀ x ∈ l, NumOk x) ∧ l.length ≤ 1000000)
theorem leaf_Weight_ok (m : Nat) : ∀ args X H', leaf_Weight_t m args = some (X, H') → ACp Tryd.prog GG 46 args X := orac_ok (by
  intro l hl
  exact cl_weight l sigGG hl.1 hl.2)
theorem leaf_Weight_e (m : Nat) (l : List Item) (hl : (∀ x ∈ l, NumOk x) ∧ l.length ≤ 1000000) : leaf_Weight_t m [lA l] = some (nA (weightP l), []) := orac_eq (ι := List Item) (by
  intro l1 l2 h
  try dsimp only at h ⊢
  simp only [List.cons.injEq, and_true] at h
  rw [lA_inj h]) (i := l) hl
noncomputable def key_Is_t (m : Nat) : List AV → RO := orac (ι := Bytes) (fun q => [sA q]) (fun q => bA (keyB q)) (fun q => True)
theorem key_Is_ok (m : Nat) : ∀ args X H', key_Is_t m args = some (X, H') → ACp Tryd.prog GG 61 args X := orac_ok (by
  intro q _
  exact cl_keyis q sigGG)
theorem key_Is_e (m : Nat) (q : Bytes) : key_Is_t m [sA q] = some (bA (keyB q), []) := orac_eq (ι := Bytes) (by
  intro q1 q2 h
  try dsimp only at h ⊢
  simp only [List.cons.injEq, and_true] at h
  rw [sA_inj h]) (i := q) trivial
noncomputable def plenumref08_Is_t (m : Nat) : List AV → RO := orac (ι := Bytes) (fun q => [sA q]) (fun q => bA (keyB q)) (fun q => q.length ≤ maxLen)
theorem plenumref08_Is_ok (m : Nat) : ∀ args X H', plenumref08_Is_t m args = some (X, H') → ACp Tryd.prog GG 54 args X := orac_ok (by
  intro q hl
  exact cl_rkeyis q hl)
theorem plenumref08_Is_e (m : Nat) (q : Bytes) (hl : q.length ≤ maxLen) : plenumref08_Is_t m [sA q] = some (bA (keyB q), []) := orac_eq (ι := Bytes) (by
  intro q1 q2 h
  try dsimp only at h ⊢
  simp only [List.cons.injEq, and_true] at h
  rw [sA_inj h]) (i := q) hl
noncomputable def plenumref09_Is_t (m : Nat) : List AV → RO := orac (ι := List Item) (fun l => [lA l]) (fun l => bA (leafB l)) (fun l => l.length ≤ 34359738368 ∧ ∀ x ∈ l, x.key.length ≤ maxLen)
theorem plenumref09_Is_ok (m : Nat) : ∀ args X H', plenumref09_Is_t m args = some (X, H') → ACp Tryd.prog GG 55 args X := orac_ok (by
  intro l hl
  exact cl_ris l hl.1 hl.2)
theorem plenumref09_Is_e (m : Nat) (l : List Item) (hl : l.length ≤ 34359738368 ∧ ∀ x ∈ l, x.key.length ≤ maxLen) : plenumref09_Is_t m [lA l] = some (bA (leafB l), []) := orac_eq (ι := List Item) (by
  intro l1 l2 h
  try dsimp only at h ⊢
  simp only [List.cons.injEq, and_true] at h
  rw [lA_inj h]) (i := l) hl
noncomputable def plenumref09_Same_t (m : Nat) : List AV → RO := orac (ι := List Item × List Item) (fun ⟨l, k⟩ => [lA l, lA k]) (fun ⟨l, k⟩ => bA (decide (l = k))) (fun ⟨l, k⟩ => l.length ≤ 34359738368 ∧ k.length ≤ 34359738368)
theorem plenumref09_Same_ok (m : Nat) : ∀ args X H', plenumref09_Same_t m args = some (X, H') → ACp Tryd.prog GG 24 args X := orac_ok (by
  rintro ⟨l, k⟩ hl
  exact cl_rsame l k hl.1 hl.2)
theorem plenumref09_Same_e (m : Nat) (l : List Item) (k : List Item) (hl : l.length ≤ 34359738368 ∧ k.length ≤ 34359738368) : plenumref09_Same_t m [lA l, lA k] = some (bA (decide (l = k)), []) := orac_eq (ι := List Item × List Item) (by
  rintro ⟨l1, k1⟩ ⟨l2, k2⟩ h
  try dsimp only at h ⊢
  simp only [List.cons.injEq, and_true] at h
  rw [lA_inj h.1, lA_inj h.2]) (i := (l, k)) hl
noncomputable def plenumref09_May_t (m : Nat) : List AV → RO := orac (ι := Item) (fun x => [iA x]) (fun x => bA (itemB x)) (fun x => x.key.length ≤ maxLen)
theorem plenumref09_May_ok (m : Nat) : ∀ args X H', plenumref09_May_t m args = some (X, H') → ACp Tryd.prog GG 71 args X := orac_ok (by
  intro x hl
  exact cl_rmay x hl)
theorem plenumref09_May_e (m : Nat) (x : Item) (hl : x.key.length ≤ maxLen) : plenumref09_May_t m [iA x] = some (bA (itemB x), []) := orac_eq (ι := Item) (by
  intro x1 x2 h
  try dsimp only at h ⊢
  simp only [List.cons.injEq, and_true] at h
  rw [iA_inj h]) (i := x) hl
noncomputable def plenumref07_Encode_t (m : Nat) : List AV → RO := orac (ι := Int × Int × Bytes) (fun ⟨k, i, s⟩ => [.agg [nA k, nA i, sA s]]) (fun ⟨k, i, s⟩ => sA (encV k i s)) (fun ⟨k, i, s⟩ => -9223372036854775808 ≤ i ∧ i < 9223372036854775808 ∧ valB k i s = true)
theorem plenumref07_Encode_ok (m : Nat) : ∀ args X H', plenumref07_Encode_t m args = some (X, H') → ACp Tryd.prog GG 48 args X := orac_ok (by
  rintro ⟨k, i, s⟩ hl
  exact cl_renc k i s hl.1 hl.2.1 hl.2.2)
theorem plenumref07_Encode_e (m : Nat) (k : Int) (i : Int) (s : Bytes) (hl : -9223372036854775808 ≤ i ∧ i < 9223372036854775808 ∧ valB k i s = true) : plenumref07_Encode_t m [.agg [nA k, nA i, sA s]] = some (sA (encV k i s), []) := orac_eq (ι := Int × Int × Bytes) (by
  rintro ⟨k1, i1, s1⟩ ⟨k2, i2, s2⟩ h
  try dsimp only at h ⊢
  simp only [List.cons.injEq, DataW.agg.injEq, and_true] at h
  obtain ⟨h1, h2, h3⟩ := h
  rw [nA_inj h1, nA_inj h2, sA_inj h3]) (i := (k, i, s)) hl
end Go.Proofs.YtopifabnobplcaaDoor

namespace Go.Proofs.YtopifabnobplcaaDoor
open Go.RowKit
set_option linter.unusedVariables false
set_option linter.unusedSimpArgs false
inductive Tag {α : Sort _} (x : α) : Type | mk
def hold {α : Sort _} (x : α) (t : Tag x) : α := x
theorem hold_one {α : Sort _} {β : Sort _} {K : α → β} {t : Tag K} {x : α} : hold K t x = K x := rfl
theorem hold_two {α : Sort _} {β : Sort _} {γ : Sort _} {K : α → β → γ} {t : Tag K} {x : α} {y : β} : hold K t x y = K x y := rfl
inductive Tg (P : Program) (G : Gl) (N n : Nat) (c : Code) (Q : Exit → ASt → Prop) : Type | mk
def AWq {P : Program} {G : Gl} {N n : Nat} {c : Code} {Q : Exit → ASt → Prop} (t : Tg P G N n c Q) (s : ASt) : Prop := AWp P G N n c Q s
section
variable {P : Program} {G : Gl} {N n : Nat} {c d e : Code} {Q : Exit → ASt → Prop} {s : ASt} {id : Nat} {H : List AObj} {T : Tm} {K : ASt → Prop} {K1 : AV → Prop} {K2 : AV → List AObj → Prop} {ops l r : List Oper} {t : Tmp} {op : Op} {ty : TypeId} {pos : String} {af : Array Edge} {gd : Option (Nat × Bool)} {x y z : AV} {b : Bool} {dst : Option Tmp}
theorem aq (h : AWp P G N n c Q s) : AWq (.mk : Tg P G N n c Q) s := h
def gO (d : Option Tmp) (T : Tm) (w : Bool) (A B : Unit → Prop) : Prop := guardO d T w (A ()) (B ())
def gA (x : AV) (w : Bool) (A B : Unit → Prop) : Prop := guardA x w (A ()) (B ())
def cA (x : AV) (A B : Unit → Prop) : Prop := condA x (A ()) (B ())
theorem gO_some {w : Bool} {A B : Unit → Prop} : gO (some t) T w A B = gA (get T t) w A B := rfl
theorem gA_tt {A B : Unit → Prop} : gA (V (.bool true)) true A B = A () := g_tt
theorem gA_tf {A B : Unit → Prop} : gA (V (.bool true)) false A B = B () := g_tf
theorem gA_ft {A B : Unit → Prop} : gA (V (.bool false)) true A B = B () := g_ft
theorem gA_ff {A B : Unit → Prop} : gA (V (.bool false)) false A B = A () := g_ff
theorem gA_split {A B : Unit → Prop} {t w : Bool} (h1 : t = true → gA (V (.bool true)) w A B) (h2 : t = false → gA (V (.bool false)) w A B) : gA (V (.bool t)) w A B := by
  cases t
  · exact h2 rfl
  · exact h1 rfl
theorem gA_t {A B : Unit → Prop} {t w : Bool} (h : t = true) (k : t = true → gA (V (.bool true)) w A B) : gA (V (.bool t)) w A B := by have k1 := k h; clear k; subst h; exact k1
theorem gA_f {A B : Unit → Prop} {t w : Bool} (h : t = false) (k : t = false → gA (V (.bool false)) w A B) : gA (V (.bool t)) w A B := by have k1 := k h; clear k; subst h; exact k1
theorem cA_t {A B : Unit → Prop} {t : Bool} (h : t = true) (k : t = true → A ()) : cA (V (.bool t)) A B := by have k1 := k h; clear k; subst h; exact ⟨fun _ => k1, fun q => Bool.noConfusion q⟩
theorem cA_f {A B : Unit → Prop} {t : Bool} (h : t = false) (k : t = false → B ()) : cA (V (.bool t)) A B := by have k1 := k h; clear k; subst h; exact ⟨fun q => Bool.noConfusion q, fun _ => k1⟩
theorem pk_t {t : Bool} (h : t = true) (k : t = true → K1 x) : aPick (V (.bool t)) x y K1 := by have k1 := k h; clear k; subst h; exact k1
theorem pk_f {t : Bool} (h : t = false) (k : t = false → K1 y) : aPick (V (.bool t)) x y K1 := by have k1 := k h; clear k; subst h; exact k1
theorem pk_tt : aPick (V (.bool true)) x y K1 = K1 x := rfl
theorem pk_ff : aPick (V (.bool false)) x y K1 = K1 y := rfl
theorem pk_if {t : Bool} (k : K1 (if t then x else y)) : aPick (V (.bool t)) x y K1 := k
theorem cA_true {A B : Unit → Prop} : cA (V (.bool true)) A B = A () := c_true
theorem cA_false {A B : Unit → Prop} : cA (V (.bool false)) A B = B () := c_false
theorem cA_split {A B : Unit → Prop} {t : Bool} (h1 : t = true → A ()) (h2 : t = false → B ()) : cA (V (.bool t)) A B := ⟨h1, h2⟩
theorem yr (hfit : fits N ops = true) (hn : n ≤ s.H.length) (h : runOps P G ops ops s (hold (fun s => AWq (.mk : Tg P G N n d Q) s) .mk)) : AWp P G N n (.seq (.region id ops.toArray false) d) Q s := wr hfit hn h
theorem yr1 (hfit : fits N ops = true) (hn : n ≤ s.H.length) (h : runOps P G ops ops s (hold (fun s => Q .normal s) .mk)) : AWp P G N n (.region id ops.toArray false) Q s := wr1 hfit hn h
theorem yx (hm : P.follows .mixedOrders = true) (hsh : backShape ops.toArray = true) (hok : tailOK ops 0 N = true) (hlk : looksT ops = true) (hn : n ≤ s.H.length) (h : drawX P G ops false ops s (hold (fun s => AWq (.mk : Tg P G N n d Q) s) .mk)) :
    AWp P G N n (.seq (.region id ops.toArray true) d) Q s := wx hm hsh hok hlk hn h
theorem yx1 (hm : P.follows .mixedOrders = true) (hsh : backShape ops.toArray = true) (hok : tailOK ops 0 N = true) (hlk : looksT ops = true) (hn : n ≤ s.H.length) (h : drawX P G ops false ops s (hold (fun s => Q .normal s) .mk)) :
    AWp P G N n (.region id ops.toArray true) Q s := wx1 hm hsh hok hlk hn h
theorem yseq (h : AWp P G N n c (thenA (fun s => AWq (.mk : Tg P G N n d Q) s) Q) s) : AWp P G N n (.seq c d) Q s := awp_seq h
theorem yc {o : Operand} (h : cA (ev G T o) (hold (fun _ => AWq (.mk : Tg P G N n c Q) ⟨H, T⟩) .mk) (hold (fun _ => AWq (.mk : Tg P G N n d Q) ⟨H, T⟩) .mk)) : AWp P G N n (.cond o c d) Q ⟨H, T⟩ := wc h
theorem yP_n {rs : List ResultVar} : retPC P rs x .normal ⟨H, T⟩ = resC P H T rs (hold (fun ds => ro H (oneOf ds) = x) .mk) := rfl
theorem yP_r {rs : List ResultVar} : retPC P rs x .ret ⟨H, T⟩ = resC P H T rs (hold (fun ds => ro H (oneOf ds) = x) .mk) := rfl
theorem yK_n {rs : List ResultVar} {H0 : List AObj} : retPK P rs x H0 .normal ⟨H, T⟩ = resC P H T rs (hold (fun ds => ro H (oneOf ds) = x ∧ HLe H H0) .mk) := rfl
theorem yK_r {rs : List ResultVar} {H0 : List AObj} : retPK P rs x H0 .ret ⟨H, T⟩ = resC P H T rs (hold (fun ds => ro H (oneOf ds) = x ∧ HLe H H0) .mk) := rfl
theorem yQ_n {rs : List ResultVar} {m : Nat} {R : AV → List AObj → Prop} : retQ P rs m R .normal ⟨H, T⟩ = resC P H T rs (hold (fun ds => ∃ X H', (X = oneOf ds ∨ X = ro H (oneOf ds)) ∧ HLe H H' ∧ H'.all (ltO H'.length) = true ∧ m ≤ H'.length ∧ ltT H'.length X = true ∧ R X H') .mk) := rfl
theorem yQ_r {rs : List ResultVar} {m : Nat} {R : AV → List AObj → Prop} : retQ P rs m R .ret ⟨H, T⟩ = resC P H T rs (hold (fun ds => ∃ X H', (X = oneOf ds ∨ X = ro H (oneOf ds)) ∧ HLe H H' ∧ H'.all (ltO H'.length) = true ∧ m ≤ H'.length ∧ ltT H'.length X = true ∧ R X H') .mk) := rfl
theorem yC_nil {K : List AV → Prop} : resC P H T [] K = K [] := rfl
theorem yC_tmp {rs : List ResultVar} {K : List AV → Prop} : resC P H T (.tmp t :: rs) K = resC P H T rs (hold (fun ds => K (get T t :: ds)) .mk) := rfl
theorem yC_cell {q : TypeId} {rs : List ResultVar} {K : List AV → Prop} : resC P H T (.cell t q :: rs) K = aLoad (kindT P q) H (get T t) (hold (fun d => resC P H T rs (hold (fun ds => K (d :: ds)) .mk)) .mk) := rfl
theorem yo_nil : runOps P G ops [] s K = K s := rfl
theorem yo_cons : runOps P G ops (⟨some t, op, ty, pos, af, none⟩ :: r) ⟨H, T⟩ K = stepOp P G ⟨some t, op, ty, pos, af, none⟩ ⟨H, T⟩ (hold (fun d H' => runOps P G ops r ⟨H', (t, d) :: T⟩ K) .mk) := rfl
theorem yo_none : runOps P G ops (⟨none, op, ty, pos, af, none⟩ :: r) ⟨H, T⟩ K = stepOp P G ⟨none, op, ty, pos, af, none⟩ ⟨H, T⟩ (hold (fun d H' => runOps P G ops r ⟨H', T⟩ K) .mk) := rfl
theorem yo_guard {j : Nat} {w : Bool} : runOps P G ops (⟨some t, op, ty, pos, af, some (j, w)⟩ :: r) ⟨H, T⟩ K = gO (dstAt ops j) T w (hold (fun _ => stepOp P G ⟨some t, op, ty, pos, af, some (j, w)⟩ ⟨H, T⟩ (hold (fun d H' => runOps P G ops r ⟨H', (t, d) :: T⟩ K) .mk)) .mk) (hold (fun _ => runOps P G ops r ⟨H, (t, UD) :: T⟩ K) .mk) := ro_guard
theorem yo_guardN {j : Nat} {w : Bool} : runOps P G ops (⟨none, op, ty, pos, af, some (j, w)⟩ :: r) ⟨H, T⟩ K = gO (dstAt ops j) T w (hold (fun _ => stepOp P G ⟨none, op, ty, pos, af, some (j, w)⟩ ⟨H, T⟩ (hold (fun d H' => runOps P G ops r ⟨H', T⟩ K) .mk)) .mk) (hold (fun _ => runOps P G ops r ⟨H, T⟩ K) .mk) := ro_guard
theorem ys_move {a : Operand} : stepOp P G ⟨dst, .move a, ty, pos, af, gd⟩ ⟨H, T⟩ K2 = K2 (ev G T a) H := rfl
theorem ys_assign {a : Operand} : stepOp P G ⟨dst, .assign a, ty, pos, af, gd⟩ ⟨H, T⟩ K2 = K2 (ev G T a) H := rfl
theorem ys_pick {a c d : Operand} : stepOp P G ⟨dst, .pick a c d, ty, pos, af, gd⟩ ⟨H, T⟩ K2 = aPick (ev G T a) (ev G T c) (ev G T d) (hold (fun r => K2 r H) .mk) := rfl
theorem ys_bin {o : BinOp} {t' t'' : TypeId} {a c : Operand} : stepOp P G ⟨dst, .binOp o t' a c t'', ty, pos, af, gd⟩ ⟨H, T⟩ K2 = aBin P t' o (ev G T a) (ev G T c) (hold (fun r => K2 r H) .mk) := rfl
theorem ys_un {o : UnOp} {t' : TypeId} {a : Operand} : stepOp P G ⟨dst, .unOp o t' a, ty, pos, af, gd⟩ ⟨H, T⟩ K2 = aUn o (ev G T a) (hold (fun r => K2 r H) .mk) := rfl
theorem ys_build {t' : TypeId} {ps : Array (Nat × Operand)} : stepOp P G ⟨dst, .build t' ps, ty, pos, af, gd⟩ ⟨H, T⟩ K2 = aBuild P t' (ps.toList.map fun p => (p.1, ev G T p.2)) (hold (fun r => K2 r H) .mk) := rfl
theorem ys_buildSlice {t' : TypeId} {m : Nat} {ps : Array (Nat × Operand)} : stepOp P G ⟨dst, .buildSlice t' m ps, ty, pos, af, gd⟩ ⟨H, T⟩ K2 = aBuildS P t' m (ps.toList.map fun p => (p.1, ev G T p.2)) (hold (fun r => K2 r H) .mk) := rfl
theorem ys_load {t' : TypeId} {a : Operand} : stepOp P G ⟨dst, .load t' a, ty, pos, af, gd⟩ ⟨H, T⟩ K2 = aLoad (kindT P t') H (ev G T a) (hold (fun r => K2 r H) .mk) := rfl
theorem ys_nilCheck {a : Operand} : stepOp P G ⟨dst, .nilCheck a, ty, pos, af, gd⟩ ⟨H, T⟩ K2 = aNil (ev G T a) (hold (fun r => K2 r H) .mk) := rfl
theorem ys_conv {t' t'' : TypeId} {a : Operand} : stepOp P G ⟨dst, .convert t' t'' a, ty, pos, af, gd⟩ ⟨H, T⟩ K2 = aConv P t' t'' (ev G T a) (hold (fun r => K2 r H) .mk) := rfl
theorem ys_extract {a : Operand} {i : Nat} : stepOp P G ⟨dst, .extract a i, ty, pos, af, gd⟩ ⟨H, T⟩ K2 = aExtract (ev G T a) i (hold (fun r => K2 r H) .mk) := rfl
theorem ys_fieldAddr {t' : TypeId} {a : Operand} {i : Nat} : stepOp P G ⟨dst, .fieldAddr t' a i, ty, pos, af, gd⟩ ⟨H, T⟩ K2 = aField (fieldT P t' i) (ev G T a) (hold (fun r => K2 r H) .mk) := rfl
theorem ys_field {t' : TypeId} {a : Operand} {i : Nat} : stepOp P G ⟨dst, .field t' a i, ty, pos, af, gd⟩ ⟨H, T⟩ K2 = aFieldV (fieldT P t' i) (ev G T a) (hold (fun r => K2 r H) .mk) := rfl
theorem ys_indexAddr {t' : TypeId} {a c : Operand} : stepOp P G ⟨dst, .indexAddr t' a c, ty, pos, af, gd⟩ ⟨H, T⟩ K2 = aIndexA P t' H (ev G T a) (ev G T c) (hold (fun r => K2 r H) .mk) := rfl
theorem ys_index {t' : TypeId} {a c : Operand} : stepOp P G ⟨dst, .index t' a c, ty, pos, af, gd⟩ ⟨H, T⟩ K2 = aIndexV P t' (ev G T a) (ev G T c) (hold (fun r => K2 r H) .mk) := rfl
theorem ys_slice {t' : TypeId} {a : Operand} {lo hi : Option Operand} : stepOp P G ⟨dst, .slice t' a lo hi none, ty, pos, af, gd⟩ ⟨H, T⟩ K2 = aSlice P t' H (ev G T a) (lo.map (ev G T)) (hi.map (ev G T)) (hold (fun r => K2 r H) .mk) := rfl
theorem ys_len {t' : TypeId} {a : Operand} : stepOp P G ⟨dst, .call { callee := .builtin .len, args := #[a], argTypes := #[t'] }, ty, pos, af, gd⟩ ⟨H, T⟩ K2 = aLen P t' H (ev G T a) (hold (fun r => K2 r H) .mk) := rfl
theorem ys_alloc {q : TypeId} : stepOp P G ⟨dst, .alloc q, ty, pos, af, gd⟩ ⟨H, T⟩ K2 = allocA (zeroC P q) q H K2 := rfl
theorem ys_box {q : TypeId} {a : Operand} : stepOp P G ⟨dst, .box q a, ty, pos, af, gd⟩ ⟨H, T⟩ K2 = ((cellsOf (ev G T a)).all sure = true ∧ K2 (OP H.length 0) (H ++ [⟨1, q, 0, cellsOf (ev G T a)⟩])) := rfl
theorem ys_store {q : TypeId} {a b : Operand} : stepOp P G ⟨dst, .store q a b, ty, pos, af, gd⟩ ⟨H, T⟩ K2 = aStore (kindT P q) H (ev G T a) (ev G T b) (hold (fun H' => K2 .nil H') .mk) := rfl
theorem ys_call {f : FuncId} {ags : Array Operand} {ts : Array TypeId} : stepOp P G ⟨dst, .call { callee := .value (.func f), args := ags, argTypes := ts }, ty, pos, af, gd⟩ ⟨H, T⟩ K2 = AC P G f ((ags.toList.map (ev G T)).map (ro H)) H K2 := rfl
theorem ys_append {q q' : TypeId} {a b : Operand} : stepOp P G ⟨dst, .call { callee := .builtin .append, args := #[a, b], argTypes := #[q, q'] }, ty, pos, af, gd⟩ ⟨H, T⟩ K2 = (q' = q ∧ aApp P q H (ev G T a) (ev G T b) K2) := rfl
theorem ys_makeFunc {fn : Fn} {first caps : Array Operand} : stepOp P G ⟨dst, .makeFunc fn first caps, ty, pos, af, gd⟩ ⟨H, T⟩ K2 = (((first.toList ++ caps.toList).map (ev G T)).all cap0 = true ∧ K2 (CL fn first.toList.length ((first.toList ++ caps.toList).map (ev G T))) H) := rfl
theorem ys_callv {q : Tmp} {ags : Array Operand} {ts : Array TypeId} : stepOp P G ⟨dst, .call { callee := .value (.tmp q), args := ags, argTypes := ts }, ty, pos, af, gd⟩ ⟨H, T⟩ K2 = aCallV P G (get T q) (ags.toList.map (ev G T)) H K2 := rfl
theorem yd_nil : drawX P G ops b [] s K = K s := rfl
theorem yd_alloc {q : TypeId} : drawX P G ops b (⟨some t, .alloc q, ty, pos, af, none⟩ :: r) ⟨H, T⟩ K = allocA (zeroC P q) q H (hold (fun d H' => drawX P G ops true r ⟨H', (t, d) :: T⟩ K) .mk) := dx_alloc
theorem yd_store {q : TypeId} {a c : Operand} : drawX P G ops b (⟨none, .store q a c, ty, pos, af, none⟩ :: r) ⟨H, T⟩ K = aStore (kindT P q) H (ev G T a) (ev G T c) (hold (fun H' => drawX P G ops true r ⟨H', T⟩ K) .mk) := dx_store
theorem yd_move {a : Operand} : drawX P G ops b (⟨some t, .move a, ty, pos, af, none⟩ :: r) ⟨H, T⟩ K = (okX b (.move a) ∧ drawX P G ops b r ⟨H, (t, ev G T a) :: T⟩ K) := by rw [dx_move, xo_move]; rfl
theorem yg_move {a : Operand} {j : Nat} {w : Bool} : drawX P G ops false (⟨some t, .move a, ty, pos, af, some (j, w)⟩ :: r) ⟨H, T⟩ K = gO (dstAt ops j) T w (hold (fun _ => drawX P G ops false r ⟨H, (t, ev G T a) :: T⟩ K) .mk) (hold (fun _ => drawX P G ops false r ⟨H, (t, UD) :: T⟩ K) .mk) := by rw [dg_move, xo_move]; rfl
theorem yd_assign {a : Operand} : drawX P G ops b (⟨some t, .assign a, ty, pos, af, none⟩ :: r) ⟨H, T⟩ K = (okX b (.assign a) ∧ drawX P G ops b r ⟨H, (t, ev G T a) :: T⟩ K) := by rw [dx_assign, xo_assign]; rfl
theorem yg_assign {a : Operand} {j : Nat} {w : Bool} : drawX P G ops false (⟨some t, .assign a, ty, pos, af, some (j, w)⟩ :: r) ⟨H, T⟩ K = gO (dstAt ops j) T w (hold (fun _ => drawX P G ops false r ⟨H, (t, ev G T a) :: T⟩ K) .mk) (hold (fun _ => drawX P G ops false r ⟨H, (t, UD) :: T⟩ K) .mk) := by rw [dg_assign, xo_assign]; rfl
theorem yd_pick {a c d : Operand} : drawX P G ops b (⟨some t, .pick a c d, ty, pos, af, none⟩ :: r) ⟨H, T⟩ K = (okX b (.pick a c d) ∧ aPick (ev G T a) (ev G T c) (ev G T d) (hold (fun v => drawX P G ops b r ⟨H, (t, v) :: T⟩ K) .mk)) := by rw [dx_pick, xo_pick]; rfl
theorem yg_pick {a c d : Operand} {j : Nat} {w : Bool} : drawX P G ops false (⟨some t, .pick a c d, ty, pos, af, some (j, w)⟩ :: r) ⟨H, T⟩ K = gO (dstAt ops j) T w (hold (fun _ => aPick (ev G T a) (ev G T c) (ev G T d) (hold (fun v => drawX P G ops false r ⟨H, (t, v) :: T⟩ K) .mk)) .mk) (hold (fun _ => drawX P G ops false r ⟨H, (t, UD) :: T⟩ K) .mk) := by rw [dg_pick, xo_pick]; rfl
theorem yd_bin {o : BinOp} {t' t'' : TypeId} {a c : Operand} : drawX P G ops b (⟨some t, .binOp o t' a c t'', ty, pos, af, none⟩ :: r) ⟨H, T⟩ K = (okX b (.binOp o t' a c t'') ∧ aBin P t' o (ev G T a) (ev G T c) (hold (fun v => drawX P G ops b r ⟨H, (t, v) :: T⟩ K) .mk)) := by rw [dx_bin, xo_bin]; rfl
theorem yg_bin {o : BinOp} {t' t'' : TypeId} {a c : Operand} {j : Nat} {w : Bool} : drawX P G ops false (⟨some t, .binOp o t' a c t'', ty, pos, af, some (j, w)⟩ :: r) ⟨H, T⟩ K = gO (dstAt ops j) T w (hold (fun _ => aBin P t' o (ev G T a) (ev G T c) (hold (fun v => drawX P G ops false r ⟨H, (t, v) :: T⟩ K) .mk)) .mk) (hold (fun _ => drawX P G ops false r ⟨H, (t, UD) :: T⟩ K) .mk) := by rw [dg_bin, xo_bin]; rfl
theorem yd_un {o : UnOp} {t' : TypeId} {a : Operand} : drawX P G ops b (⟨some t, .unOp o t' a, ty, pos, af, none⟩ :: r) ⟨H, T⟩ K = (okX b (.unOp o t' a) ∧ aUn o (ev G T a) (hold (fun v => drawX P G ops b r ⟨H, (t, v) :: T⟩ K) .mk)) := by rw [dx_un, xo_un]; rfl
theorem yg_un {o : UnOp} {t' : TypeId} {a : Operand} {j : Nat} {w : Bool} : drawX P G ops false (⟨some t, .unOp o t' a, ty, pos, af, some (j, w)⟩ :: r) ⟨H, T⟩ K = gO (dstAt ops j) T w (hold (fun _ => aUn o (ev G T a) (hold (fun v => drawX P G ops false r ⟨H, (t, v) :: T⟩ K) .mk)) .mk) (hold (fun _ => drawX P G ops false r ⟨H, (t, UD) :: T⟩ K) .mk) := by rw [dg_un, xo_un]; rfl
theorem yd_build {t' : TypeId} {ps : Array (Nat × Operand)} : drawX P G ops b (⟨some t, .build t' ps, ty, pos, af, none⟩ :: r) ⟨H, T⟩ K = (okX b (.build t' ps) ∧ aBuild P t' (ps.toList.map fun p => (p.1, ev G T p.2)) (hold (fun v => drawX P G ops b r ⟨H, (t, v) :: T⟩ K) .mk)) := by rw [dx_build, xo_build]; rfl
theorem yg_build {t' : TypeId} {ps : Array (Nat × Operand)} {j : Nat} {w : Bool} : drawX P G ops false (⟨some t, .build t' ps, ty, pos, af, some (j, w)⟩ :: r) ⟨H, T⟩ K = gO (dstAt ops j) T w (hold (fun _ => aBuild P t' (ps.toList.map fun p => (p.1, ev G T p.2)) (hold (fun v => drawX P G ops false r ⟨H, (t, v) :: T⟩ K) .mk)) .mk) (hold (fun _ => drawX P G ops false r ⟨H, (t, UD) :: T⟩ K) .mk) := by rw [dg_build, xo_build]; rfl
theorem yd_buildSlice {t' : TypeId} {m : Nat} {ps : Array (Nat × Operand)} : drawX P G ops b (⟨some t, .buildSlice t' m ps, ty, pos, af, none⟩ :: r) ⟨H, T⟩ K = (okX b (.buildSlice t' m ps) ∧ aBuildS P t' m (ps.toList.map fun p => (p.1, ev G T p.2)) (hold (fun v => drawX P G ops b r ⟨H, (t, v) :: T⟩ K) .mk)) := by rw [dx_buildSlice, xo_buildSlice]; rfl
theorem yg_buildSlice {t' : TypeId} {m : Nat} {ps : Array (Nat × Operand)} {j : Nat} {w : Bool} : drawX P G ops false (⟨some t, .buildSlice t' m ps, ty, pos, af, some (j, w)⟩ :: r) ⟨H, T⟩ K = gO (dstAt ops j) T w (hold (fun _ => aBuildS P t' m (ps.toList.map fun p => (p.1, ev G T p.2)) (hold (fun v => drawX P G ops false r ⟨H, (t, v) :: T⟩ K) .mk)) .mk) (hold (fun _ => drawX P G ops false r ⟨H, (t, UD) :: T⟩ K) .mk) := by rw [dg_buildSlice, xo_buildSlice]; rfl
theorem yd_load {t' : TypeId} {a : Operand} : drawX P G ops b (⟨some t, .load t' a, ty, pos, af, none⟩ :: r) ⟨H, T⟩ K = (okX b (.load t' a) ∧ aLoad (kindT P t') H (ev G T a) (hold (fun v => drawX P G ops b r ⟨H, (t, v) :: T⟩ K) .mk)) := by rw [dx_load, xo_load]; rfl
theorem yg_load {t' : TypeId} {a : Operand} {j : Nat} {w : Bool} : drawX P G ops false (⟨some t, .load t' a, ty, pos, af, some (j, w)⟩ :: r) ⟨H, T⟩ K = gO (dstAt ops j) T w (hold (fun _ => aLoad (kindT P t') H (ev G T a) (hold (fun v => drawX P G ops false r ⟨H, (t, v) :: T⟩ K) .mk)) .mk) (hold (fun _ => drawX P G ops false r ⟨H, (t, UD) :: T⟩ K) .mk) := by rw [dg_load, xo_load]; rfl
theorem yd_nilCheck {a : Operand} : drawX P G ops b (⟨some t, .nilCheck a, ty, pos, af, none⟩ :: r) ⟨H, T⟩ K = (okX b (.nilCheck a) ∧ aNil (ev G T a) (hold (fun v => drawX P G ops b r ⟨H, (t, v) :: T⟩ K) .mk)) := by rw [dx_nilCheck, xo_nilCheck]; rfl
theorem yg_nilCheck {a : Operand} {j : Nat} {w : Bool} : drawX P G ops false (⟨some t, .nilCheck a, ty, pos, af, some (j, w)⟩ :: r) ⟨H, T⟩ K = gO (dstAt ops j) T w (hold (fun _ => aNil (ev G T a) (hold (fun v => drawX P G ops false r ⟨H, (t, v) :: T⟩ K) .mk)) .mk) (hold (fun _ => drawX P G ops false r ⟨H, (t, UD) :: T⟩ K) .mk) := by rw [dg_nilCheck, xo_nilCheck]; rfl
theorem yd_conv {t' t'' : TypeId} {a : Operand} : drawX P G ops b (⟨some t, .convert t' t'' a, ty, pos, af, none⟩ :: r) ⟨H, T⟩ K = (okX b (.convert t' t'' a) ∧ aConv P t' t'' (ev G T a) (hold (fun v => drawX P G ops b r ⟨H, (t, v) :: T⟩ K) .mk)) := by rw [dx_conv, xo_conv]; rfl
theorem yg_conv {t' t'' : TypeId} {a : Operand} {j : Nat} {w : Bool} : drawX P G ops false (⟨some t, .convert t' t'' a, ty, pos, af, some (j, w)⟩ :: r) ⟨H, T⟩ K = gO (dstAt ops j) T w (hold (fun _ => aConv P t' t'' (ev G T a) (hold (fun v => drawX P G ops false r ⟨H, (t, v) :: T⟩ K) .mk)) .mk) (hold (fun _ => drawX P G ops false r ⟨H, (t, UD) :: T⟩ K) .mk) := by rw [dg_conv, xo_conv]; rfl
theorem yd_extract {a : Operand} {i : Nat} : drawX P G ops b (⟨some t, .extract a i, ty, pos, af, none⟩ :: r) ⟨H, T⟩ K = (okX b (.extract a i) ∧ aExtract (ev G T a) i (hold (fun v => drawX P G ops b r ⟨H, (t, v) :: T⟩ K) .mk)) := by rw [dx_extract, xo_extract]; rfl
theorem yg_extract {a : Operand} {i : Nat} {j : Nat} {w : Bool} : drawX P G ops false (⟨some t, .extract a i, ty, pos, af, some (j, w)⟩ :: r) ⟨H, T⟩ K = gO (dstAt ops j) T w (hold (fun _ => aExtract (ev G T a) i (hold (fun v => drawX P G ops false r ⟨H, (t, v) :: T⟩ K) .mk)) .mk) (hold (fun _ => drawX P G ops false r ⟨H, (t, UD) :: T⟩ K) .mk) := by rw [dg_extract, xo_extract]; rfl
theorem yd_fieldAddr {t' : TypeId} {a : Operand} {i : Nat} : drawX P G ops b (⟨some t, .fieldAddr t' a i, ty, pos, af, none⟩ :: r) ⟨H, T⟩ K = (okX b (.fieldAddr t' a i) ∧ aField (fieldT P t' i) (ev G T a) (hold (fun v => drawX P G ops b r ⟨H, (t, v) :: T⟩ K) .mk)) := by rw [dx_fieldAddr, xo_fieldAddr]; rfl
theorem yg_fieldAddr {t' : TypeId} {a : Operand} {i : Nat} {j : Nat} {w : Bool} : drawX P G ops false (⟨some t, .fieldAddr t' a i, ty, pos, af, some (j, w)⟩ :: r) ⟨H, T⟩ K = gO (dstAt ops j) T w (hold (fun _ => aField (fieldT P t' i) (ev G T a) (hold (fun v => drawX P G ops false r ⟨H, (t, v) :: T⟩ K) .mk)) .mk) (hold (fun _ => drawX P G ops false r ⟨H, (t, UD) :: T⟩ K) .mk) := by rw [dg_fieldAddr, xo_fieldAddr]; rfl
theorem yd_field {t' : TypeId} {a : Operand} {i : Nat} : drawX P G ops b (⟨some t, .field t' a i, ty, pos, af, none⟩ :: r) ⟨H, T⟩ K = (okX b (.field t' a i) ∧ aFieldV (fieldT P t' i) (ev G T a) (hold (fun v => drawX P G ops b r ⟨H, (t, v) :: T⟩ K) .mk)) := by rw [dx_field, xo_field]; rfl
theorem yg_field {t' : TypeId} {a : Operand} {i : Nat} {j : Nat} {w : Bool} : drawX P G ops false (⟨some t, .field t' a i, ty, pos, af, some (j, w)⟩ :: r) ⟨H, T⟩ K = gO (dstAt ops j) T w (hold (fun _ => aFieldV (fieldT P t' i) (ev G T a) (hold (fun v => drawX P G ops false r ⟨H, (t, v) :: T⟩ K) .mk)) .mk) (hold (fun _ => drawX P G ops false r ⟨H, (t, UD) :: T⟩ K) .mk) := by rw [dg_field, xo_field]; rfl
theorem yd_indexAddr {t' : TypeId} {a c : Operand} : drawX P G ops b (⟨some t, .indexAddr t' a c, ty, pos, af, none⟩ :: r) ⟨H, T⟩ K = (okX b (.indexAddr t' a c) ∧ aIndexA P t' H (ev G T a) (ev G T c) (hold (fun v => drawX P G ops b r ⟨H, (t, v) :: T⟩ K) .mk)) := by rw [dx_indexAddr, xo_indexAddr]; rfl
theorem yg_indexAddr {t' : TypeId} {a c : Operand} {j : Nat} {w : Bool} : drawX P G ops false (⟨some t, .indexAddr t' a c, ty, pos, af, some (j, w)⟩ :: r) ⟨H, T⟩ K = gO (dstAt ops j) T w (hold (fun _ => aIndexA P t' H (ev G T a) (ev G T c) (hold (fun v => drawX P G ops false r ⟨H, (t, v) :: T⟩ K) .mk)) .mk) (hold (fun _ => drawX P G ops false r ⟨H, (t, UD) :: T⟩ K) .mk) := by rw [dg_indexAddr, xo_indexAddr]; rfl
theorem yd_index {t' : TypeId} {a c : Operand} : drawX P G ops b (⟨some t, .index t' a c, ty, pos, af, none⟩ :: r) ⟨H, T⟩ K = (okX b (.index t' a c) ∧ aIndexV P t' (ev G T a) (ev G T c) (hold (fun v => drawX P G ops b r ⟨H, (t, v) :: T⟩ K) .mk)) := by rw [dx_index, xo_index]; rfl
theorem yg_index {t' : TypeId} {a c : Operand} {j : Nat} {w : Bool} : drawX P G ops false (⟨some t, .index t' a c, ty, pos, af, some (j, w)⟩ :: r) ⟨H, T⟩ K = gO (dstAt ops j) T w (hold (fun _ => aIndexV P t' (ev G T a) (ev G T c) (hold (fun v => drawX P G ops false r ⟨H, (t, v) :: T⟩ K) .mk)) .mk) (hold (fun _ => drawX P G ops false r ⟨H, (t, UD) :: T⟩ K) .mk) := by rw [dg_index, xo_index]; rfl
theorem yd_slice {t' : TypeId} {a : Operand} {lo hi : Option Operand} : drawX P G ops b (⟨some t, .slice t' a lo hi none, ty, pos, af, none⟩ :: r) ⟨H, T⟩ K = (okX b (.slice t' a lo hi none) ∧ aSlice P t' H (ev G T a) (lo.map (ev G T)) (hi.map (ev G T)) (hold (fun v => drawX P G ops b r ⟨H, (t, v) :: T⟩ K) .mk)) := by rw [dx_slice, xo_slice]; rfl
theorem yg_slice {t' : TypeId} {a : Operand} {lo hi : Option Operand} {j : Nat} {w : Bool} : drawX P G ops false (⟨some t, .slice t' a lo hi none, ty, pos, af, some (j, w)⟩ :: r) ⟨H, T⟩ K = gO (dstAt ops j) T w (hold (fun _ => aSlice P t' H (ev G T a) (lo.map (ev G T)) (hi.map (ev G T)) (hold (fun v => drawX P G ops false r ⟨H, (t, v) :: T⟩ K) .mk)) .mk) (hold (fun _ => drawX P G ops false r ⟨H, (t, UD) :: T⟩ K) .mk) := by rw [dg_slice, xo_slice]; rfl
theorem yd_len {t' : TypeId} {a : Operand} : drawX P G ops b (⟨some t, .call { callee := .builtin .len, args := #[a], argTypes := #[t'] }, ty, pos, af, none⟩ :: r) ⟨H, T⟩ K = (okX b (.call { callee := .builtin .len, args := #[a], argTypes := #[t'] }) ∧ aLen P t' H (ev G T a) (hold (fun v => drawX P G ops b r ⟨H, (t, v) :: T⟩ K) .mk)) := by rw [dx_call, xo_len]; rfl
theorem yg_len {t' : TypeId} {a : Operand} {j : Nat} {w : Bool} : drawX P G ops false (⟨some t, .call { callee := .builtin .len, args := #[a], argTypes := #[t'] }, ty, pos, af, some (j, w)⟩ :: r) ⟨H, T⟩ K = gO (dstAt ops j) T w (hold (fun _ => aLen P t' H (ev G T a) (hold (fun v => drawX P G ops false r ⟨H, (t, v) :: T⟩ K) .mk)) .mk) (hold (fun _ => drawX P G ops false r ⟨H, (t, UD) :: T⟩ K) .mk) := by rw [dg_call, xo_len]; rfl
theorem yd_call {f : FuncId} {ags : Array Operand} {ts : Array TypeId} : drawX P G ops b (⟨some t, .call { callee := .value (.func f), args := ags, argTypes := ts }, ty, pos, af, none⟩ :: r) ⟨H, T⟩ K = (okX b (.call { callee := .value (.func f), args := ags, argTypes := ts }) ∧ callD P G f ((ags.toList.map (ev G T)).map (ro H)) (hold (fun v => drawX P G ops b r ⟨H, (t, v) :: T⟩ K) .mk)) := by rw [dx_call, xo_call]; rfl
theorem yg_call {f : FuncId} {ags : Array Operand} {ts : Array TypeId} {j : Nat} {w : Bool} : drawX P G ops false (⟨some t, .call { callee := .value (.func f), args := ags, argTypes := ts }, ty, pos, af, some (j, w)⟩ :: r) ⟨H, T⟩ K = gO (dstAt ops j) T w (hold (fun _ => callD P G f ((ags.toList.map (ev G T)).map (ro H)) (hold (fun v => drawX P G ops false r ⟨H, (t, v) :: T⟩ K) .mk)) .mk) (hold (fun _ => drawX P G ops false r ⟨H, (t, UD) :: T⟩ K) .mk) := by rw [dg_call, xo_call]; rfl
end
end Go.Proofs.YtopifabnobplcaaDoor

namespace Go.Proofs.YtopifabnobplcaaDoor
open Go.RowKit
theorem tk_3 : kindT Tryd.prog 3 = 1 := by kernel_rfl
theorem tk_9 : kindT Tryd.prog 9 = 1 := by kernel_rfl
theorem tk_31 : kindT Tryd.prog 31 = 1 := by kernel_rfl
theorem tk_32 : kindT Tryd.prog 32 = 18 := by kernel_rfl
theorem tk_35 : kindT Tryd.prog 35 = 34 := by kernel_rfl
theorem tk_68 : kindT Tryd.prog 68 = 7 := by kernel_rfl
theorem tf_35_0 : fieldT Tryd.prog 35 0 = some (0, 18) := by kernel_rfl
theorem tf_35_1 : fieldT Tryd.prog 35 1 = some (16, 18) := by kernel_rfl
theorem tf_66_2 : fieldT Tryd.prog 66 2 = some (2, 1) := by kernel_rfl
theorem tf_68_0 : fieldT Tryd.prog 68 0 = some (0, 1) := by kernel_rfl
theorem tf_68_1 : fieldT Tryd.prog 68 1 = some (1, 5) := by kernel_rfl
theorem tf_68_2 : fieldT Tryd.prog 68 2 = some (4, 1) := by kernel_rfl
theorem ts_9 : sliceT Tryd.prog 9 = none := by kernel_rfl
theorem ts_31 : sliceT Tryd.prog 31 = some (68, 7) := by kernel_rfl
theorem ts_32 : sliceT Tryd.prog 32 = none := by kernel_rfl
theorem ts_33 : sliceT Tryd.prog 33 = none := by kernel_rfl
theorem ta_9 : arrayT Tryd.prog 9 = none := by kernel_rfl
theorem ta_31 : arrayT Tryd.prog 31 = none := by kernel_rfl
theorem ta_32 : arrayT Tryd.prog 32 = some (16, 1) := by kernel_rfl
theorem ta_33 : arrayT Tryd.prog 33 = some (16, 1) := by kernel_rfl
theorem tq_31 : appT Tryd.prog 31 = some (68, 5) := by kernel_rfl
theorem tq_55 : appT Tryd.prog 55 = some (3, 1) := by kernel_rfl
theorem ti_3 : intT Tryd.prog 3 = some .i64 := by kernel_rfl
theorem tz_35 : zeroC Tryd.prog 35 = some [V (Value.slice none 0 0), V (Value.slice none 0 0), V (Value.slice none 0 0), V (Value.slice none 0 0), V (Value.slice none 0 0), V (Value.slice none 0 0), V (Value.slice none 0 0), V (Value.slice none 0 0), V (Value.slice none 0 0), V (Value.slice none 0 0), V (Value.slice none 0 0), V (Value.slice none 0 0), V (Value.slice none 0 0), V (Value.slice none 0 0), V (Value.slice none 0 0), V (Value.slice none 0 0), V (Value.int IntKind.i64 0), V (Value.int IntKind.i64 0), V (Value.int IntKind.i64 0), V (Value.int IntKind.i64 0), V (Value.int IntKind.i64 0), V (Value.int IntKind.i64 0), V (Value.int IntKind.i64 0), V (Value.int IntKind.i64 0), V (Value.int IntKind.i64 0), V (Value.int IntKind.i64 0), V (Value.int IntKind.i64 0), V (Value.int IntKind.i64 0), V (Value.int IntKind.i64 0), V (Value.int IntKind.i64 0), V (Value.int IntKind.i64 0), V (Value.int IntKind.i64 0)] := by kernel_rfl
theorem tz_68 : zeroC Tryd.prog 68 = some [V (Value.string ⟨#[]⟩), V (Value.int IntKind.i64 0), V (Value.int IntKind.i64 0), V (Value.string ⟨#[]⟩), V (Value.int IntKind.i64 0)] := by kernel_rfl
theorem tv_3 : (Tryd.prog.underlying 3).isSome = true := by kernel_rfl
theorem tv_5 : (Tryd.prog.underlying 5).isSome = true := by kernel_rfl
theorem tu_9 : Tryd.prog.underlying 9 = some .string := by kernel_rfl
theorem tv_9 : (Tryd.prog.underlying 9).isSome = true := by kernel_rfl
theorem tv_24 : (Tryd.prog.underlying 24).isSome = true := by kernel_rfl
end Go.Proofs.YtopifabnobplcaaDoor

namespace Go.Proofs.YtopifabnobplcaaDoor
open Go.RowKit
set_option linter.unusedVariables false
set_option linter.unusedSimpArgs false
set_option maxRecDepth 20000
theorem fl_it (x : Item) : flA Item.cells x = .agg [V (.string ⟨x.key.toArray⟩), V (.int .i64 x.kind), V (.int .i64 x.i), V (.string ⟨x.s.toArray⟩), V (.int .i64 x.ver)] := _root_.id rfl
theorem allC_it (l : List Item) : allC 5 (l.map (flA Item.cells)) = True := allC_mapEq fun x => rfl
def foldA (l : List Item) (k : Nat) : List AV := ((l.take k).map Item.one).map (flA Item.cells)
theorem foldA_all (l : List Item) (k : Nat) : allC 5 (foldA l k) = True := allC_it _
theorem lt_it (l : List Item) (m : Nat) : (l.map (flA Item.cells)).all (ltA m) = true := by
  simp only [List.all_map, List.all_eq_true, Function.comp_apply]
  exact fun x _ => rfl
theorem lt_fold (l : List Item) (k m : Nat) : (foldA l k).all (ltA m) = true := lt_it _ m
theorem foldA_zero (l : List Item) : foldA l 0 = [] := _root_.id rfl
theorem foldA_len (l : List Item) {k : Nat} (h : k ≤ l.length) : (foldA l k).length = k := by simp [foldA]; omega
theorem foldA_succ (l : List Item) {k : Nat} (h : k < l.length) : foldA l k ++ [iA l[k].one] = foldA l (k + 1) := by
  unfold foldA
  rw [List.take_succ_eq_append_getElem h, List.map_append, List.map_append]
  rfl
theorem foldA_full (l : List Item) {k : Nat} (h : ¬ k < l.length) : foldA l k = (l.map Item.one).map (flA Item.cells) := by
  unfold foldA
  rw [List.take_of_length_le (by omega)]
attribute [local go_sem ↓] str_size pk_tt pk_ff hold_one hold_two gO_some gA_tt gA_tf gA_ft gA_ff cA_true cA_false yP_n yP_r yK_n yK_r yQ_n yQ_r yC_nil yC_tmp yC_cell yo_nil yo_cons yo_none yo_guard yo_guardN ys_move ys_assign ys_pick ys_bin ys_un ys_build ys_buildSlice ys_load ys_nilCheck ys_conv ys_extract ys_fieldAddr ys_field ys_indexAddr ys_index ys_slice ys_len ys_alloc ys_box ys_store ys_call ys_append ys_makeFunc ys_callv yd_nil yd_alloc yd_store yd_move yg_move yd_assign yg_assign yd_pick yg_pick yd_bin yg_bin yd_un yg_un yd_build yg_build yd_buildSlice yg_buildSlice yd_load yg_load yd_nilCheck yg_nilCheck yd_conv yg_conv yd_extract yg_extract yd_fieldAddr yg_fieldAddr yd_field yg_field yd_indexAddr yg_indexAddr yd_index yg_index yd_slice yg_slice yd_len yg_len yd_call yg_call ixA_eq sl_es sl_row sl_nil ap_eq bs_eq bl_eq cv_eq ixV_agg thenA_n thenA_r thenA_x inB_n inB_r inB_x loop_r loop_x dstAt_zero dstAt_succ retP_n retP_r
attribute [local go_sem] hle_nil hle_cons oO_one oO_two oO_three oO_nil r1_r0 r1_r1 r1_r2 r1_r3 ro_OW roA_OW go_some al_some okX_f okX_t tells regOnly cv_cl cap0_V cap0_OP cap0_ptr ixA_s ixA_p ixA_o szOf_one szOf_two ixV_str ixW_some sl_str slE_some apE_nil apE_row bsE_one flE_some pget_zero pget_succ blE_some fil_nil fil_cons filB_some cvE_some cv_str' str_list str_cut str_data cut_all cut_to s_eql s_neq s_add s_lss s_geq s_leq s_gtr lt1 set_some set_none get_cons ev_tmp ev_const ev_func ev_global glob_cons cv_int cv_bool cv_str cv_slice cv_ptr cv_agg one_int one_bool one_str one_slice one_ptr b_add b_sub b_mul b_quo b_rem b_and b_or b_xor b_andNot b_shl b_shr b_eql b_neq b_lss b_leq b_gtr b_geq b_str b_beq b_bne u_not u_neg g_tt g_tf g_ft g_ff c_true c_false ex_tu nth_zero nth_succ nthO_zero nthO_succ l_ptr l_ptrV l_ptrS l_op cP_one pP_one oc_one oc_agg st_op f_ptr f_op fv_agg co_agg co_V co_slice co_OW co_OP co_ptr sure_V sure_slice sure_OW sure_OP sure_ptr sure_agg sc_nil sc_cons ixS ixSW ixSN bsV_nil bsV_cons el_slice el_row el_nil len_str len_slice len_row len_nil asI_none asI_some nil_op nil_ptr ro_int ro_bool ro_str ro_nils ro_slice ro_ptr ro_OP ro_OW ro_agg ro_tu roA_agg roA_V roA_slice roA_OW roA_OP roA_ptr r1_int r1_bool r1_str r1_nils r1_slice r1_ptr r1_OP resA_one resA_two resA_three noT_V noT_agg noT_slice noT_OW noT_OP noT_ptr noT_nil argsT_nil argsT_cons allC_nil allC_cons allC_append hle_nil hle_cons le_nil le_cons tT_V tT_SL tT_ptr tT_OW tT_OP tT_agg tT_TU tA_V tA_SL tA_ptr tA_OW tA_OP tA_agg t1_V t1_SL t1_ptr t1_OW t1_OP tO_mk get_cons beq_self_eq_true Nat.zero_lt_succ Nat.lt_add_one true_or or_true Bool.or_self Nat.zero_add Nat.add_zero Nat.mul_one Int.toNat_natCast Int.natCast_zero Int.natCast_add Int.cast_ofNat_Int or_false false_or or_true true_or Nat.sub_zero Int.natCast_nonneg Int.toNat_zero Bool.true_and Bool.and_true Bool.false_and Bool.and_false Bool.true_or Bool.or_true Bool.false_or Bool.or_false Bool.not_true Bool.not_false Bool.not_not true_and and_true false_and and_false not_true_eq_false not_false_eq_true eq_self decide_true decide_false ne_eq implies_true forall_const true_implies false_implies Bool.true_eq_false Bool.false_eq_true List.map_cons List.map_nil List.all_cons List.all_nil List.length_cons List.length_nil List.length_map List.length_append List.nil_append List.cons_append List.set_cons_zero List.set_cons_succ List.set_nil List.drop_zero List.drop_succ_cons List.drop_nil List.take_zero List.take_succ_cons List.take_nil Option.map_some Option.map_none Option.isSome_some tk_3 tk_9 tk_31 tk_32 tk_35 tk_68 tf_35_0 tf_35_1 tf_66_2 tf_68_0 tf_68_1 tf_68_2 ts_9 ts_31 ts_32 ts_33 ta_9 ta_31 ta_32 ta_33 tq_31 tq_55 ti_3 tz_68 tv_3 tv_5 tu_9 tv_9 tv_24 iA_def fl_it allC_it foldA_all lt_it lt_fold
set_option maxHeartbeats 400000 in
theorem short_d {G : Gl} (s : Bytes) : ACp Tryd.prog G 59 [sA s] (sA (s.take 60)) := by
  refine acp_of_wpC (c := _) Tryd.func59 rfl (by kernel_rfl) [.tmp 2] rfl _ Tryd.ntmps59 (Nat.le_of_ble_eq_true rfl) rfl ?_
  repeat' (first | (with_reducible refine aq ?_) | (with_reducible refine yr (by kernel_rfl) (Nat.le_of_ble_eq_true rfl) ?_) | (with_reducible refine yx MIX (by kernel_rfl) (by kernel_rfl) (by kernel_rfl) (Nat.le_of_ble_eq_true rfl) ?_) | (with_reducible refine yc ?_) | (with_reducible refine yseq ?_) | (with_reducible refine awp_block ?_) | (with_reducible refine awp_ret ?_) | (with_reducible refine awp_exit ?_) | (with_reducible refine awp_skip ?_) | (with_reducible refine yr1 (by kernel_rfl) (Nat.le_of_ble_eq_true rfl) ?_) | (with_reducible refine yx1 MIX (by kernel_rfl) (by kernel_rfl) (by kernel_rfl) (Nat.le_of_ble_eq_true rfl) ?_) | (simp only [go_sem, ↓reduceIte, Nat.reduceEqDiff, Nat.reduceAdd, Nat.reduceSub, Nat.reduceMul, Nat.reduceLeDiff, Nat.reduceLT, Int.reduceEq, Int.reduceNe, Int.reduceLT, Int.reduceLE, Int.reduceAdd, Int.reduceSub, Int.reduceMul, Int.reduceNeg, Int.reduceToNat, reduceCtorEq]) | ((with_reducible refine cA_t (by first | with_reducible assumption | (simp only [decide_eq_true_eq, decide_eq_false_iff_not]; first | with_reducible assumption | omega)) (fun h => ?_)) <;> (try rewrite [h]) <;> clear h) | ((with_reducible refine cA_f (by first | with_reducible assumption | (simp only [decide_eq_true_eq, decide_eq_false_iff_not]; first | with_reducible assumption | omega)) (fun h => ?_)) <;> (try rewrite [h]) <;> clear h) | ((with_reducible refine gA_t (by first | with_reducible assumption | (simp only [decide_eq_true_eq, decide_eq_false_iff_not]; first | with_reducible assumption | omega)) (fun h => ?_)) <;> (try rewrite [h]) <;> clear h) | ((with_reducible refine gA_f (by first | with_reducible assumption | (simp only [decide_eq_true_eq, decide_eq_false_iff_not]; first | with_reducible assumption | omega)) (fun h => ?_)) <;> (try rewrite [h]) <;> clear h) | ((with_reducible refine pk_t (by first | with_reducible assumption | (simp only [decide_eq_true_eq, decide_eq_false_iff_not]; first | with_reducible assumption | omega)) (fun h => ?_)) <;> (try rewrite [h]) <;> clear h) | ((with_reducible refine pk_f (by first | with_reducible assumption | (simp only [decide_eq_true_eq, decide_eq_false_iff_not]; first | with_reducible assumption | omega)) (fun h => ?_)) <;> (try rewrite [h]) <;> clear h) | (with_reducible refine pk_if ?_) | ((with_reducible refine cA_split (fun h => ?_) (fun h => ?_)) <;> (try rewrite [h]) <;> (try simp (disch := omega) only [w_i64, w_u64, tdiv_pos, tmod_pos, nth_map, foldA_len] at h) <;> (try simp only [decide_eq_true_eq, decide_eq_false_iff_not, Bool.not_eq_true, Bool.not_eq_false, Bool.not_eq_true', Bool.not_eq_false', not_true_eq_false, not_false_eq_true] at h) <;> (try (exfalso; omega))) | ((with_reducible refine gA_split (fun h => ?_) (fun h => ?_)) <;> (try rewrite [h]) <;> (try simp (disch := omega) only [w_i64, w_u64, tdiv_pos, tmod_pos, nth_map, foldA_len] at h) <;> (try simp only [decide_eq_true_eq, decide_eq_false_iff_not, Bool.not_eq_true, Bool.not_eq_false, Bool.not_eq_true', Bool.not_eq_false', not_true_eq_false, not_false_eq_true] at h) <;> (try (exfalso; omega))) | (simp (disch := omega) only [w_i64, w_u64, tdiv_pos, tmod_pos, nth_map, foldA_len]) | (with_reducible refine And.intro (by first | with_reducible assumption | rfl | omega) ?_) | (with_reducible refine And.intro ?_ ?_))
  rw [List.take_of_length_le (by omega)]
set_option maxHeartbeats 400000 in
theorem one_d {G : Gl} (x : Item) : ACp Tryd.prog G 49 [iA x] (iA x.one) := by
  refine acp_of_wpC (c := _) Tryd.func49 rfl (by kernel_rfl) [.cell 2 68] rfl _ Tryd.ntmps49 (Nat.le_of_ble_eq_true rfl) rfl ?_
  repeat' (first | (refine call_pure (short_d _) rfl ?_) | (with_reducible refine aq ?_) | (with_reducible refine yr (by kernel_rfl) (Nat.le_of_ble_eq_true rfl) ?_) | (with_reducible refine yx MIX (by kernel_rfl) (by kernel_rfl) (by kernel_rfl) (Nat.le_of_ble_eq_true rfl) ?_) | (with_reducible refine yc ?_) | (with_reducible refine yseq ?_) | (with_reducible refine awp_block ?_) | (with_reducible refine awp_ret ?_) | (with_reducible refine awp_exit ?_) | (with_reducible refine awp_skip ?_) | (with_reducible refine yr1 (by kernel_rfl) (Nat.le_of_ble_eq_true rfl) ?_) | (with_reducible refine yx1 MIX (by kernel_rfl) (by kernel_rfl) (by kernel_rfl) (Nat.le_of_ble_eq_true rfl) ?_) | (simp only [go_sem, ↓reduceIte, Nat.reduceEqDiff, Nat.reduceAdd, Nat.reduceSub, Nat.reduceMul, Nat.reduceLeDiff, Nat.reduceLT, Int.reduceEq, Int.reduceNe, Int.reduceLT, Int.reduceLE, Int.reduceAdd, Int.reduceSub, Int.reduceMul, Int.reduceNeg, Int.reduceToNat, reduceCtorEq]) | ((with_reducible refine cA_t (by first | with_reducible assumption | (simp only [decide_eq_true_eq, decide_eq_false_iff_not]; first | with_reducible assumption | omega)) (fun h => ?_)) <;> (try rewrite [h]) <;> clear h) | ((with_reducible refine cA_f (by first | with_reducible assumption | (simp only [decide_eq_true_eq, decide_eq_false_iff_not]; first | with_reducible assumption | omega)) (fun h => ?_)) <;> (try rewrite [h]) <;> clear h) | ((with_reducible refine gA_t (by first | with_reducible assumption | (simp only [decide_eq_true_eq, decide_eq_false_iff_not]; first | with_reducible assumption | omega)) (fun h => ?_)) <;> (try rewrite [h]) <;> clear h) | ((with_reducible refine gA_f (by first | with_reducible assumption | (simp only [decide_eq_true_eq, decide_eq_false_iff_not]; first | with_reducible assumption | omega)) (fun h => ?_)) <;> (try rewrite [h]) <;> clear h) | ((with_reducible refine pk_t (by first | with_reducible assumption | (simp only [decide_eq_true_eq, decide_eq_false_iff_not]; first | with_reducible assumption | omega)) (fun h => ?_)) <;> (try rewrite [h]) <;> clear h) | ((with_reducible refine pk_f (by first | with_reducible assumption | (simp only [decide_eq_true_eq, decide_eq_false_iff_not]; first | with_reducible assumption | omega)) (fun h => ?_)) <;> (try rewrite [h]) <;> clear h) | (with_reducible refine pk_if ?_) | ((with_reducible refine cA_split (fun h => ?_) (fun h => ?_)) <;> (try rewrite [h]) <;> (try simp (disch := omega) only [w_i64, w_u64, tdiv_pos, tmod_pos, nth_map, foldA_len] at h) <;> (try simp only [decide_eq_true_eq, decide_eq_false_iff_not, Bool.not_eq_true, Bool.not_eq_false, Bool.not_eq_true', Bool.not_eq_false', not_true_eq_false, not_false_eq_true] at h) <;> (try (exfalso; omega))) | ((with_reducible refine gA_split (fun h => ?_) (fun h => ?_)) <;> (try rewrite [h]) <;> (try simp (disch := omega) only [w_i64, w_u64, tdiv_pos, tmod_pos, nth_map, foldA_len] at h) <;> (try simp only [decide_eq_true_eq, decide_eq_false_iff_not, Bool.not_eq_true, Bool.not_eq_false, Bool.not_eq_true', Bool.not_eq_false', not_true_eq_false, not_false_eq_true] at h) <;> (try (exfalso; omega))) | (simp (disch := omega) only [w_i64, w_u64, tdiv_pos, tmod_pos, nth_map, foldA_len]) | (with_reducible refine And.intro (by first | with_reducible assumption | rfl | omega) ?_) | (with_reducible refine And.intro ?_ ?_))
  · exact rfl
  · have e : x.one.s = x.s := List.take_of_length_le (by omega)
    rw [e]
    rfl
set_option maxHeartbeats 400000 in
theorem items_d {G : Gl} (l : List Item) (hl : l.length ≤ maxLen) : ACp Tryd.prog G 41 [lA l] (lA (fewL l)) := by
  refine acp_of_wpC (c := _) Tryd.func41 rfl (by kernel_rfl) [.tmp 2] rfl _ Tryd.ntmps41 (Nat.le_of_ble_eq_true rfl) rfl ?_
  unfold lA
  have hq : (l.take 66).length ≤ 66 := by rw [List.length_take]; exact Nat.min_le_left ..
  repeat' (first | (with_reducible refine aq ?_) | (with_reducible refine yr (by kernel_rfl) (Nat.le_of_ble_eq_true rfl) ?_) | (with_reducible refine yx MIX (by kernel_rfl) (by kernel_rfl) (by kernel_rfl) (Nat.le_of_ble_eq_true rfl) ?_) | (with_reducible refine yc ?_) | (with_reducible refine yseq ?_) | (with_reducible refine awp_block ?_) | (with_reducible refine awp_ret ?_) | (with_reducible refine awp_exit ?_) | (with_reducible refine awp_skip ?_) | (with_reducible refine yr1 (by kernel_rfl) (Nat.le_of_ble_eq_true rfl) ?_) | (with_reducible refine yx1 MIX (by kernel_rfl) (by kernel_rfl) (by kernel_rfl) (Nat.le_of_ble_eq_true rfl) ?_) | (simp only [go_sem, ↓reduceIte, Nat.reduceEqDiff, Nat.reduceAdd, Nat.reduceSub, Nat.reduceMul, Nat.reduceLeDiff, Nat.reduceLT, Int.reduceEq, Int.reduceNe, Int.reduceLT, Int.reduceLE, Int.reduceAdd, Int.reduceSub, Int.reduceMul, Int.reduceNeg, Int.reduceToNat, reduceCtorEq]) | ((with_reducible refine cA_t (by first | with_reducible assumption | (simp only [decide_eq_true_eq, decide_eq_false_iff_not]; first | with_reducible assumption | omega)) (fun h => ?_)) <;> (try rewrite [h]) <;> clear h) | ((with_reducible refine cA_f (by first | with_reducible assumption | (simp only [decide_eq_true_eq, decide_eq_false_iff_not]; first | with_reducible assumption | omega)) (fun h => ?_)) <;> (try rewrite [h]) <;> clear h) | ((with_reducible refine gA_t (by first | with_reducible assumption | (simp only [decide_eq_true_eq, decide_eq_false_iff_not]; first | with_reducible assumption | omega)) (fun h => ?_)) <;> (try rewrite [h]) <;> clear h) | ((with_reducible refine gA_f (by first | with_reducible assumption | (simp only [decide_eq_true_eq, decide_eq_false_iff_not]; first | with_reducible assumption | omega)) (fun h => ?_)) <;> (try rewrite [h]) <;> clear h) | ((with_reducible refine pk_t (by first | with_reducible assumption | (simp only [decide_eq_true_eq, decide_eq_false_iff_not]; first | with_reducible assumption | omega)) (fun h => ?_)) <;> (try rewrite [h]) <;> clear h) | ((with_reducible refine pk_f (by first | with_reducible assumption | (simp only [decide_eq_true_eq, decide_eq_false_iff_not]; first | with_reducible assumption | omega)) (fun h => ?_)) <;> (try rewrite [h]) <;> clear h) | (with_reducible refine pk_if ?_) | ((with_reducible refine cA_split (fun h => ?_) (fun h => ?_)) <;> (try rewrite [h]) <;> (try simp (disch := omega) only [w_i64, w_u64, tdiv_pos, tmod_pos, nth_map, foldA_len] at h) <;> (try simp only [decide_eq_true_eq, decide_eq_false_iff_not, Bool.not_eq_true, Bool.not_eq_false, Bool.not_eq_true', Bool.not_eq_false', not_true_eq_false, not_false_eq_true] at h) <;> (try (exfalso; omega))) | ((with_reducible refine gA_split (fun h => ?_) (fun h => ?_)) <;> (try rewrite [h]) <;> (try simp (disch := omega) only [w_i64, w_u64, tdiv_pos, tmod_pos, nth_map, foldA_len] at h) <;> (try simp only [decide_eq_true_eq, decide_eq_false_iff_not, Bool.not_eq_true, Bool.not_eq_false, Bool.not_eq_true', Bool.not_eq_false', not_true_eq_false, not_false_eq_true] at h) <;> (try (exfalso; omega))) | (simp (disch := omega) only [w_i64, w_u64, tdiv_pos, tmod_pos, nth_map, foldA_len]) | (with_reducible refine And.intro (by first | with_reducible assumption | rfl | omega) ?_) | (with_reducible refine And.intro ?_ ?_))
  all_goals
    refine awp_row 3 68 5 rfl (Nat.le_refl _) ?_
    refine awp_loop (ι := {k : Nat // k ≤ (l.take 66).length}) (fun k => ⟨[⟨2, 68, 5, foldA (l.take 66) k.1⟩], [(0, SL ((l.take 66).map (flA Item.cells))), (3, OW 0 k.1), (4, V (.int .i64 k.1))]⟩) (fun k => 66 - k.1) ⟨0, Nat.zero_le _⟩ ?_ (Nat.zero_le _) ?_
  any_goals ((refine le_mk ?_ ?_ ?_ <;> (try simp (disch := omega) only [go_sem, ↓reduceIte, Nat.reduceEqDiff, Nat.reduceAdd, Nat.reduceSub, Nat.reduceMul, Nat.reduceLeDiff, Nat.reduceLT, Int.reduceEq, Int.reduceNe, Int.reduceLT, Int.reduceLE, Int.reduceAdd, Int.reduceSub, Int.reduceMul, Int.reduceNeg, Int.reduceToNat, reduceCtorEq, w_i64, w_u64, tdiv_pos, tmod_pos, nth_map, foldA_len, List.map_take, foldA_zero])))
  any_goals (rintro ⟨k, hk⟩; dsimp only; repeat' (first | (refine call_pure (one_d _) rfl ?_) | (refine loop_n ⟨k + 1, by omega⟩ ?_ (Nat.zero_le _) (by dsimp only; omega)) | (refine le_mk ?_ ?_ ?_ <;> (try simp (disch := omega) only [go_sem, ↓reduceIte, Nat.reduceEqDiff, Nat.reduceAdd, Nat.reduceSub, Nat.reduceMul, Nat.reduceLeDiff, Nat.reduceLT, Int.reduceEq, Int.reduceNe, Int.reduceLT, Int.reduceLE, Int.reduceAdd, Int.reduceSub, Int.reduceMul, Int.reduceNeg, Int.reduceToNat, reduceCtorEq, w_i64, w_u64, tdiv_pos, tmod_pos, nth_map, foldA_len])) | (with_reducible refine aq ?_) | (with_reducible refine yr (by kernel_rfl) (Nat.le_of_ble_eq_true rfl) ?_) | (with_reducible refine yx MIX (by kernel_rfl) (by kernel_rfl) (by kernel_rfl) (Nat.le_of_ble_eq_true rfl) ?_) | (with_reducible refine yc ?_) | (with_reducible refine yseq ?_) | (with_reducible refine awp_block ?_) | (with_reducible refine awp_ret ?_) | (with_reducible refine awp_exit ?_) | (with_reducible refine awp_skip ?_) | (with_reducible refine yr1 (by kernel_rfl) (Nat.le_of_ble_eq_true rfl) ?_) | (with_reducible refine yx1 MIX (by kernel_rfl) (by kernel_rfl) (by kernel_rfl) (Nat.le_of_ble_eq_true rfl) ?_) | (simp only [go_sem, ↓reduceIte, Nat.reduceEqDiff, Nat.reduceAdd, Nat.reduceSub, Nat.reduceMul, Nat.reduceLeDiff, Nat.reduceLT, Int.reduceEq, Int.reduceNe, Int.reduceLT, Int.reduceLE, Int.reduceAdd, Int.reduceSub, Int.reduceMul, Int.reduceNeg, Int.reduceToNat, reduceCtorEq]) | ((with_reducible refine cA_t (by first | with_reducible assumption | (simp only [decide_eq_true_eq, decide_eq_false_iff_not]; first | with_reducible assumption | omega)) (fun h => ?_)) <;> (try rewrite [h]) <;> clear h) | ((with_reducible refine cA_f (by first | with_reducible assumption | (simp only [decide_eq_true_eq, decide_eq_false_iff_not]; first | with_reducible assumption | omega)) (fun h => ?_)) <;> (try rewrite [h]) <;> clear h) | ((with_reducible refine gA_t (by first | with_reducible assumption | (simp only [decide_eq_true_eq, decide_eq_false_iff_not]; first | with_reducible assumption | omega)) (fun h => ?_)) <;> (try rewrite [h]) <;> clear h) | ((with_reducible refine gA_f (by first | with_reducible assumption | (simp only [decide_eq_true_eq, decide_eq_false_iff_not]; first | with_reducible assumption | omega)) (fun h => ?_)) <;> (try rewrite [h]) <;> clear h) | ((with_reducible refine pk_t (by first | with_reducible assumption | (simp only [decide_eq_true_eq, decide_eq_false_iff_not]; first | with_reducible assumption | omega)) (fun h => ?_)) <;> (try rewrite [h]) <;> clear h) | ((with_reducible refine pk_f (by first | with_reducible assumption | (simp only [decide_eq_true_eq, decide_eq_false_iff_not]; first | with_reducible assumption | omega)) (fun h => ?_)) <;> (try rewrite [h]) <;> clear h) | (with_reducible refine pk_if ?_) | ((with_reducible refine cA_split (fun h => ?_) (fun h => ?_)) <;> (try rewrite [h]) <;> (try simp (disch := omega) only [w_i64, w_u64, tdiv_pos, tmod_pos, nth_map, foldA_len] at h) <;> (try simp only [decide_eq_true_eq, decide_eq_false_iff_not, Bool.not_eq_true, Bool.not_eq_false, Bool.not_eq_true', Bool.not_eq_false', not_true_eq_false, not_false_eq_true] at h) <;> (try (exfalso; omega))) | ((with_reducible refine gA_split (fun h => ?_) (fun h => ?_)) <;> (try rewrite [h]) <;> (try simp (disch := omega) only [w_i64, w_u64, tdiv_pos, tmod_pos, nth_map, foldA_len] at h) <;> (try simp only [decide_eq_true_eq, decide_eq_false_iff_not, Bool.not_eq_true, Bool.not_eq_false, Bool.not_eq_true', Bool.not_eq_false', not_true_eq_false, not_false_eq_true] at h) <;> (try (exfalso; omega))) | (simp (disch := omega) only [w_i64, w_u64, tdiv_pos, tmod_pos, nth_map, foldA_len]) | (with_reducible refine And.intro (by first | with_reducible assumption | rfl | omega) ?_) | (with_reducible refine And.intro ?_ ?_)))
  · exact congrArg (AObj.mk 2 68 5) (foldA_succ _ _).symm
  · rw [foldA_full _ (by omega)]; rfl
  · rw [List.take_of_length_le (by rw [List.length_map]; omega)]
  · exact congrArg (AObj.mk 2 68 5) (foldA_succ _ _).symm
  · rw [foldA_full _ (by omega)]; rfl
end Go.Proofs.YtopifabnobplcaaDoor

namespace Go.Proofs.YtopifabnobplcaaDoor
open Go.RowKit
set_option linter.unusedVariables false
set_option linter.unusedSimpArgs false
set_option maxRecDepth 20000
structure Tr where
  leaf : Nat → List Item
  ver : Nat → Int
def Tr.zero : Tr := ⟨fun _ => [], fun _ => 0⟩
def Tr.setL (t : Tr) (k : Nat) (l : List Item) : Tr := ⟨fun i => if i = k then l else t.leaf i, t.ver⟩
def Tr.setV (t : Tr) (k : Nat) (v : Int) : Tr := ⟨t.leaf, fun i => if i = k then v else t.ver i⟩
def leC (t : Tr) : List AV := (List.range 16).map fun i => lA (t.leaf i)
def veC (t : Tr) : List AV := (List.range 16).map fun i => nA (t.ver i)
def tC (t : Tr) : List AV := leC t ++ veC t
def zC : List AV := List.replicate 16 (V (.slice none 0 0)) ++ List.replicate 16 (nA 0)
def tA (t : Tr) : AV := .agg (tC t)
theorem tA_def (t : Tr) : tA t = .agg (tC t) := _root_.id rfl
section
variable {t u : Tr} {i k m : Nat} {K1 : AV → Prop} {H : List AObj}
theorem leC_len : (leC t).length = 16 := by simp [leC]
theorem veC_len : (veC t).length = 16 := by simp [veC]
theorem tC_len : (tC t).length = 32 := by simp [tC, leC_len, veC_len]
theorem zC_len : zC.length = 32 := _root_.id rfl
theorem tC_mem {d : AV} (h : d ∈ tC t) : (∃ l : List Item, d = lA l) ∨ ∃ n, d = nA n := by
  simp only [tC, leC, veC, List.mem_append, List.mem_map] at h
  rcases h with ⟨i, _, rfl⟩ | ⟨i, _, rfl⟩
  · exact .inl ⟨_, rfl⟩
  · exact .inr ⟨_, rfl⟩
theorem tC_all {p : AV → Bool} (h1 : ∀ l : List Item, p (lA l) = true) (h2 : ∀ n, p (nA n) = true) : (tC t).all p = true := List.all_eq_true.2 fun d hd => by
  rcases tC_mem hd with ⟨l, rfl⟩ | ⟨n, rfl⟩
  · exact h1 l
  · exact h2 n
theorem tC_sure : (tC t).all sure = true := tC_all (fun _ => rfl) fun _ => rfl
theorem tC_lt1 : (tC t).all (lt1 m) = true := tC_all (fun _ => rfl) fun _ => rfl
theorem tC_ltA : (tC t).all (ltA m) = true := tC_all (fun _ => rfl) fun _ => rfl
theorem leC_mem {d : AV} (h : d ∈ leC t) : ∃ l : List Item, d = lA l := by
  simp only [leC, List.mem_map] at h
  obtain ⟨i, _, rfl⟩ := h
  exact ⟨_, rfl⟩
theorem leC_lt1 : (leC t).all (lt1 m) = true := List.all_eq_true.2 fun d hd => by obtain ⟨l, rfl⟩ := leC_mem hd; rfl
theorem tC_ro : (tC t).map (ro1 H) = tC t := by
  have : ∀ l : List AV, (∀ d ∈ l, ro1 H d = d) → l.map (ro1 H) = l := fun l h => by
    conv => rhs; rw [← List.map_id l]
    exact List.map_congr_left h
  refine this _ fun d hd => ?_
  rcases tC_mem hd with ⟨l, rfl⟩ | ⟨n, rfl⟩ <;> rfl
theorem zC_sure : zC.all sure = true := by decide
theorem zC_ltA : zC.all (ltA m) = true := _root_.id rfl
theorem zC_lt1 : zC.all (lt1 m) = true := _root_.id rfl
theorem lA_def (l : List Item) : lA l = SL (l.map (flA Item.cells)) := _root_.id rfl
theorem zC_ro : zC.map (ro1 H) = tC Tr.zero := _root_.id rfl
theorem tC_take : (tC t).take 32 = tC t := List.take_of_length_le (by rw [tC_len]; exact Nat.le_refl _)
theorem zC_take : zC.take 32 = zC := _root_.id rfl
theorem tC_take16 : (tC t).take 16 = leC t := by rw [tC, List.take_append_of_le_length (by rw [leC_len]; exact Nat.le_refl _), List.take_of_length_le (by rw [leC_len]; exact Nat.le_refl _)]
theorem nth_le (h : i < 16) : nth (leC t) i K1 = K1 (lA (t.leaf i)) := by
  simp [nth, leC, List.getElem?_map, List.getElem?_range h]
theorem nth_tl (h : i < 16) : nth (tC t) i K1 = K1 (lA (t.leaf i)) := by
  have e := nth_le (t := t) (K1 := K1) h
  rw [← e]
  unfold nth tC
  rw [List.getElem?_append_left (by rw [leC_len]; exact h)]
theorem nth_tv (h : 16 ≤ i) (h2 : i < 32) : nth (tC t) i K1 = K1 (nA (t.ver (i - 16))) := by
  simp only [nth, tC]
  rw [List.getElem?_append_right (by rw [leC_len]; exact h), leC_len]
  simp [veC, List.getElem?_map, List.getElem?_range (show i - 16 < 16 by omega)]
theorem set_map {α β : Type} (f : Nat → β) (n k : Nat) (x : β) : ((List.range n).map f).set k x = (List.range n).map fun i => if i = k then x else f i := by
  refine List.ext_getElem? fun j => ?_
  rw [List.getElem?_set]
  simp only [List.length_map, List.length_range, List.getElem?_map]
  by_cases hj : j < n
  · rw [List.getElem?_range hj]
    by_cases e : k = j
    · subst e; simp [hj]
    · simp [e, Ne.symm e]
  · rw [List.getElem?_eq_none (by simpa using hj)]
    by_cases e : k = j
    · subst e; simp [hj]
    · simp [e]
theorem set_tl {l : List Item} (h : i < 16) : (tC t).set i (SL (l.map (flA Item.cells))) = tC (t.setL i l) := by
  rw [tC, List.set_append_left _ _ (by rw [leC_len]; exact h)]
  show (leC t).set i _ ++ veC t = leC (t.setL i l) ++ veC t
  congr 1
  rw [leC, set_map (α := Nat)]
  unfold leC Tr.setL
  refine List.map_congr_left fun j _ => ?_
  dsimp only
  split <;> rfl
theorem set_tv {v : Int} (h : 16 ≤ i) (h2 : i < 32) : (tC t).set i (V (.int .i64 v)) = tC (t.setV (i - 16) v) := by
  rw [tC, List.set_append_right _ _ (by rw [leC_len]; exact h), leC_len]
  show leC t ++ (veC t).set (i - 16) _ = leC t ++ veC (t.setV (i - 16) v)
  congr 1
  rw [veC, set_map (α := Nat)]
  unfold veC Tr.setV
  refine List.map_congr_left fun j _ => ?_
  dsimp only
  split <;> rfl
theorem setCells_all {α : Type} {xs l : List α} (h : xs.length = l.length) : setCells l 0 xs = xs := by
  refine List.ext_getElem? fun j => ?_
  rw [setCells_get xs l 0 (by omega)]
  split
  · simp
  · rename_i hn
    rw [List.getElem?_eq_none (by omega), List.getElem?_eq_none (by omega)]
theorem sc_tt : setCells (tC t) 0 (tC u) = tC u := setCells_all (by rw [tC_len, tC_len])
theorem sc_zt : setCells zC 0 (tC u) = tC u := setCells_all (by rw [tC_len, zC_len])
theorem sc_tz : setCells (tC t) 0 zC = zC := setCells_all (by rw [tC_len, zC_len])
theorem sc_zz : setCells zC 0 zC = zC := _root_.id rfl
theorem add16 : 16 + k - 16 = k := by omega
end
theorem tz_T : zeroC Tryd.prog 35 = some zC := tz_35
def fewT (t : Tr) (k : Nat) : Tr := ⟨fun i => if i < k then fewL (t.leaf i) else t.leaf i, t.ver⟩
theorem fewT_zero (t : Tr) : fewT t 0 = t := by simp [fewT]
theorem fewT_succ (t : Tr) (k : Nat) : (fewT t k).setL k (fewL ((fewT t k).leaf k)) = fewT t (k + 1) := by
  simp only [fewT, Tr.setL, Nat.lt_irrefl, if_false]
  congr 1
  funext i
  by_cases h : i = k
  · subst h; simp
  · by_cases h2 : i < k
    · simp [h, h2, show i < k + 1 by omega]
    · simp [h, h2, show ¬ i < k + 1 by omega]
theorem fewT_leaf (t : Tr) (k : Nat) : (fewT t k).leaf k = t.leaf k := by simp [fewT]
attribute [local go_sem ↓] str_size pk_tt pk_ff hold_one hold_two gO_some gA_tt gA_tf gA_ft gA_ff cA_true cA_false yP_n yP_r yK_n yK_r yQ_n yQ_r yC_nil yC_tmp yC_cell yo_nil yo_cons yo_none yo_guard yo_guardN ys_move ys_assign ys_pick ys_bin ys_un ys_build ys_buildSlice ys_load ys_nilCheck ys_conv ys_extract ys_fieldAddr ys_field ys_indexAddr ys_index ys_slice ys_len ys_alloc ys_box ys_store ys_call ys_append ys_makeFunc ys_callv yd_nil yd_alloc yd_store yd_move yg_move yd_assign yg_assign yd_pick yg_pick yd_bin yg_bin yd_un yg_un yd_build yg_build yd_buildSlice yg_buildSlice yd_load yg_load yd_nilCheck yg_nilCheck yd_conv yg_conv yd_extract yg_extract yd_fieldAddr yg_fieldAddr yd_field yg_field yd_indexAddr yg_indexAddr yd_index yg_index yd_slice yg_slice yd_len yg_len yd_call yg_call ixA_eq sl_es sl_row sl_nil ap_eq bs_eq bl_eq cv_eq ixV_agg thenA_n thenA_r thenA_x inB_n inB_r inB_x loop_r loop_x dstAt_zero dstAt_succ retP_n retP_r
attribute [local go_sem] hle_nil hle_cons oO_one oO_two oO_three oO_nil r1_r0 r1_r1 r1_r2 r1_r3 ro_OW roA_OW go_some al_some okX_f okX_t tells regOnly cv_cl cap0_V cap0_OP cap0_ptr ixA_s ixA_p ixA_o szOf_one szOf_two ixV_str ixW_some sl_str slE_some apE_nil apE_row bsE_one flE_some pget_zero pget_succ blE_some fil_nil fil_cons filB_some cvE_some cv_str' str_list str_cut str_data cut_all cut_to s_eql s_neq s_add s_lss s_geq s_leq s_gtr lt1 set_some set_none get_cons ev_tmp ev_const ev_func ev_global glob_cons cv_int cv_bool cv_str cv_slice cv_ptr cv_agg one_int one_bool one_str one_slice one_ptr b_add b_sub b_mul b_quo b_rem b_and b_or b_xor b_andNot b_shl b_shr b_eql b_neq b_lss b_leq b_gtr b_geq b_str b_beq b_bne u_not u_neg g_tt g_tf g_ft g_ff c_true c_false ex_tu nth_zero nth_succ nthO_zero nthO_succ l_ptr l_ptrV l_ptrS l_op cP_one pP_one oc_one oc_agg st_op f_ptr f_op fv_agg co_agg co_V co_slice co_OW co_OP co_ptr sure_V sure_slice sure_OW sure_OP sure_ptr sure_agg sc_nil sc_cons ixS ixSW ixSN bsV_nil bsV_cons el_slice el_row el_nil len_str len_slice len_row len_nil asI_none asI_some nil_op nil_ptr ro_int ro_bool ro_str ro_nils ro_slice ro_ptr ro_OP ro_OW ro_agg ro_tu roA_agg roA_V roA_slice roA_OW roA_OP roA_ptr r1_int r1_bool r1_str r1_nils r1_slice r1_ptr r1_OP resA_one resA_two resA_three noT_V noT_agg noT_slice noT_OW noT_OP noT_ptr noT_nil argsT_nil argsT_cons allC_nil allC_cons allC_append hle_nil hle_cons le_nil le_cons tT_V tT_SL tT_ptr tT_OW tT_OP tT_agg tT_TU tA_V tA_SL tA_ptr tA_OW tA_OP tA_agg t1_V t1_SL t1_ptr t1_OW t1_OP tO_mk get_cons beq_self_eq_true Nat.zero_lt_succ Nat.lt_add_one true_or or_true Bool.or_self Nat.zero_add Nat.add_zero Nat.mul_one Int.toNat_natCast Int.natCast_zero Int.natCast_add Int.cast_ofNat_Int or_false false_or or_true true_or Nat.sub_zero Int.natCast_nonneg Int.toNat_zero Bool.true_and Bool.and_true Bool.false_and Bool.and_false Bool.true_or Bool.or_true Bool.false_or Bool.or_false Bool.not_true Bool.not_false Bool.not_not true_and and_true false_and and_false not_true_eq_false not_false_eq_true eq_self decide_true decide_false ne_eq implies_true forall_const true_implies false_implies Bool.true_eq_false Bool.false_eq_true List.map_cons List.map_nil List.all_cons List.all_nil List.length_cons List.length_nil List.length_map List.length_append List.nil_append List.cons_append List.set_cons_zero List.set_cons_succ List.set_nil List.drop_zero List.drop_succ_cons List.drop_nil List.take_zero List.take_succ_cons List.take_nil Option.map_some Option.map_none Option.isSome_some tk_3 tk_9 tk_31 tk_32 tk_35 tk_68 tf_35_0 tf_35_1 tf_66_2 tf_68_0 tf_68_1 tf_68_2 ts_9 ts_31 ts_32 ts_33 ta_9 ta_31 ta_32 ta_33 tq_31 tq_55 ti_3 tz_68 tv_3 tv_5 tu_9 tv_9 tv_24 iA_def fl_it allC_it foldA_all lt_it lt_fold lA_def leC_lt1 tC_len zC_len tC_sure tC_lt1 tC_ltA zC_ltA zC_lt1 tC_ro zC_sure zC_ro tC_take zC_take tC_take16 sc_tt sc_zt sc_tz sc_zz add16 tz_T tA_def
set_option maxHeartbeats 400000 in
theorem few_d {G : Gl} (t : Tr) (hl : ∀ i, (t.leaf i).length ≤ maxLen) : ACp Tryd.prog G 27 [tA t] (tA (fewT t 16)) := by
  refine acp_of_wpC (c := _) Tryd.func27 rfl (by kernel_rfl) [.cell 2 35] rfl _ Tryd.ntmps27 (Nat.le_of_ble_eq_true rfl) rfl ?_
  repeat' (first | (with_reducible refine aq ?_) | (with_reducible refine yr (by kernel_rfl) (Nat.le_of_ble_eq_true rfl) ?_) | (with_reducible refine yx MIX (by kernel_rfl) (by kernel_rfl) (by kernel_rfl) (Nat.le_of_ble_eq_true rfl) ?_) | (with_reducible refine yc ?_) | (with_reducible refine yseq ?_) | (with_reducible refine awp_block ?_) | (with_reducible refine awp_ret ?_) | (with_reducible refine awp_exit ?_) | (with_reducible refine awp_skip ?_) | (with_reducible refine yr1 (by kernel_rfl) (Nat.le_of_ble_eq_true rfl) ?_) | (with_reducible refine yx1 MIX (by kernel_rfl) (by kernel_rfl) (by kernel_rfl) (Nat.le_of_ble_eq_true rfl) ?_) | (simp only [go_sem, ↓reduceIte, Nat.reduceEqDiff, Nat.reduceAdd, Nat.reduceSub, Nat.reduceMul, Nat.reduceLeDiff, Nat.reduceLT, Int.reduceEq, Int.reduceNe, Int.reduceLT, Int.reduceLE, Int.reduceAdd, Int.reduceSub, Int.reduceMul, Int.reduceNeg, Int.reduceToNat, reduceCtorEq]) | ((with_reducible refine cA_t (by first | with_reducible assumption | (simp only [decide_eq_true_eq, decide_eq_false_iff_not]; first | with_reducible assumption | omega)) (fun h => ?_)) <;> (try rewrite [h]) <;> clear h) | ((with_reducible refine cA_f (by first | with_reducible assumption | (simp only [decide_eq_true_eq, decide_eq_false_iff_not]; first | with_reducible assumption | omega)) (fun h => ?_)) <;> (try rewrite [h]) <;> clear h) | ((with_reducible refine gA_t (by first | with_reducible assumption | (simp only [decide_eq_true_eq, decide_eq_false_iff_not]; first | with_reducible assumption | omega)) (fun h => ?_)) <;> (try rewrite [h]) <;> clear h) | ((with_reducible refine gA_f (by first | with_reducible assumption | (simp only [decide_eq_true_eq, decide_eq_false_iff_not]; first | with_reducible assumption | omega)) (fun h => ?_)) <;> (try rewrite [h]) <;> clear h) | ((with_reducible refine pk_t (by first | with_reducible assumption | (simp only [decide_eq_true_eq, decide_eq_false_iff_not]; first | with_reducible assumption | omega)) (fun h => ?_)) <;> (try rewrite [h]) <;> clear h) | ((with_reducible refine pk_f (by first | with_reducible assumption | (simp only [decide_eq_true_eq, decide_eq_false_iff_not]; first | with_reducible assumption | omega)) (fun h => ?_)) <;> (try rewrite [h]) <;> clear h) | (with_reducible refine pk_if ?_) | ((with_reducible refine cA_split (fun h => ?_) (fun h => ?_)) <;> (try rewrite [h]) <;> (try simp (disch := omega) only [w_i64, w_u64, tdiv_pos, tmod_pos, nth_map, foldA_len, nth_le, nth_tl, nth_tv, set_tl, set_tv] at h) <;> (try simp only [decide_eq_true_eq, decide_eq_false_iff_not, Bool.not_eq_true, Bool.not_eq_false, Bool.not_eq_true', Bool.not_eq_false', not_true_eq_false, not_false_eq_true] at h) <;> (try (exfalso; omega))) | ((with_reducible refine gA_split (fun h => ?_) (fun h => ?_)) <;> (try rewrite [h]) <;> (try simp (disch := omega) only [w_i64, w_u64, tdiv_pos, tmod_pos, nth_map, foldA_len, nth_le, nth_tl, nth_tv, set_tl, set_tv] at h) <;> (try simp only [decide_eq_true_eq, decide_eq_false_iff_not, Bool.not_eq_true, Bool.not_eq_false, Bool.not_eq_true', Bool.not_eq_false', not_true_eq_false, not_false_eq_true] at h) <;> (try (exfalso; omega))) | (simp (disch := omega) only [w_i64, w_u64, tdiv_pos, tmod_pos, nth_map, foldA_len, nth_le, nth_tl, nth_tv, set_tl, set_tv]) | (with_reducible refine And.intro (by first | with_reducible assumption | rfl | omega) ?_) | (with_reducible refine And.intro ?_ ?_))
  refine awp_loop (ι := {k : Nat // k ≤ 16}) (fun k => ⟨[⟨1, 35, 0, tC (fewT t k.1)⟩, ⟨1, 35, 0, zC⟩], [(3, V (.int .i64 k.1)), (2, OP 1 0), (1, OP 0 0)]⟩) (fun k => 16 - k.1) ⟨0, Nat.zero_le _⟩ ?_ (Nat.zero_le _) ?_
  · (refine le_mk ?_ ?_ ?_ <;> (try simp (disch := omega) only [go_sem, ↓reduceIte, Nat.reduceEqDiff, Nat.reduceAdd, Nat.reduceSub, Nat.reduceMul, Nat.reduceLeDiff, Nat.reduceLT, Int.reduceEq, Int.reduceNe, Int.reduceLT, Int.reduceLE, Int.reduceAdd, Int.reduceSub, Int.reduceMul, Int.reduceNeg, Int.reduceToNat, reduceCtorEq, w_i64, w_u64, tdiv_pos, tmod_pos, nth_map, foldA_len, nth_le, nth_tl, nth_tv, set_tl, set_tv, fewT_zero]))
  rintro ⟨k, hk⟩
  dsimp only
  repeat' (first | (refine call_pure (items_d _ (by rw [fewT_leaf]; exact hl k)) rfl ?_) | (refine loop_n ⟨k + 1, by omega⟩ ?_ (Nat.zero_le _) (by dsimp only; omega)) | (refine le_mk ?_ ?_ ?_ <;> (try simp (disch := omega) only [go_sem, ↓reduceIte, Nat.reduceEqDiff, Nat.reduceAdd, Nat.reduceSub, Nat.reduceMul, Nat.reduceLeDiff, Nat.reduceLT, Int.reduceEq, Int.reduceNe, Int.reduceLT, Int.reduceLE, Int.reduceAdd, Int.reduceSub, Int.reduceMul, Int.reduceNeg, Int.reduceToNat, reduceCtorEq, w_i64, w_u64, tdiv_pos, tmod_pos, nth_map, foldA_len, nth_le, nth_tl, nth_tv, set_tl, set_tv, fewT_succ])) | (with_reducible refine aq ?_) | (with_reducible refine yr (by kernel_rfl) (Nat.le_of_ble_eq_true rfl) ?_) | (with_reducible refine yx MIX (by kernel_rfl) (by kernel_rfl) (by kernel_rfl) (Nat.le_of_ble_eq_true rfl) ?_) | (with_reducible refine yc ?_) | (with_reducible refine yseq ?_) | (with_reducible refine awp_block ?_) | (with_reducible refine awp_ret ?_) | (with_reducible refine awp_exit ?_) | (with_reducible refine awp_skip ?_) | (with_reducible refine yr1 (by kernel_rfl) (Nat.le_of_ble_eq_true rfl) ?_) | (with_reducible refine yx1 MIX (by kernel_rfl) (by kernel_rfl) (by kernel_rfl) (Nat.le_of_ble_eq_true rfl) ?_) | (simp only [go_sem, ↓reduceIte, Nat.reduceEqDiff, Nat.reduceAdd, Nat.reduceSub, Nat.reduceMul, Nat.reduceLeDiff, Nat.reduceLT, Int.reduceEq, Int.reduceNe, Int.reduceLT, Int.reduceLE, Int.reduceAdd, Int.reduceSub, Int.reduceMul, Int.reduceNeg, Int.reduceToNat, reduceCtorEq]) | ((with_reducible refine cA_t (by first | with_reducible assumption | (simp only [decide_eq_true_eq, decide_eq_false_iff_not]; first | with_reducible assumption | omega)) (fun h => ?_)) <;> (try rewrite [h]) <;> clear h) | ((with_reducible refine cA_f (by first | with_reducible assumption | (simp only [decide_eq_true_eq, decide_eq_false_iff_not]; first | with_reducible assumption | omega)) (fun h => ?_)) <;> (try rewrite [h]) <;> clear h) | ((with_reducible refine gA_t (by first | with_reducible assumption | (simp only [decide_eq_true_eq, decide_eq_false_iff_not]; first | with_reducible assumption | omega)) (fun h => ?_)) <;> (try rewrite [h]) <;> clear h) | ((with_reducible refine gA_f (by first | with_reducible assumption | (simp only [decide_eq_true_eq, decide_eq_false_iff_not]; first | with_reducible assumption | omega)) (fun h => ?_)) <;> (try rewrite [h]) <;> clear h) | ((with_reducible refine pk_t (by first | with_reducible assumption | (simp only [decide_eq_true_eq, decide_eq_false_iff_not]; first | with_reducible assumption | omega)) (fun h => ?_)) <;> (try rewrite [h]) <;> clear h) | ((with_reducible refine pk_f (by first | with_reducible assumption | (simp only [decide_eq_true_eq, decide_eq_false_iff_not]; first | with_reducible assumption | omega)) (fun h => ?_)) <;> (try rewrite [h]) <;> clear h) | (with_reducible refine pk_if ?_) | ((with_reducible refine cA_split (fun h => ?_) (fun h => ?_)) <;> (try rewrite [h]) <;> (try simp (disch := omega) only [w_i64, w_u64, tdiv_pos, tmod_pos, nth_map, foldA_len, nth_le, nth_tl, nth_tv, set_tl, set_tv] at h) <;> (try simp only [decide_eq_true_eq, decide_eq_false_iff_not, Bool.not_eq_true, Bool.not_eq_false, Bool.not_eq_true', Bool.not_eq_false', not_true_eq_false, not_false_eq_true] at h) <;> (try (exfalso; omega))) | ((with_reducible refine gA_split (fun h => ?_) (fun h => ?_)) <;> (try rewrite [h]) <;> (try simp (disch := omega) only [w_i64, w_u64, tdiv_pos, tmod_pos, nth_map, foldA_len, nth_le, nth_tl, nth_tv, set_tl, set_tv] at h) <;> (try simp only [decide_eq_true_eq, decide_eq_false_iff_not, Bool.not_eq_true, Bool.not_eq_false, Bool.not_eq_true', Bool.not_eq_false', not_true_eq_false, not_false_eq_true] at h) <;> (try (exfalso; omega))) | (simp (disch := omega) only [w_i64, w_u64, tdiv_pos, tmod_pos, nth_map, foldA_len, nth_le, nth_tl, nth_tv, set_tl, set_tv]) | (with_reducible refine And.intro (by first | with_reducible assumption | rfl | omega) ?_) | (with_reducible refine And.intro ?_ ?_))
  obtain rfl : k = 16 := by omega
  rfl
end Go.Proofs.YtopifabnobplcaaDoor

namespace Go.Proofs.YtopifabnobplcaaDoor
open Go.RowKit
set_option linter.unusedVariables false
set_option linter.unusedSimpArgs false
set_option maxRecDepth 20000
def bucketK (k : Bytes) : Int := if keyB k then ((k.getD 0 0).toNat : Int) % 16 else -1
def fitB (b ver : Int) (x : Item) : Bool := decide (bucketK x.key = b) && decide (x.ver ≤ ver)
def fitsB (b : Int) (l : List Item) (ver : Int) : Bool := leafB l && decide (0 ≤ ver) && decide (ver ≤ 2147483647) && l.all (fitB b ver)
def mayT (t : Tr) : Bool := (List.range 16).all fun i => fitsB i (t.leaf i) (t.ver i)
theorem fits_no {b : Int} {l : List Item} {ver : Int} {k : Nat} {h : k < l.length} (h1 : fitB b ver l[k] = false) : fitsB b l ver = false := by
  have : l.all (fitB b ver) = false := List.all_eq_false.2 ⟨l[k], List.getElem_mem h, by simp [h1]⟩
  simp [fitsB, this]
theorem key_pos {k : Bytes} (h : keyB k = true) : 0 < k.length := by
  cases k with
  | nil => simp [keyB] at h
  | cons a r => simp
theorem leafB_def (l : List Item) : leafB l = ((chk l).1 == 0) := _root_.id rfl
theorem allTk {α : Type} {p : α → Bool} {l : List α} {k : Nat} (h : k < l.length) (h1 : (l.take k).all p = true) (h2 : p l[k] = true) : (l.take (k + 1)).all p = true := by
  rw [List.take_succ_eq_append_getElem h, List.all_append, h1]; simp [h2]
theorem may_no {t : Tr} {k : Nat} (hk : k < 16) (h : fitsB k (t.leaf k) (t.ver k) = false) : mayT t = false := List.all_eq_false.2 ⟨k, List.mem_range.2 hk, by simp [h]⟩
attribute [local go_sem ↓] str_size pk_tt pk_ff hold_one hold_two gO_some gA_tt gA_tf gA_ft gA_ff cA_true cA_false yP_n yP_r yK_n yK_r yQ_n yQ_r yC_nil yC_tmp yC_cell yo_nil yo_cons yo_none yo_guard yo_guardN ys_move ys_assign ys_pick ys_bin ys_un ys_build ys_buildSlice ys_load ys_nilCheck ys_conv ys_extract ys_fieldAddr ys_field ys_indexAddr ys_index ys_slice ys_len ys_alloc ys_box ys_store ys_call ys_append ys_makeFunc ys_callv yd_nil yd_alloc yd_store yd_move yg_move yd_assign yg_assign yd_pick yg_pick yd_bin yg_bin yd_un yg_un yd_build yg_build yd_buildSlice yg_buildSlice yd_load yg_load yd_nilCheck yg_nilCheck yd_conv yg_conv yd_extract yg_extract yd_fieldAddr yg_fieldAddr yd_field yg_field yd_indexAddr yg_indexAddr yd_index yg_index yd_slice yg_slice yd_len yg_len yd_call yg_call ixA_eq sl_es sl_row sl_nil ap_eq bs_eq bl_eq cv_eq ixV_agg thenA_n thenA_r thenA_x inB_n inB_r inB_x loop_r loop_x dstAt_zero dstAt_succ retP_n retP_r
attribute [local go_sem] hle_nil hle_cons oO_one oO_two oO_three oO_nil r1_r0 r1_r1 r1_r2 r1_r3 ro_OW roA_OW go_some al_some okX_f okX_t tells regOnly cv_cl cap0_V cap0_OP cap0_ptr ixA_s ixA_p ixA_o szOf_one szOf_two ixV_str ixW_some sl_str slE_some apE_nil apE_row bsE_one flE_some pget_zero pget_succ blE_some fil_nil fil_cons filB_some cvE_some cv_str' str_list str_cut str_data cut_all cut_to s_eql s_neq s_add s_lss s_geq s_leq s_gtr lt1 set_some set_none get_cons ev_tmp ev_const ev_func ev_global glob_cons cv_int cv_bool cv_str cv_slice cv_ptr cv_agg one_int one_bool one_str one_slice one_ptr b_add b_sub b_mul b_quo b_rem b_and b_or b_xor b_andNot b_shl b_shr b_eql b_neq b_lss b_leq b_gtr b_geq b_str b_beq b_bne u_not u_neg g_tt g_tf g_ft g_ff c_true c_false ex_tu nth_zero nth_succ nthO_zero nthO_succ l_ptr l_ptrV l_ptrS l_op cP_one pP_one oc_one oc_agg st_op f_ptr f_op fv_agg co_agg co_V co_slice co_OW co_OP co_ptr sure_V sure_slice sure_OW sure_OP sure_ptr sure_agg sc_nil sc_cons ixS ixSW ixSN bsV_nil bsV_cons el_slice el_row el_nil len_str len_slice len_row len_nil asI_none asI_some nil_op nil_ptr ro_int ro_bool ro_str ro_nils ro_slice ro_ptr ro_OP ro_OW ro_agg ro_tu roA_agg roA_V roA_slice roA_OW roA_OP roA_ptr r1_int r1_bool r1_str r1_nils r1_slice r1_ptr r1_OP resA_one resA_two resA_three noT_V noT_agg noT_slice noT_OW noT_OP noT_ptr noT_nil argsT_nil argsT_cons allC_nil allC_cons allC_append hle_nil hle_cons le_nil le_cons tT_V tT_SL tT_ptr tT_OW tT_OP tT_agg tT_TU tA_V tA_SL tA_ptr tA_OW tA_OP tA_agg t1_V t1_SL t1_ptr t1_OW t1_OP tO_mk get_cons beq_self_eq_true Nat.zero_lt_succ Nat.lt_add_one true_or or_true Bool.or_self Nat.zero_add Nat.add_zero Nat.mul_one Int.toNat_natCast Int.natCast_zero Int.natCast_add Int.cast_ofNat_Int or_false false_or or_true true_or Nat.sub_zero Int.natCast_nonneg Int.toNat_zero Bool.true_and Bool.and_true Bool.false_and Bool.and_false Bool.true_or Bool.or_true Bool.false_or Bool.or_false Bool.not_true Bool.not_false Bool.not_not true_and and_true false_and and_false not_true_eq_false not_false_eq_true eq_self decide_true decide_false ne_eq implies_true forall_const true_implies false_implies Bool.true_eq_false Bool.false_eq_true List.map_cons List.map_nil List.all_cons List.all_nil List.length_cons List.length_nil List.length_map List.length_append List.nil_append List.cons_append List.set_cons_zero List.set_cons_succ List.set_nil List.drop_zero List.drop_succ_cons List.drop_nil List.take_zero List.take_succ_cons List.take_nil Option.map_some Option.map_none Option.isSome_some tk_3 tk_9 tk_31 tk_32 tk_35 tk_68 tf_35_0 tf_35_1 tf_66_2 tf_68_0 tf_68_1 tf_68_2 ts_9 ts_31 ts_32 ts_33 ta_9 ta_31 ta_32 ta_33 tq_31 tq_55 ti_3 tz_68 tv_3 tv_5 tu_9 tv_9 tv_24 iA_def fl_it allC_it foldA_all lt_it lt_fold lA_def leC_lt1 tC_len zC_len tC_sure tC_lt1 tC_ltA zC_ltA zC_lt1 tC_ro zC_sure zC_ro tC_take zC_take tC_take16 sc_tt sc_zt sc_tz sc_zz add16 tz_T tA_def
set_option maxHeartbeats 400000 in
theorem bucket_d {G : Gl} (hG : SigG G) (k : Bytes) : ACp Tryd.prog G 51 [sA k] (nA (bucketK k)) := by
  have hb := UInt8.toNat_lt (k.getD 0 0)
  have hp := @key_pos k
  refine acp_of_wpC (c := _) Tryd.func51 rfl (by kernel_rfl) [.tmp 2] rfl _ Tryd.ntmps51 (Nat.le_of_ble_eq_true rfl) rfl ?_
  repeat' (first | (refine call_pure (cl_keyis _ hG) rfl ?_) | (with_reducible refine aq ?_) | (with_reducible refine yr (by kernel_rfl) (Nat.le_of_ble_eq_true rfl) ?_) | (with_reducible refine yx MIX (by kernel_rfl) (by kernel_rfl) (by kernel_rfl) (Nat.le_of_ble_eq_true rfl) ?_) | (with_reducible refine yc ?_) | (with_reducible refine yseq ?_) | (with_reducible refine awp_block ?_) | (with_reducible refine awp_ret ?_) | (with_reducible refine awp_exit ?_) | (with_reducible refine awp_skip ?_) | (with_reducible refine yr1 (by kernel_rfl) (Nat.le_of_ble_eq_true rfl) ?_) | (with_reducible refine yx1 MIX (by kernel_rfl) (by kernel_rfl) (by kernel_rfl) (Nat.le_of_ble_eq_true rfl) ?_) | (simp only [go_sem, ↓reduceIte, Nat.reduceEqDiff, Nat.reduceAdd, Nat.reduceSub, Nat.reduceMul, Nat.reduceLeDiff, Nat.reduceLT, Int.reduceEq, Int.reduceNe, Int.reduceLT, Int.reduceLE, Int.reduceAdd, Int.reduceSub, Int.reduceMul, Int.reduceNeg, Int.reduceToNat, reduceCtorEq]) | ((with_reducible refine cA_t (by first | with_reducible assumption | (simp only [decide_eq_true_eq, decide_eq_false_iff_not]; first | with_reducible assumption | omega)) (fun h => ?_)) <;> (try rewrite [h]) <;> clear h) | ((with_reducible refine cA_f (by first | with_reducible assumption | (simp only [decide_eq_true_eq, decide_eq_false_iff_not]; first | with_reducible assumption | omega)) (fun h => ?_)) <;> (try rewrite [h]) <;> clear h) | ((with_reducible refine gA_t (by first | with_reducible assumption | (simp only [decide_eq_true_eq, decide_eq_false_iff_not]; first | with_reducible assumption | omega)) (fun h => ?_)) <;> (try rewrite [h]) <;> clear h) | ((with_reducible refine gA_f (by first | with_reducible assumption | (simp only [decide_eq_true_eq, decide_eq_false_iff_not]; first | with_reducible assumption | omega)) (fun h => ?_)) <;> (try rewrite [h]) <;> clear h) | ((with_reducible refine pk_t (by first | with_reducible assumption | (simp only [decide_eq_true_eq, decide_eq_false_iff_not]; first | with_reducible assumption | omega)) (fun h => ?_)) <;> (try rewrite [h]) <;> clear h) | ((with_reducible refine pk_f (by first | with_reducible assumption | (simp only [decide_eq_true_eq, decide_eq_false_iff_not]; first | with_reducible assumption | omega)) (fun h => ?_)) <;> (try rewrite [h]) <;> clear h) | (with_reducible refine pk_if ?_) | ((with_reducible refine cA_split (fun h => ?_) (fun h => ?_)) <;> (try rewrite [h]) <;> (try simp (disch := omega) only [w_i64, w_u64, tdiv_pos, tmod_pos, nth_map, foldA_len, nth_le, nth_tl, nth_tv, set_tl, set_tv] at h) <;> (try simp only [decide_eq_true_eq, decide_eq_false_iff_not, Bool.not_eq_true, Bool.not_eq_false, Bool.not_eq_true', Bool.not_eq_false', not_true_eq_false, not_false_eq_true] at h) <;> (try (exfalso; omega))) | ((with_reducible refine gA_split (fun h => ?_) (fun h => ?_)) <;> (try rewrite [h]) <;> (try simp (disch := omega) only [w_i64, w_u64, tdiv_pos, tmod_pos, nth_map, foldA_len, nth_le, nth_tl, nth_tv, set_tl, set_tv] at h) <;> (try simp only [decide_eq_true_eq, decide_eq_false_iff_not, Bool.not_eq_true, Bool.not_eq_false, Bool.not_eq_true', Bool.not_eq_false', not_true_eq_false, not_false_eq_true] at h) <;> (try (exfalso; omega))) | (simp (disch := omega) only [w_i64, w_u64, tdiv_pos, tmod_pos, nth_map, foldA_len, nth_le, nth_tl, nth_tv, set_tl, set_tv]) | (with_reducible refine And.intro (by first | with_reducible assumption | rfl | omega) ?_) | (with_reducible refine And.intro ?_ ?_))
  · rw [bucketK, h]; rfl
  · have := hp h; omega
  · rw [bucketK, h]; rfl
set_option maxHeartbeats 400000 in
theorem mayLeaf_d {G : Gl} (hG : SigG G) (b : Int) (l : List Item) (ver : Int) (hl : l.length ≤ 34359738368) : ACp Tryd.prog G 45 [nA b, lA l, nA ver] (bA (fitsB b l ver)) := by
  refine acp_of_wpC (c := _) Tryd.func45 rfl (by kernel_rfl) [.tmp 6] rfl _ Tryd.ntmps45 (Nat.le_of_ble_eq_true rfl) rfl ?_
  repeat' (first | (refine call_pure (cl_check _ hG hl) rfl ?_) | (with_reducible refine aq ?_) | (with_reducible refine yr (by kernel_rfl) (Nat.le_of_ble_eq_true rfl) ?_) | (with_reducible refine yx MIX (by kernel_rfl) (by kernel_rfl) (by kernel_rfl) (Nat.le_of_ble_eq_true rfl) ?_) | (with_reducible refine yc ?_) | (with_reducible refine yseq ?_) | (with_reducible refine awp_block ?_) | (with_reducible refine awp_ret ?_) | (with_reducible refine awp_exit ?_) | (with_reducible refine awp_skip ?_) | (with_reducible refine yr1 (by kernel_rfl) (Nat.le_of_ble_eq_true rfl) ?_) | (with_reducible refine yx1 MIX (by kernel_rfl) (by kernel_rfl) (by kernel_rfl) (Nat.le_of_ble_eq_true rfl) ?_) | (simp only [go_sem, ↓reduceIte, Nat.reduceEqDiff, Nat.reduceAdd, Nat.reduceSub, Nat.reduceMul, Nat.reduceLeDiff, Nat.reduceLT, Int.reduceEq, Int.reduceNe, Int.reduceLT, Int.reduceLE, Int.reduceAdd, Int.reduceSub, Int.reduceMul, Int.reduceNeg, Int.reduceToNat, reduceCtorEq]) | ((with_reducible refine cA_t (by first | with_reducible assumption | (simp only [decide_eq_true_eq, decide_eq_false_iff_not]; first | with_reducible assumption | omega)) (fun h => ?_)) <;> (try rewrite [h]) <;> clear h) | ((with_reducible refine cA_f (by first | with_reducible assumption | (simp only [decide_eq_true_eq, decide_eq_false_iff_not]; first | with_reducible assumption | omega)) (fun h => ?_)) <;> (try rewrite [h]) <;> clear h) | ((with_reducible refine gA_t (by first | with_reducible assumption | (simp only [decide_eq_true_eq, decide_eq_false_iff_not]; first | with_reducible assumption | omega)) (fun h => ?_)) <;> (try rewrite [h]) <;> clear h) | ((with_reducible refine gA_f (by first | with_reducible assumption | (simp only [decide_eq_true_eq, decide_eq_false_iff_not]; first | with_reducible assumption | omega)) (fun h => ?_)) <;> (try rewrite [h]) <;> clear h) | ((with_reducible refine pk_t (by first | with_reducible assumption | (simp only [decide_eq_true_eq, decide_eq_false_iff_not]; first | with_reducible assumption | omega)) (fun h => ?_)) <;> (try rewrite [h]) <;> clear h) | ((with_reducible refine pk_f (by first | with_reducible assumption | (simp only [decide_eq_true_eq, decide_eq_false_iff_not]; first | with_reducible assumption | omega)) (fun h => ?_)) <;> (try rewrite [h]) <;> clear h) | (with_reducible refine pk_if ?_) | ((with_reducible refine cA_split (fun h => ?_) (fun h => ?_)) <;> (try rewrite [h]) <;> (try simp (disch := omega) only [w_i64, w_u64, tdiv_pos, tmod_pos, nth_map, foldA_len, nth_le, nth_tl, nth_tv, set_tl, set_tv] at h) <;> (try simp only [decide_eq_true_eq, decide_eq_false_iff_not, Bool.not_eq_true, Bool.not_eq_false, Bool.not_eq_true', Bool.not_eq_false', not_true_eq_false, not_false_eq_true] at h) <;> (try (exfalso; omega))) | ((with_reducible refine gA_split (fun h => ?_) (fun h => ?_)) <;> (try rewrite [h]) <;> (try simp (disch := omega) only [w_i64, w_u64, tdiv_pos, tmod_pos, nth_map, foldA_len, nth_le, nth_tl, nth_tv, set_tl, set_tv] at h) <;> (try simp only [decide_eq_true_eq, decide_eq_false_iff_not, Bool.not_eq_true, Bool.not_eq_false, Bool.not_eq_true', Bool.not_eq_false', not_true_eq_false, not_false_eq_true] at h) <;> (try (exfalso; omega))) | (simp (disch := omega) only [w_i64, w_u64, tdiv_pos, tmod_pos, nth_map, foldA_len, nth_le, nth_tl, nth_tv, set_tl, set_tv]) | (with_reducible refine And.intro (by first | with_reducible assumption | rfl | omega) ?_) | (with_reducible refine And.intro ?_ ?_))
  · rw [fitsB, leafB_def, show ((chk l).1 == 0) = false by simpa using fun e => h (by omega)]; rfl
  · rw [fitsB, show decide (0 ≤ ver) = false by simp; omega]; simp
  · rw [fitsB, show decide (ver ≤ 2147483647) = false by simp; omega]; simp
  rename_i h1 h2
  have hc : (chk l).1 = 0 := by omega
  refine awp_loop (ι := {k : Nat // k ≤ l.length ∧ (l.take k).all (fitB b ver) = true}) (fun k => ⟨[], [(28, V (.int .i64 k.1)), (27, V (.int .i64 l.length)), (26, SL (l.map (flA Item.cells))), (2, V (.int .i64 ver)), (0, V (.int .i64 b))]⟩) (fun k => l.length - k.1) ⟨0, Nat.zero_le _, rfl⟩ ?_ (Nat.zero_le _) ?_
  · (refine le_mk ?_ ?_ ?_ <;> (try simp (disch := omega) only [go_sem, ↓reduceIte, Nat.reduceEqDiff, Nat.reduceAdd, Nat.reduceSub, Nat.reduceMul, Nat.reduceLeDiff, Nat.reduceLT, Int.reduceEq, Int.reduceNe, Int.reduceLT, Int.reduceLE, Int.reduceAdd, Int.reduceSub, Int.reduceMul, Int.reduceNeg, Int.reduceToNat, reduceCtorEq, w_i64, w_u64, tdiv_pos, tmod_pos, nth_map, foldA_len, nth_le, nth_tl, nth_tv, set_tl, set_tv]))
  rintro ⟨k, hk, hall⟩
  dsimp only
  repeat' (first | (refine call_pure (bucket_d hG _) rfl ?_) | (refine loop_n ⟨k + 1, by omega, ?_⟩ ?_ (Nat.zero_le _) (by dsimp only; omega)) | (refine le_mk ?_ ?_ ?_ <;> (try simp (disch := omega) only [go_sem, ↓reduceIte, Nat.reduceEqDiff, Nat.reduceAdd, Nat.reduceSub, Nat.reduceMul, Nat.reduceLeDiff, Nat.reduceLT, Int.reduceEq, Int.reduceNe, Int.reduceLT, Int.reduceLE, Int.reduceAdd, Int.reduceSub, Int.reduceMul, Int.reduceNeg, Int.reduceToNat, reduceCtorEq, w_i64, w_u64, tdiv_pos, tmod_pos, nth_map, foldA_len, nth_le, nth_tl, nth_tv, set_tl, set_tv])) | (with_reducible refine aq ?_) | (with_reducible refine yr (by kernel_rfl) (Nat.le_of_ble_eq_true rfl) ?_) | (with_reducible refine yx MIX (by kernel_rfl) (by kernel_rfl) (by kernel_rfl) (Nat.le_of_ble_eq_true rfl) ?_) | (with_reducible refine yc ?_) | (with_reducible refine yseq ?_) | (with_reducible refine awp_block ?_) | (with_reducible refine awp_ret ?_) | (with_reducible refine awp_exit ?_) | (with_reducible refine awp_skip ?_) | (with_reducible refine yr1 (by kernel_rfl) (Nat.le_of_ble_eq_true rfl) ?_) | (with_reducible refine yx1 MIX (by kernel_rfl) (by kernel_rfl) (by kernel_rfl) (Nat.le_of_ble_eq_true rfl) ?_) | (simp only [go_sem, ↓reduceIte, Nat.reduceEqDiff, Nat.reduceAdd, Nat.reduceSub, Nat.reduceMul, Nat.reduceLeDiff, Nat.reduceLT, Int.reduceEq, Int.reduceNe, Int.reduceLT, Int.reduceLE, Int.reduceAdd, Int.reduceSub, Int.reduceMul, Int.reduceNeg, Int.reduceToNat, reduceCtorEq]) | ((with_reducible refine cA_t (by first | with_reducible assumption | (simp only [decide_eq_true_eq, decide_eq_false_iff_not]; first | with_reducible assumption | omega)) (fun h => ?_)) <;> (try rewrite [h]) <;> clear h) | ((with_reducible refine cA_f (by first | with_reducible assumption | (simp only [decide_eq_true_eq, decide_eq_false_iff_not]; first | with_reducible assumption | omega)) (fun h => ?_)) <;> (try rewrite [h]) <;> clear h) | ((with_reducible refine gA_t (by first | with_reducible assumption | (simp only [decide_eq_true_eq, decide_eq_false_iff_not]; first | with_reducible assumption | omega)) (fun h => ?_)) <;> (try rewrite [h]) <;> clear h) | ((with_reducible refine gA_f (by first | with_reducible assumption | (simp only [decide_eq_true_eq, decide_eq_false_iff_not]; first | with_reducible assumption | omega)) (fun h => ?_)) <;> (try rewrite [h]) <;> clear h) | ((with_reducible refine pk_t (by first | with_reducible assumption | (simp only [decide_eq_true_eq, decide_eq_false_iff_not]; first | with_reducible assumption | omega)) (fun h => ?_)) <;> (try rewrite [h]) <;> clear h) | ((with_reducible refine pk_f (by first | with_reducible assumption | (simp only [decide_eq_true_eq, decide_eq_false_iff_not]; first | with_reducible assumption | omega)) (fun h => ?_)) <;> (try rewrite [h]) <;> clear h) | (with_reducible refine pk_if ?_) | ((with_reducible refine cA_split (fun h => ?_) (fun h => ?_)) <;> (try rewrite [h]) <;> (try simp (disch := omega) only [w_i64, w_u64, tdiv_pos, tmod_pos, nth_map, foldA_len, nth_le, nth_tl, nth_tv, set_tl, set_tv] at h) <;> (try simp only [decide_eq_true_eq, decide_eq_false_iff_not, Bool.not_eq_true, Bool.not_eq_false, Bool.not_eq_true', Bool.not_eq_false', not_true_eq_false, not_false_eq_true] at h) <;> (try (exfalso; omega))) | ((with_reducible refine gA_split (fun h => ?_) (fun h => ?_)) <;> (try rewrite [h]) <;> (try simp (disch := omega) only [w_i64, w_u64, tdiv_pos, tmod_pos, nth_map, foldA_len, nth_le, nth_tl, nth_tv, set_tl, set_tv] at h) <;> (try simp only [decide_eq_true_eq, decide_eq_false_iff_not, Bool.not_eq_true, Bool.not_eq_false, Bool.not_eq_true', Bool.not_eq_false', not_true_eq_false, not_false_eq_true] at h) <;> (try (exfalso; omega))) | (simp (disch := omega) only [w_i64, w_u64, tdiv_pos, tmod_pos, nth_map, foldA_len, nth_le, nth_tl, nth_tv, set_tl, set_tv]) | (with_reducible refine And.intro (by first | with_reducible assumption | rfl | omega) ?_) | (with_reducible refine And.intro ?_ ?_))
  · rw [fits_no (k := k) (h := by omega) (by simp [fitB, h])]
  · rw [fits_no (k := k) (h := by omega) (by simp [fitB]; omega)]
  · refine allTk (by omega) hall ?_
    rw [fitB, Bool.and_eq_true, decide_eq_true_eq, decide_eq_true_eq]
    constructor <;> omega
  · rw [List.take_of_length_le (by omega)] at hall
    rw [fitsB, leafB_def, hc, hall, show decide (0 ≤ ver) = true by simp; omega, show decide (ver ≤ 2147483647) = true by simp; omega]
    rfl
set_option maxHeartbeats 400000 in
theorem may_d {G : Gl} (hG : SigG G) (t : Tr) (hl : ∀ i, (t.leaf i).length ≤ 34359738368) : ACp Tryd.prog G 33 [tA t] (bA (mayT t)) := by
  refine acp_of_wpC (c := _) Tryd.func33 rfl (by kernel_rfl) [.tmp 2] rfl _ Tryd.ntmps33 (Nat.le_of_ble_eq_true rfl) rfl ?_
  repeat' (first | (with_reducible refine aq ?_) | (with_reducible refine yr (by kernel_rfl) (Nat.le_of_ble_eq_true rfl) ?_) | (with_reducible refine yx MIX (by kernel_rfl) (by kernel_rfl) (by kernel_rfl) (Nat.le_of_ble_eq_true rfl) ?_) | (with_reducible refine yc ?_) | (with_reducible refine yseq ?_) | (with_reducible refine awp_block ?_) | (with_reducible refine awp_ret ?_) | (with_reducible refine awp_exit ?_) | (with_reducible refine awp_skip ?_) | (with_reducible refine yr1 (by kernel_rfl) (Nat.le_of_ble_eq_true rfl) ?_) | (with_reducible refine yx1 MIX (by kernel_rfl) (by kernel_rfl) (by kernel_rfl) (Nat.le_of_ble_eq_true rfl) ?_) | (simp only [go_sem, ↓reduceIte, Nat.reduceEqDiff, Nat.reduceAdd, Nat.reduceSub, Nat.reduceMul, Nat.reduceLeDiff, Nat.reduceLT, Int.reduceEq, Int.reduceNe, Int.reduceLT, Int.reduceLE, Int.reduceAdd, Int.reduceSub, Int.reduceMul, Int.reduceNeg, Int.reduceToNat, reduceCtorEq]) | ((with_reducible refine cA_t (by first | with_reducible assumption | (simp only [decide_eq_true_eq, decide_eq_false_iff_not]; first | with_reducible assumption | omega)) (fun h => ?_)) <;> (try rewrite [h]) <;> clear h) | ((with_reducible refine cA_f (by first | with_reducible assumption | (simp only [decide_eq_true_eq, decide_eq_false_iff_not]; first | with_reducible assumption | omega)) (fun h => ?_)) <;> (try rewrite [h]) <;> clear h) | ((with_reducible refine gA_t (by first | with_reducible assumption | (simp only [decide_eq_true_eq, decide_eq_false_iff_not]; first | with_reducible assumption | omega)) (fun h => ?_)) <;> (try rewrite [h]) <;> clear h) | ((with_reducible refine gA_f (by first | with_reducible assumption | (simp only [decide_eq_true_eq, decide_eq_false_iff_not]; first | with_reducible assumption | omega)) (fun h => ?_)) <;> (try rewrite [h]) <;> clear h) | ((with_reducible refine pk_t (by first | with_reducible assumption | (simp only [decide_eq_true_eq, decide_eq_false_iff_not]; first | with_reducible assumption | omega)) (fun h => ?_)) <;> (try rewrite [h]) <;> clear h) | ((with_reducible refine pk_f (by first | with_reducible assumption | (simp only [decide_eq_true_eq, decide_eq_false_iff_not]; first | with_reducible assumption | omega)) (fun h => ?_)) <;> (try rewrite [h]) <;> clear h) | (with_reducible refine pk_if ?_) | ((with_reducible refine cA_split (fun h => ?_) (fun h => ?_)) <;> (try rewrite [h]) <;> (try simp (disch := omega) only [w_i64, w_u64, tdiv_pos, tmod_pos, nth_map, foldA_len, nth_le, nth_tl, nth_tv, set_tl, set_tv] at h) <;> (try simp only [decide_eq_true_eq, decide_eq_false_iff_not, Bool.not_eq_true, Bool.not_eq_false, Bool.not_eq_true', Bool.not_eq_false', not_true_eq_false, not_false_eq_true] at h) <;> (try (exfalso; omega))) | ((with_reducible refine gA_split (fun h => ?_) (fun h => ?_)) <;> (try rewrite [h]) <;> (try simp (disch := omega) only [w_i64, w_u64, tdiv_pos, tmod_pos, nth_map, foldA_len, nth_le, nth_tl, nth_tv, set_tl, set_tv] at h) <;> (try simp only [decide_eq_true_eq, decide_eq_false_iff_not, Bool.not_eq_true, Bool.not_eq_false, Bool.not_eq_true', Bool.not_eq_false', not_true_eq_false, not_false_eq_true] at h) <;> (try (exfalso; omega))) | (simp (disch := omega) only [w_i64, w_u64, tdiv_pos, tmod_pos, nth_map, foldA_len, nth_le, nth_tl, nth_tv, set_tl, set_tv]) | (with_reducible refine And.intro (by first | with_reducible assumption | rfl | omega) ?_) | (with_reducible refine And.intro ?_ ?_))
  refine awp_loop (ι := {k : Nat // k ≤ 16 ∧ (List.range k).all (fun i => fitsB i (t.leaf i) (t.ver i)) = true}) (fun k => ⟨[⟨1, 35, 0, tC t⟩], [(7, V (.int .i64 k.1)), (6, .agg (leC t)), (1, OP 0 0)]⟩) (fun k => 16 - k.1) ⟨0, Nat.zero_le _, rfl⟩ ?_ (Nat.zero_le _) ?_
  · (refine le_mk ?_ ?_ ?_ <;> (try simp (disch := omega) only [go_sem, ↓reduceIte, Nat.reduceEqDiff, Nat.reduceAdd, Nat.reduceSub, Nat.reduceMul, Nat.reduceLeDiff, Nat.reduceLT, Int.reduceEq, Int.reduceNe, Int.reduceLT, Int.reduceLE, Int.reduceAdd, Int.reduceSub, Int.reduceMul, Int.reduceNeg, Int.reduceToNat, reduceCtorEq, w_i64, w_u64, tdiv_pos, tmod_pos, nth_map, foldA_len, nth_le, nth_tl, nth_tv, set_tl, set_tv]))
  rintro ⟨k, hk, hall⟩
  dsimp only
  repeat' (first | (refine call_pure (mayLeaf_d hG _ _ _ (hl k)) rfl ?_) | (refine loop_n ⟨k + 1, by omega, ?_⟩ ?_ (Nat.zero_le _) (by dsimp only; omega)) | (refine le_mk ?_ ?_ ?_ <;> (try simp (disch := omega) only [go_sem, ↓reduceIte, Nat.reduceEqDiff, Nat.reduceAdd, Nat.reduceSub, Nat.reduceMul, Nat.reduceLeDiff, Nat.reduceLT, Int.reduceEq, Int.reduceNe, Int.reduceLT, Int.reduceLE, Int.reduceAdd, Int.reduceSub, Int.reduceMul, Int.reduceNeg, Int.reduceToNat, reduceCtorEq, w_i64, w_u64, tdiv_pos, tmod_pos, nth_map, foldA_len, nth_le, nth_tl, nth_tv, set_tl, set_tv])) | (with_reducible refine aq ?_) | (with_reducible refine yr (by kernel_rfl) (Nat.le_of_ble_eq_true rfl) ?_) | (with_reducible refine yx MIX (by kernel_rfl) (by kernel_rfl) (by kernel_rfl) (Nat.le_of_ble_eq_true rfl) ?_) | (with_reducible refine yc ?_) | (with_reducible refine yseq ?_) | (with_reducible refine awp_block ?_) | (with_reducible refine awp_ret ?_) | (with_reducible refine awp_exit ?_) | (with_reducible refine awp_skip ?_) | (with_reducible refine yr1 (by kernel_rfl) (Nat.le_of_ble_eq_true rfl) ?_) | (with_reducible refine yx1 MIX (by kernel_rfl) (by kernel_rfl) (by kernel_rfl) (Nat.le_of_ble_eq_true rfl) ?_) | (simp only [go_sem, ↓reduceIte, Nat.reduceEqDiff, Nat.reduceAdd, Nat.reduceSub, Nat.reduceMul, Nat.reduceLeDiff, Nat.reduceLT, Int.reduceEq, Int.reduceNe, Int.reduceLT, Int.reduceLE, Int.reduceAdd, Int.reduceSub, Int.reduceMul, Int.reduceNeg, Int.reduceToNat, reduceCtorEq]) | ((with_reducible refine cA_t (by first | with_reducible assumption | (simp only [decide_eq_true_eq, decide_eq_false_iff_not]; first | with_reducible assumption | omega)) (fun h => ?_)) <;> (try rewrite [h]) <;> clear h) | ((with_reducible refine cA_f (by first | with_reducible assumption | (simp only [decide_eq_true_eq, decide_eq_false_iff_not]; first | with_reducible assumption | omega)) (fun h => ?_)) <;> (try rewrite [h]) <;> clear h) | ((with_reducible refine gA_t (by first | with_reducible assumption | (simp only [decide_eq_true_eq, decide_eq_false_iff_not]; first | with_reducible assumption | omega)) (fun h => ?_)) <;> (try rewrite [h]) <;> clear h) | ((with_reducible refine gA_f (by first | with_reducible assumption | (simp only [decide_eq_true_eq, decide_eq_false_iff_not]; first | with_reducible assumption | omega)) (fun h => ?_)) <;> (try rewrite [h]) <;> clear h) | ((with_reducible refine pk_t (by first | with_reducible assumption | (simp only [decide_eq_true_eq, decide_eq_false_iff_not]; first | with_reducible assumption | omega)) (fun h => ?_)) <;> (try rewrite [h]) <;> clear h) | ((with_reducible refine pk_f (by first | with_reducible assumption | (simp only [decide_eq_true_eq, decide_eq_false_iff_not]; first | with_reducible assumption | omega)) (fun h => ?_)) <;> (try rewrite [h]) <;> clear h) | (with_reducible refine pk_if ?_) | ((with_reducible refine cA_split (fun h => ?_) (fun h => ?_)) <;> (try rewrite [h]) <;> (try simp (disch := omega) only [w_i64, w_u64, tdiv_pos, tmod_pos, nth_map, foldA_len, nth_le, nth_tl, nth_tv, set_tl, set_tv] at h) <;> (try simp only [decide_eq_true_eq, decide_eq_false_iff_not, Bool.not_eq_true, Bool.not_eq_false, Bool.not_eq_true', Bool.not_eq_false', not_true_eq_false, not_false_eq_true] at h) <;> (try (exfalso; omega))) | ((with_reducible refine gA_split (fun h => ?_) (fun h => ?_)) <;> (try rewrite [h]) <;> (try simp (disch := omega) only [w_i64, w_u64, tdiv_pos, tmod_pos, nth_map, foldA_len, nth_le, nth_tl, nth_tv, set_tl, set_tv] at h) <;> (try simp only [decide_eq_true_eq, decide_eq_false_iff_not, Bool.not_eq_true, Bool.not_eq_false, Bool.not_eq_true', Bool.not_eq_false', not_true_eq_false, not_false_eq_true] at h) <;> (try (exfalso; omega))) | (simp (disch := omega) only [w_i64, w_u64, tdiv_pos, tmod_pos, nth_map, foldA_len, nth_le, nth_tl, nth_tv, set_tl, set_tv]) | (with_reducible refine And.intro (by first | with_reducible assumption | rfl | omega) ?_) | (with_reducible refine And.intro ?_ ?_))
  · rw [may_no (by omega) h]
  · rw [List.all_append, hall]
    simp [h]
  · obtain rfl : k = 16 := by omega
    rw [mayT, hall]
end Go.Proofs.YtopifabnobplcaaDoor

namespace Go.Proofs.YtopifabnobplcaaDoor
open Go.RowKit
set_option linter.unusedVariables false
set_option linter.unusedSimpArgs false
set_option maxRecDepth 20000
theorem bucketK_in {k : Bytes} (h : keyB k = true) : 0 ≤ bucketK k ∧ bucketK k < 16 := by
  rw [bucketK, h]; simp only [if_true]; omega
def bk (k : Bytes) : Nat := (bucketK k).toNat
theorem bk_lt {k : Bytes} (h : keyB k = true) : bk k < 16 := by have := bucketK_in h; unfold bk; omega
def getT (t : Tr) (k : Bytes) : Option Item := if keyB k && mayT t then getK (t.leaf (bk k)) k else none
def chgT (t : Tr) (b : Nat) (ver : Int) (r : List Item × Nat) : Tr × Nat := if r.2 = 0 then ((t.setL b r.1).setV b ver, 0) else (Tr.zero, r.2)
def putT (t : Tr) (x : Item) : Tr × Nat := if !itemB x || !mayT t then (Tr.zero, 1) else if x.ver < t.ver (bk x.key) then (Tr.zero, 18) else chgT t (bk x.key) x.ver (putK (t.leaf (bk x.key)) x)
def delT (t : Tr) (k : Bytes) (ver : Int) : Tr × Nat := if !mayT t || decide (ver < 0) || decide (2147483647 < ver) then (Tr.zero, 1) else if (getT t k).isSome = false then (Tr.zero, 6) else if ver < t.ver (bk k) then (Tr.zero, 18) else chgT t (bk k) ver (delK (t.leaf (bk k)) k)
theorem bk_def (k : Bytes) : (bucketK k).toNat = bk k := _root_.id rfl
theorem chk_one (x : Item) : (chk [x]).1 = if itemB x then 0 else 1 := by
  unfold chk
  simp only [List.length_cons, List.length_nil, chkFrom]
  by_cases h : itemB x = true <;> simp [h]
def xC (x : Item) : List AV := x.cells.map fun u => V u
theorem itC_def (x : Item) : xC x = [V (.string ⟨x.key.toArray⟩), V (.int .i64 x.kind), V (.int .i64 x.i), V (.string ⟨x.s.toArray⟩), V (.int .i64 x.ver)] := _root_.id rfl
theorem fl_zero : flA Item.cells Item.zero = .agg [V (.string ⟨#[]⟩), V (.int .i64 0), V (.int .i64 0), V (.string ⟨#[]⟩), V (.int .i64 0)] := _root_.id rfl
attribute [local go_sem ↓] str_size pk_tt pk_ff hold_one hold_two gO_some gA_tt gA_tf gA_ft gA_ff cA_true cA_false yP_n yP_r yK_n yK_r yQ_n yQ_r yC_nil yC_tmp yC_cell yo_nil yo_cons yo_none yo_guard yo_guardN ys_move ys_assign ys_pick ys_bin ys_un ys_build ys_buildSlice ys_load ys_nilCheck ys_conv ys_extract ys_fieldAddr ys_field ys_indexAddr ys_index ys_slice ys_len ys_alloc ys_box ys_store ys_call ys_append ys_makeFunc ys_callv yd_nil yd_alloc yd_store yd_move yg_move yd_assign yg_assign yd_pick yg_pick yd_bin yg_bin yd_un yg_un yd_build yg_build yd_buildSlice yg_buildSlice yd_load yg_load yd_nilCheck yg_nilCheck yd_conv yg_conv yd_extract yg_extract yd_fieldAddr yg_fieldAddr yd_field yg_field yd_indexAddr yg_indexAddr yd_index yg_index yd_slice yg_slice yd_len yg_len yd_call yg_call ixA_eq sl_es sl_row sl_nil ap_eq bs_eq bl_eq cv_eq ixV_agg thenA_n thenA_r thenA_x inB_n inB_r inB_x loop_r loop_x dstAt_zero dstAt_succ retP_n retP_r
attribute [local go_sem] hle_nil hle_cons oO_one oO_two oO_three oO_nil r1_r0 r1_r1 r1_r2 r1_r3 ro_OW roA_OW go_some al_some okX_f okX_t tells regOnly cv_cl cap0_V cap0_OP cap0_ptr ixA_s ixA_p ixA_o szOf_one szOf_two ixV_str ixW_some sl_str slE_some apE_nil apE_row bsE_one flE_some pget_zero pget_succ blE_some fil_nil fil_cons filB_some cvE_some cv_str' str_list str_cut str_data cut_all cut_to s_eql s_neq s_add s_lss s_geq s_leq s_gtr lt1 set_some set_none get_cons ev_tmp ev_const ev_func ev_global glob_cons cv_int cv_bool cv_str cv_slice cv_ptr cv_agg one_int one_bool one_str one_slice one_ptr b_add b_sub b_mul b_quo b_rem b_and b_or b_xor b_andNot b_shl b_shr b_eql b_neq b_lss b_leq b_gtr b_geq b_str b_beq b_bne u_not u_neg g_tt g_tf g_ft g_ff c_true c_false ex_tu nth_zero nth_succ nthO_zero nthO_succ l_ptr l_ptrV l_ptrS l_op cP_one pP_one oc_one oc_agg st_op f_ptr f_op fv_agg co_agg co_V co_slice co_OW co_OP co_ptr sure_V sure_slice sure_OW sure_OP sure_ptr sure_agg sc_nil sc_cons ixS ixSW ixSN bsV_nil bsV_cons el_slice el_row el_nil len_str len_slice len_row len_nil asI_none asI_some nil_op nil_ptr ro_int ro_bool ro_str ro_nils ro_slice ro_ptr ro_OP ro_OW ro_agg ro_tu roA_agg roA_V roA_slice roA_OW roA_OP roA_ptr r1_int r1_bool r1_str r1_nils r1_slice r1_ptr r1_OP resA_one resA_two resA_three noT_V noT_agg noT_slice noT_OW noT_OP noT_ptr noT_nil argsT_nil argsT_cons allC_nil allC_cons allC_append hle_nil hle_cons le_nil le_cons tT_V tT_SL tT_ptr tT_OW tT_OP tT_agg tT_TU tA_V tA_SL tA_ptr tA_OW tA_OP tA_agg t1_V t1_SL t1_ptr t1_OW t1_OP tO_mk get_cons beq_self_eq_true Nat.zero_lt_succ Nat.lt_add_one true_or or_true Bool.or_self Nat.zero_add Nat.add_zero Nat.mul_one Int.toNat_natCast Int.natCast_zero Int.natCast_add Int.cast_ofNat_Int or_false false_or or_true true_or Nat.sub_zero Int.natCast_nonneg Int.toNat_zero Bool.true_and Bool.and_true Bool.false_and Bool.and_false Bool.true_or Bool.or_true Bool.false_or Bool.or_false Bool.not_true Bool.not_false Bool.not_not true_and and_true false_and and_false not_true_eq_false not_false_eq_true eq_self decide_true decide_false ne_eq implies_true forall_const true_implies false_implies Bool.true_eq_false Bool.false_eq_true List.map_cons List.map_nil List.all_cons List.all_nil List.length_cons List.length_nil List.length_map List.length_append List.nil_append List.cons_append List.set_cons_zero List.set_cons_succ List.set_nil List.drop_zero List.drop_succ_cons List.drop_nil List.take_zero List.take_succ_cons List.take_nil Option.map_some Option.map_none Option.isSome_some tk_3 tk_9 tk_31 tk_32 tk_35 tk_68 tf_35_0 tf_35_1 tf_66_2 tf_68_0 tf_68_1 tf_68_2 ts_9 ts_31 ts_32 ts_33 ta_9 ta_31 ta_32 ta_33 tq_31 tq_55 ti_3 tz_68 tv_3 tv_5 tu_9 tv_9 tv_24 iA_def fl_it allC_it foldA_all lt_it lt_fold lA_def leC_lt1 tC_len zC_len tC_sure tC_lt1 tC_ltA zC_ltA zC_lt1 tC_ro zC_sure zC_ro tC_take zC_take tC_take16 sc_tt sc_zt sc_tz sc_zz add16 tz_T tA_def
theorem item_key {x : Item} (h : itemB x = true) : keyB x.key = true := by
  simp only [itemB, Bool.and_eq_true] at h
  exact h.1.1.1.1
end Go.Proofs.YtopifabnobplcaaDoor

namespace Go.Proofs.YtopifabnobplcaaDoor
open Go.RowKit
set_option linter.unusedVariables false
set_option linter.unusedSimpArgs false
set_option maxRecDepth 20000
theorem getT_key {t : Tr} {k : Bytes} (h : (getT t k).isSome = true) : keyB k = true := by
  cases hk : keyB k with
  | true => rfl
  | false => rw [getT, hk] at h; cases h
attribute [local go_sem ↓] str_size pk_tt pk_ff hold_one hold_two gO_some gA_tt gA_tf gA_ft gA_ff cA_true cA_false yP_n yP_r yK_n yK_r yQ_n yQ_r yC_nil yC_tmp yC_cell yo_nil yo_cons yo_none yo_guard yo_guardN ys_move ys_assign ys_pick ys_bin ys_un ys_build ys_buildSlice ys_load ys_nilCheck ys_conv ys_extract ys_fieldAddr ys_field ys_indexAddr ys_index ys_slice ys_len ys_alloc ys_box ys_store ys_call ys_append ys_makeFunc ys_callv yd_nil yd_alloc yd_store yd_move yg_move yd_assign yg_assign yd_pick yg_pick yd_bin yg_bin yd_un yg_un yd_build yg_build yd_buildSlice yg_buildSlice yd_load yg_load yd_nilCheck yg_nilCheck yd_conv yg_conv yd_extract yg_extract yd_fieldAddr yg_fieldAddr yd_field yg_field yd_indexAddr yg_indexAddr yd_index yg_index yd_slice yg_slice yd_len yg_len yd_call yg_call ixA_eq sl_es sl_row sl_nil ap_eq bs_eq bl_eq cv_eq ixV_agg thenA_n thenA_r thenA_x inB_n inB_r inB_x loop_r loop_x dstAt_zero dstAt_succ retP_n retP_r
attribute [local go_sem] hle_nil hle_cons oO_one oO_two oO_three oO_nil r1_r0 r1_r1 r1_r2 r1_r3 ro_OW roA_OW go_some al_some okX_f okX_t tells regOnly cv_cl cap0_V cap0_OP cap0_ptr ixA_s ixA_p ixA_o szOf_one szOf_two ixV_str ixW_some sl_str slE_some apE_nil apE_row bsE_one flE_some pget_zero pget_succ blE_some fil_nil fil_cons filB_some cvE_some cv_str' str_list str_cut str_data cut_all cut_to s_eql s_neq s_add s_lss s_geq s_leq s_gtr lt1 set_some set_none get_cons ev_tmp ev_const ev_func ev_global glob_cons cv_int cv_bool cv_str cv_slice cv_ptr cv_agg one_int one_bool one_str one_slice one_ptr b_add b_sub b_mul b_quo b_rem b_and b_or b_xor b_andNot b_shl b_shr b_eql b_neq b_lss b_leq b_gtr b_geq b_str b_beq b_bne u_not u_neg g_tt g_tf g_ft g_ff c_true c_false ex_tu nth_zero nth_succ nthO_zero nthO_succ l_ptr l_ptrV l_ptrS l_op cP_one pP_one oc_one oc_agg st_op f_ptr f_op fv_agg co_agg co_V co_slice co_OW co_OP co_ptr sure_V sure_slice sure_OW sure_OP sure_ptr sure_agg sc_nil sc_cons ixS ixSW ixSN bsV_nil bsV_cons el_slice el_row el_nil len_str len_slice len_row len_nil asI_none asI_some nil_op nil_ptr ro_int ro_bool ro_str ro_nils ro_slice ro_ptr ro_OP ro_OW ro_agg ro_tu roA_agg roA_V roA_slice roA_OW roA_OP roA_ptr r1_int r1_bool r1_str r1_nils r1_slice r1_ptr r1_OP resA_one resA_two resA_three noT_V noT_agg noT_slice noT_OW noT_OP noT_ptr noT_nil argsT_nil argsT_cons allC_nil allC_cons allC_append hle_nil hle_cons le_nil le_cons tT_V tT_SL tT_ptr tT_OW tT_OP tT_agg tT_TU tA_V tA_SL tA_ptr tA_OW tA_OP tA_agg t1_V t1_SL t1_ptr t1_OW t1_OP tO_mk get_cons beq_self_eq_true Nat.zero_lt_succ Nat.lt_add_one true_or or_true Bool.or_self Nat.zero_add Nat.add_zero Nat.mul_one Int.toNat_natCast Int.natCast_zero Int.natCast_add Int.cast_ofNat_Int or_false false_or or_true true_or Nat.sub_zero Int.natCast_nonneg Int.toNat_zero Bool.true_and Bool.and_true Bool.false_and Bool.and_false Bool.true_or Bool.or_true Bool.false_or Bool.or_false Bool.not_true Bool.not_false Bool.not_not true_and and_true false_and and_false not_true_eq_false not_false_eq_true eq_self decide_true decide_false ne_eq implies_true forall_const true_implies false_implies Bool.true_eq_false Bool.false_eq_true List.map_cons List.map_nil List.all_cons List.all_nil List.length_cons List.length_nil List.length_map List.length_append List.nil_append List.cons_append List.set_cons_zero List.set_cons_succ List.set_nil List.drop_zero List.drop_succ_cons List.drop_nil List.take_zero List.take_succ_cons List.take_nil Option.map_some Option.map_none Option.isSome_some tk_3 tk_9 tk_31 tk_32 tk_35 tk_68 tf_35_0 tf_35_1 tf_66_2 tf_68_0 tf_68_1 tf_68_2 ts_9 ts_31 ts_32 ts_33 ta_9 ta_31 ta_32 ta_33 tq_31 tq_55 ti_3 tz_68 tv_3 tv_5 tu_9 tv_9 tv_24 iA_def fl_it allC_it foldA_all lt_it lt_fold lA_def leC_lt1 tC_len zC_len tC_sure tC_lt1 tC_ltA zC_ltA zC_lt1 tC_ro zC_sure zC_ro tC_take zC_take tC_take16 sc_tt sc_zt sc_tz sc_zz add16 tz_T tA_def
end Go.Proofs.YtopifabnobplcaaDoor

namespace Go.Proofs.YtopifabnobplcaaDoor
open Go.RowKit
set_option linter.unusedVariables false
set_option linter.unusedSimpArgs false
set_option maxRecDepth 20000
def sumTo (f : Nat → Nat) : Nat → Nat
  | 0 => 0
  | k + 1 => sumTo f k + f k
theorem sumTo_le {f : Nat → Nat} {m : Nat} (h : ∀ i, f i ≤ m) : ∀ k, sumTo f k ≤ k * m
  | 0 => by simp [sumTo]
  | k + 1 => by have := sumTo_le h k; have := h k; rw [sumTo, Nat.succ_mul]; omega
def countT (t : Tr) : Nat := if mayT t then sumTo (fun i => (t.leaf i).length) 16 else 0
def weightT (t : Tr) : Nat := if mayT t then sumTo (fun i => weightP (t.leaf i)) 16 else 0
def unlikeAt (a b : Tr) (i : Nat) : Bool := decide (¬ a.ver i = b.ver i) || !decide (a.leaf i = b.leaf i)
def unlikeL (a b : Tr) (k : Nat) : List Nat := (List.range k).filter (unlikeAt a b)
def nLs (l : List Nat) : List AV := l.map fun (i : Nat) => nA (i : Int)
theorem eqGuard_it : Tryd.prog.eqGuardType Tryd.prog.depth 68 = false := by kernel_rfl
theorem eqAgg_neq (x y : Item) : eqAgg Tryd.prog 68 .neq x.cells y.cells (!decide (x = y)) := by
  intro ox oy w
  obtain ⟨k1, d1, i1, s1, v1⟩ := x
  obtain ⟨k2, d2, i2, s2, v2⟩ := y
  simp only [Sem.run_bind, run_eqGuard_agg _ _ _ _ _ _ _ eqGuard_it, Result.andThen_ok]
  exact run_neq_item w k1 d1 i1 s1 v1 k2 d2 i2 s2 v2
theorem eqAgg_eql (x y : Item) : eqAgg Tryd.prog 68 .eql x.cells y.cells (decide (x = y)) := by
  intro ox oy w
  obtain ⟨k1, d1, i1, s1, v1⟩ := x
  obtain ⟨k2, d2, i2, s2, v2⟩ := y
  simp only [Sem.run_bind, run_eqGuard_agg _ _ _ _ _ _ _ eqGuard_it, Result.andThen_ok]
  exact run_eq_item w k1 d1 i1 s1 v1 k2 d2 i2 s2 v2
theorem neq_it {K1 : AV → Prop} (x y : Item) (k : K1 (bA (!decide (x = y)))) : aBin Tryd.prog 68 .neq (iA x) (iA y) K1 := ⟨_, _, _, rfl, rfl, eqAgg_neq x y, k⟩
theorem eql_it {K1 : AV → Prop} (x y : Item) (k : K1 (bA (decide (x = y)))) : aBin Tryd.prog 68 .eql (iA x) (iA y) K1 := ⟨_, _, _, rfl, rfl, eqAgg_eql x y, k⟩
theorem nLs_len (l : List Nat) : (nLs l).length = l.length := by simp [nLs]
theorem nLs_allC (l : List Nat) : allC 1 (nLs l) = True := allC_mapEq fun x => rfl
theorem nLs_lt (l : List Nat) (m : Nat) : (nLs l).all (ltA m) = true := by
  simp only [nLs, List.all_map, List.all_eq_true, Function.comp_apply]
  exact fun x _ => rfl
theorem unlikeL_le (a b : Tr) (k : Nat) : (unlikeL a b k).length ≤ k := by
  have := List.length_filter_le (unlikeAt a b) (List.range k)
  rwa [List.length_range] at this
theorem unlikeL_succ (a b : Tr) (k : Nat) : unlikeL a b (k + 1) = unlikeL a b k ++ (if unlikeAt a b k then [k] else []) := by
  rw [unlikeL, List.range_succ, List.filter_append]
  simp [unlikeL, List.filter_cons]
attribute [local go_sem ↓] str_size pk_tt pk_ff hold_one hold_two gO_some gA_tt gA_tf gA_ft gA_ff cA_true cA_false yP_n yP_r yK_n yK_r yQ_n yQ_r yC_nil yC_tmp yC_cell yo_nil yo_cons yo_none yo_guard yo_guardN ys_move ys_assign ys_pick ys_bin ys_un ys_build ys_buildSlice ys_load ys_nilCheck ys_conv ys_extract ys_fieldAddr ys_field ys_indexAddr ys_index ys_slice ys_len ys_alloc ys_box ys_store ys_call ys_append ys_makeFunc ys_callv yd_nil yd_alloc yd_store yd_move yg_move yd_assign yg_assign yd_pick yg_pick yd_bin yg_bin yd_un yg_un yd_build yg_build yd_buildSlice yg_buildSlice yd_load yg_load yd_nilCheck yg_nilCheck yd_conv yg_conv yd_extract yg_extract yd_fieldAddr yg_fieldAddr yd_field yg_field yd_indexAddr yg_indexAddr yd_index yg_index yd_slice yg_slice yd_len yg_len yd_call yg_call ixA_eq sl_es sl_row sl_nil ap_eq bs_eq bl_eq cv_eq ixV_agg thenA_n thenA_r thenA_x inB_n inB_r inB_x loop_r loop_x dstAt_zero dstAt_succ retP_n retP_r
attribute [local go_sem] hle_nil hle_cons oO_one oO_two oO_three oO_nil r1_r0 r1_r1 r1_r2 r1_r3 ro_OW roA_OW go_some al_some okX_f okX_t tells regOnly cv_cl cap0_V cap0_OP cap0_ptr ixA_s ixA_p ixA_o szOf_one szOf_two ixV_str ixW_some sl_str slE_some apE_nil apE_row bsE_one flE_some pget_zero pget_succ blE_some fil_nil fil_cons filB_some cvE_some cv_str' str_list str_cut str_data cut_all cut_to s_eql s_neq s_add s_lss s_geq s_leq s_gtr lt1 set_some set_none get_cons ev_tmp ev_const ev_func ev_global glob_cons cv_int cv_bool cv_str cv_slice cv_ptr cv_agg one_int one_bool one_str one_slice one_ptr b_add b_sub b_mul b_quo b_rem b_and b_or b_xor b_andNot b_shl b_shr b_eql b_neq b_lss b_leq b_gtr b_geq b_str b_beq b_bne u_not u_neg g_tt g_tf g_ft g_ff c_true c_false ex_tu nth_zero nth_succ nthO_zero nthO_succ l_ptr l_ptrV l_ptrS l_op cP_one pP_one oc_one oc_agg st_op f_ptr f_op fv_agg co_agg co_V co_slice co_OW co_OP co_ptr sure_V sure_slice sure_OW sure_OP sure_ptr sure_agg sc_nil sc_cons ixS ixSW ixSN bsV_nil bsV_cons el_slice el_row el_nil len_str len_slice len_row len_nil asI_none asI_some nil_op nil_ptr ro_int ro_bool ro_str ro_nils ro_slice ro_ptr ro_OP ro_OW ro_agg ro_tu roA_agg roA_V roA_slice roA_OW roA_OP roA_ptr r1_int r1_bool r1_str r1_nils r1_slice r1_ptr r1_OP resA_one resA_two resA_three noT_V noT_agg noT_slice noT_OW noT_OP noT_ptr noT_nil argsT_nil argsT_cons allC_nil allC_cons allC_append hle_nil hle_cons le_nil le_cons tT_V tT_SL tT_ptr tT_OW tT_OP tT_agg tT_TU tA_V tA_SL tA_ptr tA_OW tA_OP tA_agg t1_V t1_SL t1_ptr t1_OW t1_OP tO_mk get_cons beq_self_eq_true Nat.zero_lt_succ Nat.lt_add_one true_or or_true Bool.or_self Nat.zero_add Nat.add_zero Nat.mul_one Int.toNat_natCast Int.natCast_zero Int.natCast_add Int.cast_ofNat_Int or_false false_or or_true true_or Nat.sub_zero Int.natCast_nonneg Int.toNat_zero Bool.true_and Bool.and_true Bool.false_and Bool.and_false Bool.true_or Bool.or_true Bool.false_or Bool.or_false Bool.not_true Bool.not_false Bool.not_not true_and and_true false_and and_false not_true_eq_false not_false_eq_true eq_self decide_true decide_false ne_eq implies_true forall_const true_implies false_implies Bool.true_eq_false Bool.false_eq_true List.map_cons List.map_nil List.all_cons List.all_nil List.length_cons List.length_nil List.length_map List.length_append List.nil_append List.cons_append List.set_cons_zero List.set_cons_succ List.set_nil List.drop_zero List.drop_succ_cons List.drop_nil List.take_zero List.take_succ_cons List.take_nil Option.map_some Option.map_none Option.isSome_some tk_3 tk_9 tk_31 tk_32 tk_35 tk_68 tf_35_0 tf_35_1 tf_66_2 tf_68_0 tf_68_1 tf_68_2 ts_9 ts_31 ts_32 ts_33 ta_9 ta_31 ta_32 ta_33 tq_31 tq_55 ti_3 tz_68 tv_3 tv_5 tu_9 tv_9 tv_24 iA_def fl_it allC_it foldA_all lt_it lt_fold lA_def leC_lt1 tC_len zC_len tC_sure tC_lt1 tC_ltA zC_ltA zC_lt1 tC_ro zC_sure zC_ro tC_take zC_take tC_take16 sc_tt sc_zt sc_tz sc_zz add16 tz_T tA_def
set_option maxHeartbeats 400000 in
theorem count_d {G : Gl} (hG : SigG G) (t : Tr) (hl : ∀ i, (t.leaf i).length ≤ 1000000) : ACp Tryd.prog G 36 [tA t] (nA (countT t)) := by
  have hl' : ∀ i, (t.leaf i).length ≤ 34359738368 := fun i => Nat.le_trans (hl i) (by decide)
  refine acp_of_wpC (c := _) Tryd.func36 rfl (by kernel_rfl) [.tmp 2] rfl _ Tryd.ntmps36 (Nat.le_of_ble_eq_true rfl) rfl ?_
  repeat' (first | (refine call_pure (may_d hG _ hl') (by (simp (disch := omega) only [go_sem, ↓reduceIte, Nat.reduceEqDiff, Nat.reduceAdd, Nat.reduceSub, Nat.reduceMul, Nat.reduceLeDiff, Nat.reduceLT, Int.reduceEq, Int.reduceNe, Int.reduceLT, Int.reduceLE, Int.reduceAdd, Int.reduceSub, Int.reduceMul, Int.reduceNeg, Int.reduceToNat, reduceCtorEq, w_i64, w_u64, tdiv_pos, tmod_pos, nth_map, foldA_len, nth_le, nth_tl, nth_tv, set_tl, set_tv])) ?_) | (with_reducible refine aq ?_) | (with_reducible refine yr (by kernel_rfl) (Nat.le_of_ble_eq_true rfl) ?_) | (with_reducible refine yx MIX (by kernel_rfl) (by kernel_rfl) (by kernel_rfl) (Nat.le_of_ble_eq_true rfl) ?_) | (with_reducible refine yc ?_) | (with_reducible refine yseq ?_) | (with_reducible refine awp_block ?_) | (with_reducible refine awp_ret ?_) | (with_reducible refine awp_exit ?_) | (with_reducible refine awp_skip ?_) | (with_reducible refine yr1 (by kernel_rfl) (Nat.le_of_ble_eq_true rfl) ?_) | (with_reducible refine yx1 MIX (by kernel_rfl) (by kernel_rfl) (by kernel_rfl) (Nat.le_of_ble_eq_true rfl) ?_) | (simp only [go_sem, ↓reduceIte, Nat.reduceEqDiff, Nat.reduceAdd, Nat.reduceSub, Nat.reduceMul, Nat.reduceLeDiff, Nat.reduceLT, Int.reduceEq, Int.reduceNe, Int.reduceLT, Int.reduceLE, Int.reduceAdd, Int.reduceSub, Int.reduceMul, Int.reduceNeg, Int.reduceToNat, reduceCtorEq]) | ((with_reducible refine cA_t (by first | with_reducible assumption | (simp only [decide_eq_true_eq, decide_eq_false_iff_not]; first | with_reducible assumption | omega)) (fun h => ?_)) <;> (try rewrite [h]) <;> clear h) | ((with_reducible refine cA_f (by first | with_reducible assumption | (simp only [decide_eq_true_eq, decide_eq_false_iff_not]; first | with_reducible assumption | omega)) (fun h => ?_)) <;> (try rewrite [h]) <;> clear h) | ((with_reducible refine gA_t (by first | with_reducible assumption | (simp only [decide_eq_true_eq, decide_eq_false_iff_not]; first | with_reducible assumption | omega)) (fun h => ?_)) <;> (try rewrite [h]) <;> clear h) | ((with_reducible refine gA_f (by first | with_reducible assumption | (simp only [decide_eq_true_eq, decide_eq_false_iff_not]; first | with_reducible assumption | omega)) (fun h => ?_)) <;> (try rewrite [h]) <;> clear h) | ((with_reducible refine pk_t (by first | with_reducible assumption | (simp only [decide_eq_true_eq, decide_eq_false_iff_not]; first | with_reducible assumption | omega)) (fun h => ?_)) <;> (try rewrite [h]) <;> clear h) | ((with_reducible refine pk_f (by first | with_reducible assumption | (simp only [decide_eq_true_eq, decide_eq_false_iff_not]; first | with_reducible assumption | omega)) (fun h => ?_)) <;> (try rewrite [h]) <;> clear h) | (with_reducible refine pk_if ?_) | ((with_reducible refine cA_split (fun h => ?_) (fun h => ?_)) <;> (try rewrite [h]) <;> (try simp (disch := omega) only [w_i64, w_u64, tdiv_pos, tmod_pos, nth_map, foldA_len, nth_le, nth_tl, nth_tv, set_tl, set_tv] at h) <;> (try simp only [decide_eq_true_eq, decide_eq_false_iff_not, Bool.not_eq_true, Bool.not_eq_false, Bool.not_eq_true', Bool.not_eq_false', not_true_eq_false, not_false_eq_true] at h) <;> (try (exfalso; omega))) | ((with_reducible refine gA_split (fun h => ?_) (fun h => ?_)) <;> (try rewrite [h]) <;> (try simp (disch := omega) only [w_i64, w_u64, tdiv_pos, tmod_pos, nth_map, foldA_len, nth_le, nth_tl, nth_tv, set_tl, set_tv] at h) <;> (try simp only [decide_eq_true_eq, decide_eq_false_iff_not, Bool.not_eq_true, Bool.not_eq_false, Bool.not_eq_true', Bool.not_eq_false', not_true_eq_false, not_false_eq_true] at h) <;> (try (exfalso; omega))) | (simp (disch := omega) only [w_i64, w_u64, tdiv_pos, tmod_pos, nth_map, foldA_len, nth_le, nth_tl, nth_tv, set_tl, set_tv]) | (with_reducible refine And.intro (by first | with_reducible assumption | rfl | omega) ?_) | (with_reducible refine And.intro ?_ ?_))
  · rw [countT, h]; rfl
  have hm := h
  clear h
  refine awp_loop (ι := {k : Nat // k ≤ 16}) (fun k => ⟨[⟨1, 35, 0, tC t⟩], [(11, V (.int .i64 k.1)), (10, .agg (leC t)), (3, V (.int .i64 (sumTo (fun i => (t.leaf i).length) k.1))), (1, OP 0 0)]⟩) (fun k => 16 - k.1) ⟨0, Nat.zero_le _⟩ ?_ (Nat.zero_le _) ?_
  · (refine le_mk ?_ ?_ ?_ <;> (try simp (disch := omega) only [go_sem, ↓reduceIte, Nat.reduceEqDiff, Nat.reduceAdd, Nat.reduceSub, Nat.reduceMul, Nat.reduceLeDiff, Nat.reduceLT, Int.reduceEq, Int.reduceNe, Int.reduceLT, Int.reduceLE, Int.reduceAdd, Int.reduceSub, Int.reduceMul, Int.reduceNeg, Int.reduceToNat, reduceCtorEq, w_i64, w_u64, tdiv_pos, tmod_pos, nth_map, foldA_len, nth_le, nth_tl, nth_tv, set_tl, set_tv, sumTo]))
  rintro ⟨k, hk⟩
  have hs := sumTo_le hl k
  have hlk := hl k
  dsimp only
  repeat' (first | (refine loop_n ⟨k + 1, by omega⟩ ?_ (Nat.zero_le _) (by dsimp only; omega)) | (refine le_mk ?_ ?_ ?_ <;> (try simp (disch := omega) only [go_sem, ↓reduceIte, Nat.reduceEqDiff, Nat.reduceAdd, Nat.reduceSub, Nat.reduceMul, Nat.reduceLeDiff, Nat.reduceLT, Int.reduceEq, Int.reduceNe, Int.reduceLT, Int.reduceLE, Int.reduceAdd, Int.reduceSub, Int.reduceMul, Int.reduceNeg, Int.reduceToNat, reduceCtorEq, w_i64, w_u64, tdiv_pos, tmod_pos, nth_map, foldA_len, nth_le, nth_tl, nth_tv, set_tl, set_tv])) | (with_reducible refine aq ?_) | (with_reducible refine yr (by kernel_rfl) (Nat.le_of_ble_eq_true rfl) ?_) | (with_reducible refine yx MIX (by kernel_rfl) (by kernel_rfl) (by kernel_rfl) (Nat.le_of_ble_eq_true rfl) ?_) | (with_reducible refine yc ?_) | (with_reducible refine yseq ?_) | (with_reducible refine awp_block ?_) | (with_reducible refine awp_ret ?_) | (with_reducible refine awp_exit ?_) | (with_reducible refine awp_skip ?_) | (with_reducible refine yr1 (by kernel_rfl) (Nat.le_of_ble_eq_true rfl) ?_) | (with_reducible refine yx1 MIX (by kernel_rfl) (by kernel_rfl) (by kernel_rfl) (Nat.le_of_ble_eq_true rfl) ?_) | (simp only [go_sem, ↓reduceIte, Nat.reduceEqDiff, Nat.reduceAdd, Nat.reduceSub, Nat.reduceMul, Nat.reduceLeDiff, Nat.reduceLT, Int.reduceEq, Int.reduceNe, Int.reduceLT, Int.reduceLE, Int.reduceAdd, Int.reduceSub, Int.reduceMul, Int.reduceNeg, Int.reduceToNat, reduceCtorEq]) | ((with_reducible refine cA_t (by first | with_reducible assumption | (simp only [decide_eq_true_eq, decide_eq_false_iff_not]; first | with_reducible assumption | omega)) (fun h => ?_)) <;> (try rewrite [h]) <;> clear h) | ((with_reducible refine cA_f (by first | with_reducible assumption | (simp only [decide_eq_true_eq, decide_eq_false_iff_not]; first | with_reducible assumption | omega)) (fun h => ?_)) <;> (try rewrite [h]) <;> clear h) | ((with_reducible refine gA_t (by first | with_reducible assumption | (simp only [decide_eq_true_eq, decide_eq_false_iff_not]; first | with_reducible assumption | omega)) (fun h => ?_)) <;> (try rewrite [h]) <;> clear h) | ((with_reducible refine gA_f (by first | with_reducible assumption | (simp only [decide_eq_true_eq, decide_eq_false_iff_not]; first | with_reducible assumption | omega)) (fun h => ?_)) <;> (try rewrite [h]) <;> clear h) | ((with_reducible refine pk_t (by first | with_reducible assumption | (simp only [decide_eq_true_eq, decide_eq_false_iff_not]; first | with_reducible assumption | omega)) (fun h => ?_)) <;> (try rewrite [h]) <;> clear h) | ((with_reducible refine pk_f (by first | with_reducible assumption | (simp only [decide_eq_true_eq, decide_eq_false_iff_not]; first | with_reducible assumption | omega)) (fun h => ?_)) <;> (try rewrite [h]) <;> clear h) | (with_reducible refine pk_if ?_) | ((with_reducible refine cA_split (fun h => ?_) (fun h => ?_)) <;> (try rewrite [h]) <;> (try simp (disch := omega) only [w_i64, w_u64, tdiv_pos, tmod_pos, nth_map, foldA_len, nth_le, nth_tl, nth_tv, set_tl, set_tv] at h) <;> (try simp only [decide_eq_true_eq, decide_eq_false_iff_not, Bool.not_eq_true, Bool.not_eq_false, Bool.not_eq_true', Bool.not_eq_false', not_true_eq_false, not_false_eq_true] at h) <;> (try (exfalso; omega))) | ((with_reducible refine gA_split (fun h => ?_) (fun h => ?_)) <;> (try rewrite [h]) <;> (try simp (disch := omega) only [w_i64, w_u64, tdiv_pos, tmod_pos, nth_map, foldA_len, nth_le, nth_tl, nth_tv, set_tl, set_tv] at h) <;> (try simp only [decide_eq_true_eq, decide_eq_false_iff_not, Bool.not_eq_true, Bool.not_eq_false, Bool.not_eq_true', Bool.not_eq_false', not_true_eq_false, not_false_eq_true] at h) <;> (try (exfalso; omega))) | (simp (disch := omega) only [w_i64, w_u64, tdiv_pos, tmod_pos, nth_map, foldA_len, nth_le, nth_tl, nth_tv, set_tl, set_tv]) | (with_reducible refine And.intro (by first | with_reducible assumption | rfl | omega) ?_) | (with_reducible refine And.intro ?_ ?_))
  · rw [sumTo, Int.natCast_add]
  · obtain rfl : k = 16 := by omega
    rw [countT, hm]; rfl
set_option maxHeartbeats 400000 in
theorem weight_d {G : Gl} (hG : SigG G) (t : Tr) (hl : ∀ i, (t.leaf i).length ≤ 1000000) (hw : ∀ i, weightP (t.leaf i) ≤ 1000000000) (hn : ∀ i, ∀ x ∈ t.leaf i, NumOk x) : ACp Tryd.prog G 35 [tA t] (nA (weightT t)) := by
  have hl' : ∀ i, (t.leaf i).length ≤ 34359738368 := fun i => Nat.le_trans (hl i) (by decide)
  refine acp_of_wpC (c := _) Tryd.func35 rfl (by kernel_rfl) [.tmp 2] rfl _ Tryd.ntmps35 (Nat.le_of_ble_eq_true rfl) rfl ?_
  repeat' (first | (refine call_pure (may_d hG _ hl') (by (simp (disch := omega) only [go_sem, ↓reduceIte, Nat.reduceEqDiff, Nat.reduceAdd, Nat.reduceSub, Nat.reduceMul, Nat.reduceLeDiff, Nat.reduceLT, Int.reduceEq, Int.reduceNe, Int.reduceLT, Int.reduceLE, Int.reduceAdd, Int.reduceSub, Int.reduceMul, Int.reduceNeg, Int.reduceToNat, reduceCtorEq, w_i64, w_u64, tdiv_pos, tmod_pos, nth_map, foldA_len, nth_le, nth_tl, nth_tv, set_tl, set_tv])) ?_) | (with_reducible refine aq ?_) | (with_reducible refine yr (by kernel_rfl) (Nat.le_of_ble_eq_true rfl) ?_) | (with_reducible refine yx MIX (by kernel_rfl) (by kernel_rfl) (by kernel_rfl) (Nat.le_of_ble_eq_true rfl) ?_) | (with_reducible refine yc ?_) | (with_reducible refine yseq ?_) | (with_reducible refine awp_block ?_) | (with_reducible refine awp_ret ?_) | (with_reducible refine awp_exit ?_) | (with_reducible refine awp_skip ?_) | (with_reducible refine yr1 (by kernel_rfl) (Nat.le_of_ble_eq_true rfl) ?_) | (with_reducible refine yx1 MIX (by kernel_rfl) (by kernel_rfl) (by kernel_rfl) (Nat.le_of_ble_eq_true rfl) ?_) | (simp only [go_sem, ↓reduceIte, Nat.reduceEqDiff, Nat.reduceAdd, Nat.reduceSub, Nat.reduceMul, Nat.reduceLeDiff, Nat.reduceLT, Int.reduceEq, Int.reduceNe, Int.reduceLT, Int.reduceLE, Int.reduceAdd, Int.reduceSub, Int.reduceMul, Int.reduceNeg, Int.reduceToNat, reduceCtorEq]) | ((with_reducible refine cA_t (by first | with_reducible assumption | (simp only [decide_eq_true_eq, decide_eq_false_iff_not]; first | with_reducible assumption | omega)) (fun h => ?_)) <;> (try rewrite [h]) <;> clear h) | ((with_reducible refine cA_f (by first | with_reducible assumption | (simp only [decide_eq_true_eq, decide_eq_false_iff_not]; first | with_reducible assumption | omega)) (fun h => ?_)) <;> (try rewrite [h]) <;> clear h) | ((with_reducible refine gA_t (by first | with_reducible assumption | (simp only [decide_eq_true_eq, decide_eq_false_iff_not]; first | with_reducible assumption | omega)) (fun h => ?_)) <;> (try rewrite [h]) <;> clear h) | ((with_reducible refine gA_f (by first | with_reducible assumption | (simp only [decide_eq_true_eq, decide_eq_false_iff_not]; first | with_reducible assumption | omega)) (fun h => ?_)) <;> (try rewrite [h]) <;> clear h) | ((with_reducible refine pk_t (by first | with_reducible assumption | (simp only [decide_eq_true_eq, decide_eq_false_iff_not]; first | with_reducible assumption | omega)) (fun h => ?_)) <;> (try rewrite [h]) <;> clear h) | ((with_reducible refine pk_f (by first | with_reducible assumption | (simp only [decide_eq_true_eq, decide_eq_false_iff_not]; first | with_reducible assumption | omega)) (fun h => ?_)) <;> (try rewrite [h]) <;> clear h) | (with_reducible refine pk_if ?_) | ((with_reducible refine cA_split (fun h => ?_) (fun h => ?_)) <;> (try rewrite [h]) <;> (try simp (disch := omega) only [w_i64, w_u64, tdiv_pos, tmod_pos, nth_map, foldA_len, nth_le, nth_tl, nth_tv, set_tl, set_tv] at h) <;> (try simp only [decide_eq_true_eq, decide_eq_false_iff_not, Bool.not_eq_true, Bool.not_eq_false, Bool.not_eq_true', Bool.not_eq_false', not_true_eq_false, not_false_eq_true] at h) <;> (try (exfalso; omega))) | ((with_reducible refine gA_split (fun h => ?_) (fun h => ?_)) <;> (try rewrite [h]) <;> (try simp (disch := omega) only [w_i64, w_u64, tdiv_pos, tmod_pos, nth_map, foldA_len, nth_le, nth_tl, nth_tv, set_tl, set_tv] at h) <;> (try simp only [decide_eq_true_eq, decide_eq_false_iff_not, Bool.not_eq_true, Bool.not_eq_false, Bool.not_eq_true', Bool.not_eq_false', not_true_eq_false, not_false_eq_true] at h) <;> (try (exfalso; omega))) | (simp (disch := omega) only [w_i64, w_u64, tdiv_pos, tmod_pos, nth_map, foldA_len, nth_le, nth_tl, nth_tv, set_tl, set_tv]) | (with_reducible refine And.intro (by first | with_reducible assumption | rfl | omega) ?_) | (with_reducible refine And.intro ?_ ?_))
  · rw [weightT, h]; rfl
  have hm := h
  clear h
  refine awp_loop (ι := {k : Nat // k ≤ 16}) (fun k => ⟨[⟨1, 35, 0, tC t⟩], [(11, V (.int .i64 k.1)), (10, .agg (leC t)), (3, V (.int .i64 (sumTo (fun i => weightP (t.leaf i)) k.1))), (1, OP 0 0)]⟩) (fun k => 16 - k.1) ⟨0, Nat.zero_le _⟩ ?_ (Nat.zero_le _) ?_
  · (refine le_mk ?_ ?_ ?_ <;> (try simp (disch := omega) only [go_sem, ↓reduceIte, Nat.reduceEqDiff, Nat.reduceAdd, Nat.reduceSub, Nat.reduceMul, Nat.reduceLeDiff, Nat.reduceLT, Int.reduceEq, Int.reduceNe, Int.reduceLT, Int.reduceLE, Int.reduceAdd, Int.reduceSub, Int.reduceMul, Int.reduceNeg, Int.reduceToNat, reduceCtorEq, w_i64, w_u64, tdiv_pos, tmod_pos, nth_map, foldA_len, nth_le, nth_tl, nth_tv, set_tl, set_tv, sumTo]))
  rintro ⟨k, hk⟩
  have hs := sumTo_le hw k
  have hlk := hw k
  dsimp only
  repeat' (first | (refine call_pure (cl_weight _ hG (hn _) (hl _)) rfl ?_) | (refine loop_n ⟨k + 1, by omega⟩ ?_ (Nat.zero_le _) (by dsimp only; omega)) | (refine le_mk ?_ ?_ ?_ <;> (try simp (disch := omega) only [go_sem, ↓reduceIte, Nat.reduceEqDiff, Nat.reduceAdd, Nat.reduceSub, Nat.reduceMul, Nat.reduceLeDiff, Nat.reduceLT, Int.reduceEq, Int.reduceNe, Int.reduceLT, Int.reduceLE, Int.reduceAdd, Int.reduceSub, Int.reduceMul, Int.reduceNeg, Int.reduceToNat, reduceCtorEq, w_i64, w_u64, tdiv_pos, tmod_pos, nth_map, foldA_len, nth_le, nth_tl, nth_tv, set_tl, set_tv])) | (with_reducible refine aq ?_) | (with_reducible refine yr (by kernel_rfl) (Nat.le_of_ble_eq_true rfl) ?_) | (with_reducible refine yx MIX (by kernel_rfl) (by kernel_rfl) (by kernel_rfl) (Nat.le_of_ble_eq_true rfl) ?_) | (with_reducible refine yc ?_) | (with_reducible refine yseq ?_) | (with_reducible refine awp_block ?_) | (with_reducible refine awp_ret ?_) | (with_reducible refine awp_exit ?_) | (with_reducible refine awp_skip ?_) | (with_reducible refine yr1 (by kernel_rfl) (Nat.le_of_ble_eq_true rfl) ?_) | (with_reducible refine yx1 MIX (by kernel_rfl) (by kernel_rfl) (by kernel_rfl) (Nat.le_of_ble_eq_true rfl) ?_) | (simp only [go_sem, ↓reduceIte, Nat.reduceEqDiff, Nat.reduceAdd, Nat.reduceSub, Nat.reduceMul, Nat.reduceLeDiff, Nat.reduceLT, Int.reduceEq, Int.reduceNe, Int.reduceLT, Int.reduceLE, Int.reduceAdd, Int.reduceSub, Int.reduceMul, Int.reduceNeg, Int.reduceToNat, reduceCtorEq]) | ((with_reducible refine cA_t (by first | with_reducible assumption | (simp only [decide_eq_true_eq, decide_eq_false_iff_not]; first | with_reducible assumption | omega)) (fun h => ?_)) <;> (try rewrite [h]) <;> clear h) | ((with_reducible refine cA_f (by first | with_reducible assumption | (simp only [decide_eq_true_eq, decide_eq_false_iff_not]; first | with_reducible assumption | omega)) (fun h => ?_)) <;> (try rewrite [h]) <;> clear h) | ((with_reducible refine gA_t (by first | with_reducible assumption | (simp only [decide_eq_true_eq, decide_eq_false_iff_not]; first | with_reducible assumption | omega)) (fun h => ?_)) <;> (try rewrite [h]) <;> clear h) | ((with_reducible refine gA_f (by first | with_reducible assumption | (simp only [decide_eq_true_eq, decide_eq_false_iff_not]; first | with_reducible assumption | omega)) (fun h => ?_)) <;> (try rewrite [h]) <;> clear h) | ((with_reducible refine pk_t (by first | with_reducible assumption | (simp only [decide_eq_true_eq, decide_eq_false_iff_not]; first | with_reducible assumption | omega)) (fun h => ?_)) <;> (try rewrite [h]) <;> clear h) | ((with_reducible refine pk_f (by first | with_reducible assumption | (simp only [decide_eq_true_eq, decide_eq_false_iff_not]; first | with_reducible assumption | omega)) (fun h => ?_)) <;> (try rewrite [h]) <;> clear h) | (with_reducible refine pk_if ?_) | ((with_reducible refine cA_split (fun h => ?_) (fun h => ?_)) <;> (try rewrite [h]) <;> (try simp (disch := omega) only [w_i64, w_u64, tdiv_pos, tmod_pos, nth_map, foldA_len, nth_le, nth_tl, nth_tv, set_tl, set_tv] at h) <;> (try simp only [decide_eq_true_eq, decide_eq_false_iff_not, Bool.not_eq_true, Bool.not_eq_false, Bool.not_eq_true', Bool.not_eq_false', not_true_eq_false, not_false_eq_true] at h) <;> (try (exfalso; omega))) | ((with_reducible refine gA_split (fun h => ?_) (fun h => ?_)) <;> (try rewrite [h]) <;> (try simp (disch := omega) only [w_i64, w_u64, tdiv_pos, tmod_pos, nth_map, foldA_len, nth_le, nth_tl, nth_tv, set_tl, set_tv] at h) <;> (try simp only [decide_eq_true_eq, decide_eq_false_iff_not, Bool.not_eq_true, Bool.not_eq_false, Bool.not_eq_true', Bool.not_eq_false', not_true_eq_false, not_false_eq_true] at h) <;> (try (exfalso; omega))) | (simp (disch := omega) only [w_i64, w_u64, tdiv_pos, tmod_pos, nth_map, foldA_len, nth_le, nth_tl, nth_tv, set_tl, set_tv]) | (with_reducible refine And.intro (by first | with_reducible assumption | rfl | omega) ?_) | (with_reducible refine And.intro ?_ ?_))
  · rw [sumTo, Int.natCast_add]
  · obtain rfl : k = 16 := by omega
    rw [weightT, hm]; rfl
end Go.Proofs.YtopifabnobplcaaDoor

namespace Go.Proofs.YtopifabnobplcaaDoor
open Go.RowKit
set_option linter.unusedVariables false
set_option linter.unusedSimpArgs false
set_option maxRecDepth 20000
def unlikeT (a b : Tr) : List Nat × Nat := if mayT a && mayT b then (unlikeL a b 16, 0) else ([], 1)
theorem u_yes {a b : Tr} {k : Nat} (h : unlikeAt a b k = true) : unlikeL a b (k + 1) = unlikeL a b k ++ [k] := by rw [unlikeL_succ, h]; rfl
theorem u_no {a b : Tr} {k : Nat} (h : unlikeAt a b k = false) : unlikeL a b (k + 1) = unlikeL a b k := by rw [unlikeL_succ, h]; exact List.append_nil _
theorem nLs_app (l : List Nat) (k : Nat) : nLs (l ++ [k]) = nLs l ++ [nA (k : Int)] := by simp [nLs]
attribute [local go_sem ↓] str_size pk_tt pk_ff hold_one hold_two gO_some gA_tt gA_tf gA_ft gA_ff cA_true cA_false yP_n yP_r yK_n yK_r yQ_n yQ_r yC_nil yC_tmp yC_cell yo_nil yo_cons yo_none yo_guard yo_guardN ys_move ys_assign ys_pick ys_bin ys_un ys_build ys_buildSlice ys_load ys_nilCheck ys_conv ys_extract ys_fieldAddr ys_field ys_indexAddr ys_index ys_slice ys_len ys_alloc ys_box ys_store ys_call ys_append ys_makeFunc ys_callv yd_nil yd_alloc yd_store yd_move yg_move yd_assign yg_assign yd_pick yg_pick yd_bin yg_bin yd_un yg_un yd_build yg_build yd_buildSlice yg_buildSlice yd_load yg_load yd_nilCheck yg_nilCheck yd_conv yg_conv yd_extract yg_extract yd_fieldAddr yg_fieldAddr yd_field yg_field yd_indexAddr yg_indexAddr yd_index yg_index yd_slice yg_slice yd_len yg_len yd_call yg_call ixA_eq sl_es sl_row sl_nil ap_eq bs_eq bl_eq cv_eq ixV_agg thenA_n thenA_r thenA_x inB_n inB_r inB_x loop_r loop_x dstAt_zero dstAt_succ retP_n retP_r
attribute [local go_sem] hle_nil hle_cons oO_one oO_two oO_three oO_nil r1_r0 r1_r1 r1_r2 r1_r3 ro_OW roA_OW go_some al_some okX_f okX_t tells regOnly cv_cl cap0_V cap0_OP cap0_ptr ixA_s ixA_p ixA_o szOf_one szOf_two ixV_str ixW_some sl_str slE_some apE_nil apE_row bsE_one flE_some pget_zero pget_succ blE_some fil_nil fil_cons filB_some cvE_some cv_str' str_list str_cut str_data cut_all cut_to s_eql s_neq s_add s_lss s_geq s_leq s_gtr lt1 set_some set_none get_cons ev_tmp ev_const ev_func ev_global glob_cons cv_int cv_bool cv_str cv_slice cv_ptr cv_agg one_int one_bool one_str one_slice one_ptr b_add b_sub b_mul b_quo b_rem b_and b_or b_xor b_andNot b_shl b_shr b_eql b_neq b_lss b_leq b_gtr b_geq b_str b_beq b_bne u_not u_neg g_tt g_tf g_ft g_ff c_true c_false ex_tu nth_zero nth_succ nthO_zero nthO_succ l_ptr l_ptrV l_ptrS l_op cP_one pP_one oc_one oc_agg st_op f_ptr f_op fv_agg co_agg co_V co_slice co_OW co_OP co_ptr sure_V sure_slice sure_OW sure_OP sure_ptr sure_agg sc_nil sc_cons ixS ixSW ixSN bsV_nil bsV_cons el_slice el_row el_nil len_str len_slice len_row len_nil asI_none asI_some nil_op nil_ptr ro_int ro_bool ro_str ro_nils ro_slice ro_ptr ro_OP ro_OW ro_agg ro_tu roA_agg roA_V roA_slice roA_OW roA_OP roA_ptr r1_int r1_bool r1_str r1_nils r1_slice r1_ptr r1_OP resA_one resA_two resA_three noT_V noT_agg noT_slice noT_OW noT_OP noT_ptr noT_nil argsT_nil argsT_cons allC_nil allC_cons allC_append hle_nil hle_cons le_nil le_cons tT_V tT_SL tT_ptr tT_OW tT_OP tT_agg tT_TU tA_V tA_SL tA_ptr tA_OW tA_OP tA_agg t1_V t1_SL t1_ptr t1_OW t1_OP tO_mk get_cons beq_self_eq_true Nat.zero_lt_succ Nat.lt_add_one true_or or_true Bool.or_self Nat.zero_add Nat.add_zero Nat.mul_one Int.toNat_natCast Int.natCast_zero Int.natCast_add Int.cast_ofNat_Int or_false false_or or_true true_or Nat.sub_zero Int.natCast_nonneg Int.toNat_zero Bool.true_and Bool.and_true Bool.false_and Bool.and_false Bool.true_or Bool.or_true Bool.false_or Bool.or_false Bool.not_true Bool.not_false Bool.not_not true_and and_true false_and and_false not_true_eq_false not_false_eq_true eq_self decide_true decide_false ne_eq implies_true forall_const true_implies false_implies Bool.true_eq_false Bool.false_eq_true List.map_cons List.map_nil List.all_cons List.all_nil List.length_cons List.length_nil List.length_map List.length_append List.nil_append List.cons_append List.set_cons_zero List.set_cons_succ List.set_nil List.drop_zero List.drop_succ_cons List.drop_nil List.take_zero List.take_succ_cons List.take_nil Option.map_some Option.map_none Option.isSome_some tk_3 tk_9 tk_31 tk_32 tk_35 tk_68 tf_35_0 tf_35_1 tf_66_2 tf_68_0 tf_68_1 tf_68_2 ts_9 ts_31 ts_32 ts_33 ta_9 ta_31 ta_32 ta_33 tq_31 tq_55 ti_3 tz_68 tv_3 tv_5 tu_9 tv_9 tv_24 iA_def fl_it allC_it foldA_all lt_it lt_fold lA_def leC_lt1 tC_len zC_len tC_sure tC_lt1 tC_ltA zC_ltA zC_lt1 tC_ro zC_sure zC_ro tC_take zC_take tC_take16 sc_tt sc_zt sc_tz sc_zz add16 tz_T tA_def
end Go.Proofs.YtopifabnobplcaaDoor

namespace Go.Proofs.YtopifabnobplcaaDoor
open Go.RowKit
set_option linter.unusedVariables false
set_option linter.unusedSimpArgs false
def Tr.Eq16 (t u : Tr) : Prop := ∀ i, i < 16 → t.leaf i = u.leaf i ∧ t.ver i = u.ver i
theorem map_range_inj {α β : Type} {f g : Nat → β} {n : Nat} (h : (List.range n).map f = (List.range n).map g) : ∀ i, i < n → f i = g i := fun i hi => by
  have := congrArg (fun l => l[i]?) h
  simpa [List.getElem?_map, List.getElem?_range hi] using this
theorem tA_inj {t u : Tr} (h : tA t = tA u) : t.Eq16 u := by
  unfold tA tC at h
  injection h with h
  obtain ⟨h1, h2⟩ := List.append_inj h (by rw [leC_len, leC_len])
  intro i hi
  exact ⟨lA_inj (map_range_inj (α := Nat) h1 i hi), nA_inj (map_range_inj (α := Nat) h2 i hi)⟩
theorem tA_eq {t u : Tr} (h : t.Eq16 u) : tA t = tA u := by
  unfold tA tC leC veC
  congr 2
  · exact List.map_congr_left fun i hi => by rw [(h i (List.mem_range.1 hi)).1]
  · exact List.map_congr_left fun i hi => by rw [(h i (List.mem_range.1 hi)).2]
theorem all_range_congr {f g : Nat → Bool} {n : Nat} (h : ∀ i, i < n → f i = g i) : (List.range n).all f = (List.range n).all g := by
  rw [Bool.eq_iff_iff, List.all_eq_true, List.all_eq_true]
  exact ⟨fun q i hi => by rw [← h i (List.mem_range.1 hi)]; exact q i hi, fun q i hi => by rw [h i (List.mem_range.1 hi)]; exact q i hi⟩
theorem mayT_eq {t u : Tr} (h : t.Eq16 u) : mayT t = mayT u := all_range_congr fun i hi => by rw [(h i hi).1, (h i hi).2]
theorem getT_eq {t u : Tr} (h : t.Eq16 u) (k : Bytes) : getT t k = getT u k := by
  unfold getT
  rw [mayT_eq h]
  cases hk : keyB k with
  | false => rfl
  | true => rw [(h _ (bk_lt hk)).1]
theorem chgT_eq {t u : Tr} (h : t.Eq16 u) (b : Nat) (v : Int) (r : List Item × Nat) : tA (chgT t b v r).1 = tA (chgT u b v r).1 ∧ (chgT t b v r).2 = (chgT u b v r).2 := by
  unfold chgT
  split
  · refine ⟨tA_eq fun i hi => ?_, rfl⟩
    simp only [Tr.setL, Tr.setV]
    rw [(h i hi).1, (h i hi).2]
    exact ⟨rfl, rfl⟩
  · exact ⟨rfl, rfl⟩
theorem itemB_key {x : Item} (h : itemB x = true) : keyB x.key = true := by
  unfold itemB at h
  simp only [Bool.and_eq_true] at h
  exact h.1.1.1.1
theorem putT_eq {t u : Tr} (h : t.Eq16 u) (x : Item) : tA (putT t x).1 = tA (putT u x).1 ∧ (putT t x).2 = (putT u x).2 := by
  unfold putT
  rw [mayT_eq h]
  split
  · exact ⟨rfl, rfl⟩
  · rename_i hx
    have hi : itemB x = true := by
      cases e : itemB x with
      | true => rfl
      | false => rw [e] at hx; exact absurd rfl hx
    rw [(h _ (bk_lt (itemB_key hi))).1, (h _ (bk_lt (itemB_key hi))).2]
    split
    · exact ⟨rfl, rfl⟩
    · exact chgT_eq h ..
theorem delT_eq {t u : Tr} (h : t.Eq16 u) (k : Bytes) (v : Int) : tA (delT t k v).1 = tA (delT u k v).1 ∧ (delT t k v).2 = (delT u k v).2 := by
  unfold delT
  rw [mayT_eq h, getT_eq h]
  split
  · exact ⟨rfl, rfl⟩
  · split
    · exact ⟨rfl, rfl⟩
    · rename_i hg
      have hk : keyB k = true := by
        cases e : keyB k with
        | true => rfl
        | false => rw [getT, e] at hg; exact absurd rfl hg
      rw [(h _ (bk_lt hk)).1, (h _ (bk_lt hk)).2]
      split
      · exact ⟨rfl, rfl⟩
      · exact chgT_eq h ..
theorem sumTo_eq {f g : Nat → Nat} : ∀ {n : Nat}, (∀ i, i < n → f i = g i) → sumTo f n = sumTo g n
  | 0, _ => rfl
  | n + 1, h => by
    unfold sumTo
    rw [sumTo_eq fun i hi => h i (Nat.lt_succ_of_lt hi), h n (Nat.lt_succ_self n)]
theorem countT_eq {t u : Tr} (h : t.Eq16 u) : countT t = countT u := by
  unfold countT
  rw [mayT_eq h, sumTo_eq fun i hi => by rw [(h i hi).1]]
theorem weightT_eq {t u : Tr} (h : t.Eq16 u) : weightT t = weightT u := by
  unfold weightT
  rw [mayT_eq h, sumTo_eq fun i hi => by rw [(h i hi).1]]
theorem unlikeT_eq {t u t' u' : Tr} (h : t.Eq16 u) (h' : t'.Eq16 u') : unlikeT t t' = unlikeT u u' := by
  unfold unlikeT
  rw [mayT_eq h, mayT_eq h']
  have : unlikeL t t' 16 = unlikeL u u' 16 := by
    unfold unlikeL
    refine List.filter_congr fun i hi => ?_
    have hi := List.mem_range.1 hi
    unfold unlikeAt
    rw [(h i hi).1, (h i hi).2, (h' i hi).1, (h' i hi).2]
  rw [this]
def Tr.Ok (t : Tr) : Prop := ∀ i, (t.leaf i).length ≤ 1000000 ∧ (∀ x ∈ t.leaf i, x.key.length ≤ maxLen ∧ NumOk x) ∧ weightP (t.leaf i) ≤ 1000000000
theorem Tr.Ok.len {t : Tr} (h : t.Ok) : ∀ i, (t.leaf i).length ≤ 1000000 := fun i => (h i).1
theorem Tr.Ok.len2 {t : Tr} (h : t.Ok) : ∀ i, (t.leaf i).length ≤ 34359738368 := fun i => Nat.le_trans (h i).1 (by decide)
noncomputable def trunk_May_t (m : Nat) : List AV → RO := orac (ι := Tr) (fun t => [tA t]) (fun t => bA (mayT t)) Tr.Ok
theorem trunk_May_ok (m : Nat) : ∀ args X H', trunk_May_t m args = some (X, H') → ACp Tryd.prog GG 33 args X := orac_ok fun t h => may_d sigGG t h.len2
theorem trunk_May_e (m : Nat) (t : Tr) (h : t.Ok) : trunk_May_t m [tA t] = some (bA (mayT t), []) := orac_eq (ι := Tr) (by
  intro t u e
  rw [mayT_eq (tA_inj (List.cons.inj e).1)]) (i := t) h
noncomputable def trunk_Count_t (m : Nat) : List AV → RO := orac (ι := Tr) (fun t => [tA t]) (fun t => nA (countT t)) Tr.Ok
theorem trunk_Count_ok (m : Nat) : ∀ args X H', trunk_Count_t m args = some (X, H') → ACp Tryd.prog GG 36 args X := orac_ok fun t h => count_d sigGG t h.len
theorem trunk_Count_e (m : Nat) (t : Tr) (h : t.Ok) : trunk_Count_t m [tA t] = some (nA (countT t), []) := orac_eq (ι := Tr) (by
  intro t u e
  rw [countT_eq (tA_inj (List.cons.inj e).1)]) (i := t) h
noncomputable def trunk_Weight_t (m : Nat) : List AV → RO := orac (ι := Tr) (fun t => [tA t]) (fun t => nA (weightT t)) Tr.Ok
theorem trunk_Weight_ok (m : Nat) : ∀ args X H', trunk_Weight_t m args = some (X, H') → ACp Tryd.prog GG 35 args X := orac_ok fun t h => weight_d sigGG t h.len (fun i => (h i).2.2) fun i x hx => ((h i).2.1 x hx).2
theorem trunk_Weight_e (m : Nat) (t : Tr) (h : t.Ok) : trunk_Weight_t m [tA t] = some (nA (weightT t), []) := orac_eq (ι := Tr) (by
  intro t u e
  rw [weightT_eq (tA_inj (List.cons.inj e).1)]) (i := t) h
theorem tA_few {t u : Tr} (h : t.Eq16 u) : tA (fewT t 16) = tA (fewT u 16) := tA_eq fun i hi => by
  simp only [fewT, hi, if_true]
  rw [(h i hi).1, (h i hi).2]
  exact ⟨rfl, rfl⟩
noncomputable def plenumlaw10_Few_t (m : Nat) : List AV → RO := orac (ι := Tr) (fun t => [tA t]) (fun t => tA (fewT t 16)) (fun t => ∀ i, (t.leaf i).length ≤ maxLen)
theorem plenumlaw10_Few_ok (m : Nat) : ∀ args X H', plenumlaw10_Few_t m args = some (X, H') → ACp Tryd.prog GG 27 args X := orac_ok fun t h => few_d t h
theorem plenumlaw10_Few_e (m : Nat) (t : Tr) (h : ∀ i, (t.leaf i).length ≤ maxLen) : plenumlaw10_Few_t m [tA t] = some (tA (fewT t 16), []) := orac_eq (ι := Tr) (by
  intro t u e
  exact tA_few (tA_inj (List.cons.inj e).1)) (i := t) h
noncomputable def plenumlaw10_short_t (m : Nat) : List AV → RO := orac (ι := Bytes) (fun k => [sA k]) (fun k => sA (k.take 60)) (fun _ => True)
theorem plenumlaw10_short_ok (m : Nat) : ∀ args X H', plenumlaw10_short_t m args = some (X, H') → ACp Tryd.prog GG 59 args X := orac_ok fun k _ => short_d k
theorem plenumlaw10_short_e (m : Nat) (k : Bytes) : plenumlaw10_short_t m [sA k] = some (sA (k.take 60), []) := orac_eq (ι := Bytes) (by
  intro k l e
  rw [sA_inj (List.cons.inj e).1]) (i := k) trivial
noncomputable def plenumlaw10_One_t (m : Nat) : List AV → RO := orac (ι := Item) (fun x => [iA x]) (fun x => iA x.one) (fun _ => True)
theorem plenumlaw10_One_ok (m : Nat) : ∀ args X H', plenumlaw10_One_t m args = some (X, H') → ACp Tryd.prog GG 49 args X := orac_ok fun x _ => one_d x
theorem plenumlaw10_One_e (m : Nat) (x : Item) : plenumlaw10_One_t m [iA x] = some (iA x.one, []) := orac_eq (ι := Item) (by
  intro k l e
  rw [iA_inj (List.cons.inj e).1]) (i := x) trivial
noncomputable def plenumlaw10_items_t (m : Nat) : List AV → RO := orac (ι := List Item) (fun l => [lA l]) (fun l => lA (fewL l)) (fun l => l.length ≤ maxLen)
theorem plenumlaw10_items_ok (m : Nat) : ∀ args X H', plenumlaw10_items_t m args = some (X, H') → ACp Tryd.prog GG 41 args X := orac_ok fun l h => items_d l h
theorem plenumlaw10_items_e (m : Nat) (l : List Item) (h : l.length ≤ maxLen) : plenumlaw10_items_t m [lA l] = some (lA (fewL l), []) := orac_eq (ι := List Item) (by
  intro k l e
  rw [lA_inj (List.cons.inj e).1]) (i := l) h
end Go.Proofs.YtopifabnobplcaaDoor

namespace Go.Proofs.YtopifabnobplcaaDoor
open Go.RowKit
set_option linter.unusedVariables false
set_option linter.unusedSimpArgs false
set_option maxRecDepth 100000
theorem ac_of_wpAdd {P : Program} {G : Gl} {f : FuncId} {fn : Func} {c : Code} {args : List AV} {H : List AObj} {X : AV} {Y : List AObj} (hf : P.funcs[f]? = some fn) (hb : fn.body = some c) (hc : callIs P f = true) (rs : List ResultVar) (hrs : fn.results.toList = rs) (N : Nat) (hN : fn.ntmps = N) (hargs : args.length ≤ N)
    (h : AWp P G N H.length c (fun e s => e = .ret ∧ s.H = H ++ Y ∧ resC P s.H s.T rs fun ds => oneOf ds = X) ⟨H, argsT 0 args⟩) : AC P G f args H (Is X (H ++ Y)) := by
  subst hN
  refine ⟨hc, fun w S μ vs hr hg hl hv => ?_⟩
  refine calls_of_wp hf hb ?_
  have hfr : Fr S μ fn.ntmps (argsT 0 args) { tmps := vs.toArray ++ Array.replicate (fn.ntmps - vs.toArray.size) undef, defers := [] } := by
    refine ⟨by simp; omega, rfl, fun i => ?_⟩
    rw [get_argsT]
    simp only [Nat.zero_le, if_true, Nat.sub_zero]
    cases hd : args[i]? with
    | none => trivial
    | some d =>
      have hi : i < vs.length := by rw [hl]; exact (List.getElem?_eq_some_iff.1 hd).1
      have := hv i d vs[i] hd (List.getElem?_eq_getElem hi)
      simp only [Option.getD_some]
      have e : (vs.toArray ++ Array.replicate (fn.ntmps - vs.toArray.size) undef).getD i undef = vs[i] := by
        rw [Array.getD_eq_getD_getElem?, Array.getElem?_append_left (by simpa using hi)]
        simp [hi]
      rw [e]; exact this
  refine wp_mono (h w S μ _ hr hfr hg) ?_
  rintro e a' w' ⟨s', S', μ', ⟨rfl, hH, hK⟩, hr', hf', hst⟩
  obtain ⟨v, r, hrun, hrep, hX⟩ := resultsC_run (K := fun r => r = X) hrs hr' hf' hK
  subst hX
  exact ⟨hf'.nodef, v, hrun, v, _, s'.H, S', μ', rfl, ⟨rfl, hH⟩, hr', hrep, hst⟩
theorem clone_cons (x : AV) (es : List AV) (H : List AObj) (hz : allCE 36 (x :: es) = true) (hl : (x :: es).length ≤ 34359738368) :
    AC Tryd.prog GG 29 [SL (x :: es)] H (Is (OW H.length (x :: es).length) (H ++ [⟨2, 40, 36, x :: es⟩])) := by
  have hx : exec Tryd.prog GG [] 0 8 ((Tryd.f29.body).getD .skip) .n ⟨H, argsT 0 [SL (x :: es)]⟩ (fun e s => match e with | .ret => some (get s.T 2, s.H) | _ => none) = appE (some (40, 36)) H ZV (SL (x :: es)) (fun d H' => some (d, H')) :=
    (execK_eq (P := Tryd.prog) (G := GG) (E := []) (M := 0) (N := 8) _ _ _ _).symm.trans (by kernel_rfl)
  have h2 : exec Tryd.prog GG [] 0 8 ((Tryd.f29.body).getD .skip) .n ⟨H, argsT 0 [SL (x :: es)]⟩ (fun e s => match e with | .ret => some (get s.T 2, s.H) | _ => none) = some (OW H.length (x :: es).length, H ++ [⟨2, 40, 36, x :: es⟩]) := by
    rw [hx, u_appZ, u_elS, hz, whenE_t, show decide ((x :: es).length ≤ 34359738368) = true by simpa using hl, whenE_t]
  refine ac_of_wpAdd Tryd.func29 rfl (by kernel_rfl) [.tmp 2] rfl 8 Tryd.ntmps29 (Nat.le_of_ble_eq_true rfl) (AWp.mono (exec_ok MIX (by intro f e h; cases h) _ .n ⟨H, argsT 0 [SL (x :: es)]⟩ _ (Nat.le_refl _) h2) fun e s q => ?_)
  cases e with
  | ret =>
    injection q with q
    injection q with q1 q2
    exact ⟨rfl, q2, q1⟩
  | normal => cases q
  | exit id => cases q
  | goto l => cases q
  | panic ch => cases q
  | outgrown => cases q
theorem clone_nil (H : List AObj) : AC Tryd.prog GG 29 [SL []] H (Is (OW H.length 0) (H ++ [⟨2, 40, 36, []⟩])) := by
  refine ⟨by kernel_rfl, fun w S μ vs hr hg hl hv => ?_⟩
  obtain ⟨v, rfl⟩ : ∃ v, vs = [v] := by
    match vs, hl with
    | [v], _ => exact ⟨v, rfl⟩
  obtain ⟨A, c, rfl, _, _, _⟩ := hv 0 _ _ rfl rfl
  have fin : ∀ A' w', Below w.heap.size w w' → CPost w S μ H (Is (OW H.length 0) (H ++ [⟨2, 40, 36, []⟩])) (.returned (.slice A' 0 0)) w' := by
    intro A' w' hb
    obtain ⟨h1, h2⟩ := hr.grow (S' := S) hb (fun _ _ _ q => q) (fun _ _ _ q => .inl q) (fun b j d q hb' => absurd (hr.still_lt q) (by omega))
    obtain ⟨h3, h4⟩ := h1.nilRow A' 40 36
    refine ⟨_, _, _, S, _, rfl, ⟨rfl, rfl⟩, h3, ?_, h2.trans h4⟩
    refine ⟨A', 0, 0, A', 0, ?_, Nat.le_refl _, rfl, fun _ => ⟨rfl, rfl⟩⟩
    rw [← hr.len]; simp
  cases A with
  | none =>
    have hq : ∀ w, (binOp .eql 22 (.slice none 0 c) (.slice none 0 0)).run Tryd.prog w = .ok (.bool true) w := fun w => by
      simp only [binOp]
      rw [Sem.run_bind, run_equal_slice_nil (P := Tryd.prog) w _ _ none 0 c Tryd.underlying22]
      rfl
    go_enter Tryd.func29, Tryd.ntmps29
    go_wp2
    go_ret
    exact fin none _ (Below.refl _ _)
  | some a =>
    have hq : ∀ w, (binOp .eql 22 (.slice (some a) 0 c) (.slice none 0 0)).run Tryd.prog w = .ok (.bool false) w := fun w => by
      simp only [binOp]
      rw [Sem.run_bind, run_equal_slice_nil (P := Tryd.prog) w _ _ (some a) 0 c Tryd.underlying22]
      rfl
    go_enter Tryd.func29, Tryd.ntmps29
    go_wp2
    go_ret
    exact fin _ _ ((Below.refl _ w).alloc (Nat.le_refl _) _)
noncomputable def slices_Clone_Snap_t (m : Nat) : List AV → Nat → RO
  | [.slice es []], n => whenE (allCE 36 es && decide (es.length ≤ 34359738368)) (some (OW n es.length, [⟨2, 40, 36, es⟩]))
  | _, _ => none
theorem slices_Clone_Snap_inv {m n : Nat} {args : List AV} {X : AV} {Y : List AObj} (h : slices_Clone_Snap_t m args n = some (X, Y)) : ∃ es, args = [SL es] ∧ allCE 36 es = true ∧ es.length ≤ 34359738368 ∧ X = OW n es.length ∧ Y = [⟨2, 40, 36, es⟩] := by
  unfold slices_Clone_Snap_t at h
  split at h
  · obtain ⟨h1, h2⟩ := whenE_some h
    rw [Bool.and_eq_true, decide_eq_true_eq] at h1
    injection h2 with h2
    injection h2 with h2 h3
    exact ⟨_, rfl, h1.1, h1.2, h2.symm, h3.symm⟩
  · cases h
theorem slices_Clone_Snap_ok (m : Nat) : ∀ args H X Y, slices_Clone_Snap_t m args H.length = some (X, Y) → AC Tryd.prog GG 29 args H (Is X (H ++ Y)) := by
  intro args H X Y h
  obtain ⟨es, rfl, h1, h2, rfl, rfl⟩ := slices_Clone_Snap_inv h
  cases es with
  | nil => exact clone_nil H
  | cons x es => exact clone_cons x es H h1 h2
theorem slices_Clone_Snap_e (m n : Nat) (es : List AV) (hz : allCE 36 es = true) (hl : es.length ≤ 34359738368) : slices_Clone_Snap_t m [SL es] n = some (OW n es.length, [⟨2, 40, 36, es⟩]) := by
  show whenE (allCE 36 es && decide (es.length ≤ 34359738368)) _ = _
  rw [hz, show decide (es.length ≤ 34359738368) = true by simpa using hl]
  rfl
end Go.Proofs.YtopifabnobplcaaDoor
