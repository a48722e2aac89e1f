/-
  The walks of value.Encode and of the reference's Encode; of leaf.Weight.
-/
import Derived.Test.YtagdjoabpkmomaaDoorChk
import Derived.Deep.RegionHeld3
namespace Go.Proofs.YtagdjoabpkmomaaDoor
open Go.RowKit
set_option maxRecDepth 100000
set_option linter.unusedSimpArgs false
set_option linter.unusedVariables false

theorem own_new (w : World) (base e size n : Nat) (cs : Array Value) (hb : base ≤ w.heap.size) (hs : cs.size = n * size) (hm : n ≤ maxLen) :
    (w.alloc (.cells cs e)).ownsRow base e size (.slice (some ⟨w.heap.size, 0, none⟩) n n) n cs.toList :=
  ⟨by simpa using hs, .inr ⟨w.heap.size, n, cs, rfl, hb, heap_alloc_new w _, Nat.le_refl _, hm, hs, List.take_of_length_le (by simp; omega)⟩⟩
theorem own_below {w w' : World} {base : Nat} {e : TypeId} {size : Nat} {v : Value} {n : Nat} {xs : List Value} (h : w.ownsRow base e size v n xs) (hb : Below w.heap.size w w') : w'.ownsRow base e size v n xs :=
  h.kept (row := none) ⟨hb.os, hb.tape, hb.output, hb.size, fun i hi _ => hb.block i hi⟩ (by cases hv : v.ownBlock <;> simp)

/-- append of one element: it has just been laid in a block of its own. -/
theorem wpList_appE {P : Program} (w : World) {ops : Array Oper} {rest : List Oper} {o : Oper} {a : Act} {Q : Exit → Act → World → Prop} (hgd : o.guard = none) (s x : Operand) (t : TypeId)
    (ho : o.op = .call { callee := .builtin .append, args := #[s, x], argTypes := #[t, t] })
    (w0 : World) (base : Nat) (e te : TypeId) (z : Value) (size bytes : Nat) (ht : P.underlying t = some (.slice e)) (hi : (P.info? e).map (fun i => (i.zero, i.size, i.bytes)) = some (some z, size, bytes))
    (hzs : z.cells.size = size) (hsz : 0 < size) (hby : bytes ≤ 4096)
    (v : Value) (n : Nat) (xs : List Value) (cs : Array Value) (hs : a.eval s = v) (H : Nat) (hH : w.heap.size = H) (hx : a.eval x = .slice (some ⟨H, 0, none⟩) 1 1) (hcs : cs.size = size) (h1 : ∀ u ∈ cs.toList, u.oneCell' = true)
    (hown : w.ownsRow base e size v n xs) (hbel : Below base w0 w) (hbase : base ≤ w.heap.size) (hroom : n + 1 ≤ 34359738368)
    (h : ∀ g cap w', w'.ownsRow base e size (.slice (some ⟨g, 0, none⟩) (n + 1) cap) (n + 1) (xs ++ cs.toList) → Below base w0 w' → wpList P ops Q rest (a.put o.dst (.slice (some ⟨g, 0, none⟩) (n + 1) cap)) w') :
    wpList P ops Q (o :: rest) a (w.alloc (.cells cs te)) := by
  subst hH
  refine wpList_app (w.alloc (.cells cs te)) hgd s x t ho w0 base e z size bytes ht hi hzs hsz hby v n xs hs (hown.alloc _) (hbel.alloc hbase _) ⟨w.heap.size, 0, none⟩ 1 1 cs.toList hx (by simp [hcs]) (fun j u hj => ?_)
    h1 (by omega) hroom (by simp; omega) ?_
  · rw [show (⟨w.heap.size, 0, none⟩ : Addr).add j = ⟨w.heap.size, j, none⟩ from by unfold Addr.add; split <;> simp_all, (Blk.new w te cs).cell]
    simpa using hj
  intro g cap w' hown' hb' _
  exact h g cap w' hown' hb'
theorem wp_appAny {P : Program} (w : World) {o : Oper} {a : Act} {K : Act → World → Prop} {Q : Exit → Act → World → Prop} (s x : Operand) (t : TypeId)
    (ho : o.op = .call { callee := .builtin .append, args := #[s, x], argTypes := #[t, t] })
    (w0 : World) (base : Nat) (e : TypeId) (z : Value) (size bytes : Nat) (ht : P.underlying t = some (.slice e)) (hi : (P.info? e).map (fun i => (i.zero, i.size, i.bytes)) = some (some z, size, bytes))
    (hzs : z.cells.size = size) (hsz : 0 < size) (hby : bytes ≤ 4096)
    (v : Value) (n : Nat) (xs : List Value) (hs : a.eval s = v) (hown : w.ownsRow base e size v n xs) (hbel : Below base w0 w)
    (A : Option Addr) (m c : Nat) (news : List Value) (hx : a.eval x = .slice A m c) (hr : Rd w A size m news) (h1 : ∀ u ∈ news, u.oneCell' = true) (hroom : n + m ≤ 34359738368) (hbase : base ≤ w.heap.size)
    (h : ∀ A' cap' w', w'.ownsRow base e size (.slice A' (n + m) cap') (n + m) (xs ++ news) → Below base w0 w' → K (a.put o.dst (.slice A' (n + m) cap')) w') : Oper.wp P o a w K Q := by
  obtain ⟨A', cap', w', hrun, h2, h3⟩ := run_append_rd w base t o.type e z size bytes ht hi hzs hsz hby v n xs hown A m c news hr h1 hroom hbase
  unfold Oper.wp execOp
  simp only [ho, resolve, invoke, builtin, Sem.run_bind, Sem.run_pure, Result.andThen_ok, List.map_toArray, List.map_cons, List.map_nil, hs, hx, hrun]
  exact h A' cap' w' h2 (hbel.grown h3 hbase fun k hk => (hown.lt k hk).1)
theorem step_appAny {P : Program} (w : World) {ops : Array Oper} {o : Oper} {a : Act} {K : Act → World → Prop} {Q : Exit → Act → World → Prop} {E : Prop} (hgd : o.guard = none) (s x : Operand) (t : TypeId)
    (ho : o.op = .call { callee := .builtin .append, args := #[s, x], argTypes := #[t, t] })
    (w0 : World) (base : Nat) (e : TypeId) (z : Value) (size bytes : Nat) (ht : P.underlying t = some (.slice e)) (hi : (P.info? e).map (fun i => (i.zero, i.size, i.bytes)) = some (some z, size, bytes))
    (hzs : z.cells.size = size) (hsz : 0 < size) (hby : bytes ≤ 4096)
    (v : Value) (n : Nat) (xs : List Value) (hs : a.eval s = v) (hown : w.ownsRow base e size v n xs) (hbel : Below base w0 w)
    (A : Option Addr) (m c : Nat) (news : List Value) (hx : a.eval x = .slice A m c) (hr : Rd w A size m news) (h1 : ∀ u ∈ news, u.oneCell' = true) (hroom : n + m ≤ 34359738368) (hbase : base ≤ w.heap.size)
    (h : ∀ A' cap' w', w'.ownsRow base e size (.slice A' (n + m) cap') (n + m) (xs ++ news) → Below base w0 w' → K (a.put o.dst (.slice A' (n + m) cap')) w') :
    if Region.wanted o (yielded ops a.tmps) = true then Oper.wp P o a w K Q else E := by
  have hw : Region.wanted o (yielded ops a.tmps) = true := by simp [Region.wanted, hgd]
  rw [if_pos hw]
  exact wp_appAny w s x t ho w0 base e z size bytes ht hi hzs hsz hby v n xs hs hown hbel A m c news hx hr h1 hroom hbase h
theorem bz {w w1 : World} {o : Obj} (hb : Below (w.alloc o).heap.size (w.alloc o) w1) : w.heap.size < w1.heap.size := by have := hb.size; simp at this; omega
/-- what value.Encode gives -/
def encP (kind i : Int) (s : Bytes) : Bytes := if valB kind i s then encV kind i s else []
theorem encP_no {kind i : Int} {s : Bytes} (h : valB kind i s = false) : encP kind i s = [] := by unfold encP; rw [h]; rfl
theorem encP_yes {kind i : Int} {s : Bytes} (h : valB kind i s = true) : encP kind i s = encV kind i s := by unfold encP; rw [if_pos h]
theorem valB_cases {kind i : Int} {s : Bytes} (h : valB kind i s = true) :
    (kind = 0 ∧ i = 0 ∧ s = []) ∨ (kind = 1 ∧ (i = 0 ∨ i = 1) ∧ s = []) ∨ (kind = 2 ∧ s = []) ∨ (kind = 3 ∧ i = 0 ∧ s.length ≤ 64) := by
  unfold valB at h
  simp only [Bool.or_eq_true, Bool.and_eq_true, beq_iff_eq, List.isEmpty_iff, decide_eq_true_eq] at h
  rcases h with ((⟨⟨h1, h2⟩, h3⟩ | ⟨⟨h1, h2⟩, h3⟩) | ⟨h1, h2⟩) | ⟨⟨h1, h2⟩, h3⟩
  · exact .inl ⟨h1, h2, h3⟩
  · exact .inr (.inl ⟨h1, h2, h3⟩)
  · exact .inr (.inr (.inl ⟨h1, h2⟩))
  · exact .inr (.inr (.inr ⟨h1, h2, h3⟩))

theorem out_cons {t : TypeId} {w w' : World} {d : UInt8} {D : Int} {l : Bytes} {A : Option Addr} {c : Nat} (hd : D = (d.toNat : Int)) (hown : w'.ownsRow w.heap.size t 1 (.slice A (1 + l.length) c) (1 + l.length) ([.int .u8 D] ++ l.map cB)) (hb : Below w.heap.size w w') :
    BytesOut t w (d :: l) (.returned (.slice A (1 + l.length) c)) w' := by
  subst hd
  refine bytesOut_of (by simp; omega) ?_ hb
  rw [show (d :: l).length = 1 + l.length from by simp; omega]
  exact hown
theorem enc_no (kind i : Int) (s : Bytes) (w : World) (h : valB kind i s = false) :
    Calls Tryd.prog 41 #[.agg #[.int .i64 kind, .int .i64 i, .string ⟨s.toArray⟩]] w (BytesOut 5 w (encP kind i s)) := by
  have HF := hide (encP_no h)
  go_enter Tryd.func41, Tryd.ntmps41
  go_wp2_with (go_at_call 56; refine (valmay_any kind i s _).mono ?_; rintro e w1 ⟨rfl, hb⟩; obtain ⟨hc, hf⟩ := bcell hb; have hz := bz hb)
  go_ret
  rw [HF.out]
  exact ⟨_, _, rfl, World.ownsRow_nil _ _ _ _, below_trans (gr1 _ _) hb⟩
theorem enc_0 (w : World) :
    Calls Tryd.prog 41 #[.agg #[.int .i64 0, .int .i64 0, .string ⟨#[]⟩]] w (BytesOut 5 w [0]) := by
  have hv : valB 0 0 [] = true := by decide
  go_enter Tryd.func41, Tryd.ntmps41
  go_wp2_with (go_at_call 56; refine (valmay_any 0 0 [] _).mono ?_; rintro e w1 ⟨rfl, hb⟩; obtain ⟨hc, hf⟩ := bcell hb; have hz := bz hb)
  go_ret
  have hs := hb.size
  exact ⟨_, _, rfl, own_new w1 _ _ 1 1 #[.int .u8 0] (by simp at hs; omega) rfl (by simp [maxLen]), (below_trans (gr1 _ _) hb).alloc (by simp at hs; omega) _⟩
theorem enc_1 (i : Nat) (hi : i ≤ 1) (w : World) :
    Calls Tryd.prog 41 #[.agg #[.int .i64 1, .int .i64 (i : Int), .string ⟨#[]⟩]] w (BytesOut 5 w [1, UInt8.ofNat i]) := by
  have hv : valB 1 (i : Int) [] = true := by rcases (show i = 0 ∨ i = 1 by omega) with rfl | rfl <;> decide
  have HC := hide (cB_of i (by omega))
  go_enter Tryd.func41, Tryd.ntmps41
  go_wp2_with (first
    | (go_at_call 56; refine (valmay_any 1 i [] _).mono ?_; rintro e w1 ⟨rfl, hb⟩; obtain ⟨hc, hf⟩ := bcell hb; have hz := bz hb)
    | (at_builtin; refine wpList_appE (w1.alloc (.cells #[.int .u8 1] 5)) rfl (.tmp 15) (.tmp 19) _ rfl w w.heap.size 5 5 _ 1 1 Tryd.underlying58 info_u8 rfl (by omega) (by omega) _ 1 [.int .u8 1] #[.int .u8 (i : Int)] (by rfl) (w1.heap.size + 1) (by simp) (by rfl) rfl (by simp [Value.oneCell'])
        (own_new w1 _ _ 1 1 #[.int .u8 1] (by omega) rfl (by simp [maxLen])) ((below_trans (gr1 _ _) hb).alloc (by omega) _) (by simp; omega) (by omega) ?_; intro g cap w2 hown2 hb2))
  go_ret
  exact ⟨_, _, rfl, by rw [List.map_cons, List.map_cons, HC.out]; exact hown2, hb2⟩
theorem enc_2 (i : Int) (h0 : -9223372036854775808 ≤ i) (h1 : i < 9223372036854775808) (w : World) :
    Calls Tryd.prog 41 #[.agg #[.int .i64 2, .int .i64 i, .string ⟨#[]⟩]] w (BytesOut 5 w (2 :: put (zig i))) := by
  have hv : valB 2 i [] = true := by simp [valB]
  have hp := put_len (zig i) (zig_lt i h0 h1)
  go_enter Tryd.func41, Tryd.ntmps41
  go_wp2_with (first
    | (go_at_call 56; refine (valmay_any 2 i [] _).mono ?_; rintro e w1 ⟨rfl, hb⟩; obtain ⟨hc, hf⟩ := bcell hb; have hz := bz hb; have hown := own_new w1 w.heap.size 5 1 1 #[.int .u8 2] (by omega) rfl (by simp [maxLen]); have hbl := (below_trans (gr1 _ _) hb).alloc (Nat.le_of_lt hz) (.cells #[.int .u8 2] 5))
    | (go_at_call 57; refine (putint_any i h0 h1 _).mono ?_; rintro e w2 ⟨A2, c2, rfl, hown2, hb2⟩; have hr2 := Rd.of_own hown2; have hown3 := own_below hown hb2; have hbl3 := hbl.trans (hb2.mono hbl.size))
    | (at_builtin; refine wpList_appAny _ rfl (.tmp 23) (.tmp 26) _ rfl w w.heap.size 5 _ 1 1 Tryd.underlying58 info_u8 rfl (by omega) (by omega) _ 1 [.int .u8 2] (by rfl) hown3 hbl3 _ _ _ _ (by rfl) hr2 (cB_one _) (by omega) hbl3.size ?_; intro A4 c4 w4 hown4 hb4))
  go_ret
  exact out_cons rfl hown4 hb4
theorem enc_3 (s : Bytes) (hs : s.length ≤ 64) (w : World) :
    Calls Tryd.prog 41 #[.agg #[.int .i64 3, .int .i64 0, .string ⟨s.toArray⟩]] w (BytesOut 5 w (3 :: (put s.length ++ s))) := by
  have hv : valB 3 0 s = true := by simp [valB]; omega
  have hp := put_len s.length (by omega)
  have hq : (put s.length ++ s).length ≤ 100 := by simp; omega
  have hpt := fun w => puttext_any s (by omega) w
  generalize put s.length ++ s = B at hpt hq ⊢
  have HPT := hide hpt; clear hpt
  go_enter Tryd.func41, Tryd.ntmps41
  go_wp2_with (first
    | (go_at_call 56; refine (valmay_any 3 0 s _).mono ?_; rintro e w1 ⟨rfl, hb⟩; obtain ⟨hc, hf⟩ := bcell hb; have hz := bz hb; have hown := own_new w1 w.heap.size 5 1 1 #[.int .u8 3] (by omega) rfl (by simp [maxLen]); have hbl := (below_trans (gr1 _ _) hb).alloc (Nat.le_of_lt hz) (.cells #[.int .u8 3] 5))
    | (go_at_call 58; refine (HPT.out _).mono ?_; rintro e w2 ⟨A2, c2, rfl, hown2, hb2⟩; have hr2 := Rd.of_own hown2; have hown3 := own_below hown hb2; have hbl3 := hbl.trans (hb2.mono hbl.size))
    | (at_builtin; refine wpList_appAny _ rfl (.tmp 30) (.tmp 33) _ rfl w w.heap.size 5 _ 1 1 Tryd.underlying58 info_u8 rfl (by omega) (by omega) _ 1 [.int .u8 3] (by rfl) hown3 hbl3 _ _ _ _ (by rfl) hr2 (cB_one _) (by omega) hbl3.size ?_; intro A4 c4 w4 hown4 hb4))
  go_ret
  exact out_cons rfl hown4 hb4
theorem enc_any (kind i : Int) (s : Bytes) (h0 : -9223372036854775808 ≤ i) (h1 : i < 9223372036854775808) (w : World) :
    Calls Tryd.prog 41 #[.agg #[.int .i64 kind, .int .i64 i, .string ⟨s.toArray⟩]] w (BytesOut 5 w (encP kind i s)) := by
  cases hv : valB kind i s with
  | false => exact enc_no kind i s w hv
  | true =>
    rw [encP_yes hv]
    rcases valB_cases hv with ⟨rfl, rfl, rfl⟩ | ⟨rfl, hi, rfl⟩ | ⟨rfl, rfl⟩ | ⟨rfl, rfl, hs⟩
    · exact enc_0 w
    · obtain ⟨n, rfl⟩ : ∃ n : Nat, i = n := ⟨i.toNat, by omega⟩
      exact enc_1 n (by omega) w
    · exact enc_2 i h0 h1 w
    · exact enc_3 s hs w

/-- the reference's: it takes its argument for one that may be -/
theorem encV_1 (i : Int) (s : Bytes) : encV 1 i s = [1, UInt8.ofNat i.toNat] := rfl
theorem ba_app (a b : Bytes) : (ByteArray.mk a.toArray) ++ (ByteArray.mk b.toArray) = ⟨(a ++ b).toArray⟩ := by
  apply ByteArray.ext
  simp
theorem ba_app' (x : UInt8) (b : Bytes) : (ByteArray.mk #[x]) ++ (ByteArray.mk b.toArray) = ⟨(x :: b).toArray⟩ := ba_app [x] b
theorem renc_0 (w : World) :
    Calls Tryd.prog 12 #[.agg #[.int .i64 0, .int .i64 0, .string ⟨#[]⟩]] w fun e w' => e = .returned (.string ⟨([0] : Bytes).toArray⟩) ∧ Below w.heap.size w w' := by
  go_enter Tryd.func12, Tryd.ntmps12
  go_wp2_with fail
  go_ret
  exact ⟨rfl, gr1 _ _⟩
theorem renc_1 (i : Nat) (hi : i ≤ 1) (w : World) :
    Calls Tryd.prog 12 #[.agg #[.int .i64 1, .int .i64 (i : Int), .string ⟨#[]⟩]] w fun e w' => e = .returned (.string ⟨([1, UInt8.ofNat i] : Bytes).toArray⟩) ∧ Below w.heap.size w w' := by
  have hcv : ∀ w : World, (_root_.Go.convert 58 9 (.slice (some ⟨w.heap.size, 0, none⟩) 1 1)).run Tryd.prog (w.alloc (.cells #[.int .u8 (i : Int)] 5)) = .ok (.string ⟨([UInt8.ofNat i] : Bytes).toArray⟩) (w.alloc (.cells #[.int .u8 (i : Int)] 5)) := by
    intro w
    refine run_str _ _ 1 [UInt8.ofNat i] ?_
    have := own_new w w.heap.size 5 1 1 #[cB (UInt8.ofNat i)] (Nat.le_refl _) rfl (by simp [maxLen])
    rw [cB_of i (by omega)] at this
    refine Bs.of_own (base := w.heap.size) (t := 5) (c := 1) ?_
    rw [List.map_cons, List.map_nil, cB_of i (by omega)]
    exact this
  have hcv1 := hcv (w.alloc (.cells #[.int .i64 1, .int .i64 (i : Int), .string ⟨#[]⟩] 30))
  rw [show (w.alloc (.cells #[.int .i64 1, .int .i64 (i : Int), .string ⟨#[]⟩] 30)).heap.size = w.heap.size + 1 from by simp] at hcv1
  clear hcv
  go_enter Tryd.func12, Tryd.ntmps12
  go_wp2_with fail
  go_ret
  exact ⟨by first | rfl | (simp only [ba_app']; rfl), (gr1 _ _).alloc (by simp) _⟩
theorem renc_2 (i : Int) (h0 : -9223372036854775808 ≤ i) (h1 : i < 9223372036854775808) (w : World) :
    Calls Tryd.prog 12 #[.agg #[.int .i64 2, .int .i64 i, .string ⟨#[]⟩]] w fun e w' => e = .returned (.string ⟨(2 :: put (zig i)).toArray⟩) ∧ Below w.heap.size w w' := by
  have hz := zig_lt i h0 h1
  have hp := put_len (zig i) hz
  go_enter Tryd.func12, Tryd.ntmps12
  go_wp2_with (first
    | (go_at_call 38; refine (rzig_any i h0 h1 _).mono ?_; rintro e w1 ⟨rfl, rfl⟩)
    | (go_at_call 37; refine (rput_any (zig i) (by omega) (by omega) _).mono ?_; rintro e w2 ⟨rfl, hb2⟩))
  go_ret
  refine ⟨?_, below_trans (gr1 _ _) hb2⟩
  rw [← ba_app']; rfl
theorem renc_3 (s : Bytes) (hs : s.length ≤ 64) (w : World) :
    Calls Tryd.prog 12 #[.agg #[.int .i64 3, .int .i64 0, .string ⟨s.toArray⟩]] w fun e w' => e = .returned (.string ⟨(3 :: (put s.length ++ s)).toArray⟩) ∧ Below w.heap.size w w' := by
  have hpt := fun w => rtext_any s (by omega) w
  have hp := put_len s.length (by omega)
  have hq : (put s.length ++ s).length ≤ 100 := by simp; omega
  clear hp
  generalize put s.length ++ s = B at hpt hq ⊢
  have HPT := hide hpt; clear hpt
  go_enter Tryd.func12, Tryd.ntmps12
  go_wp2_with (go_at_call 39; refine (HPT.out _).mono ?_; rintro e w2 ⟨rfl, hb2⟩)
  go_ret
  refine ⟨?_, below_trans (gr1 _ _) hb2⟩
  rw [← ba_app']; rfl
theorem renc_any (kind i : Int) (s : Bytes) (h0 : -9223372036854775808 ≤ i) (h1 : i < 9223372036854775808) (hv : valB kind i s = true) (w : World) :
    Calls Tryd.prog 12 #[.agg #[.int .i64 kind, .int .i64 i, .string ⟨s.toArray⟩]] w fun e w' => e = .returned (.string ⟨(encV kind i s).toArray⟩) ∧ Below w.heap.size w w' := by
  rcases valB_cases hv with ⟨rfl, rfl, rfl⟩ | ⟨rfl, hi, rfl⟩ | ⟨rfl, rfl⟩ | ⟨rfl, rfl, hs⟩
  · exact renc_0 w
  · obtain ⟨n, rfl⟩ : ∃ n : Nat, i = n := ⟨i.toNat, by omega⟩
    exact renc_1 n (by omega) w
  · exact renc_2 i h0 h1 w
  · exact renc_3 s hs w
end Go.Proofs.YtagdjoabpkmomaaDoor
