/-
  The ring's map: the key that a statement is, what the map holds, Has; the reference's Bad and Has.
-/
import Derived.Test.YtllfdnfiicnmiaaRg1
import Derived.Maps.OwnOps
import Derived.Maps.Views
import Derived.Maps.Ext
import Derived.DeepKeys4
namespace Go.Proofs.Ytllfdnfiicnmiaa
open Go.RowKit
open Go.Maps (Keyed)
set_option maxRecDepth 100000
set_option linter.unusedSimpArgs false
set_option linter.unusedVariables false

theorem laidOut : laidOutB Try.prog = true := by kernel_rfl
theorem wideS : (match Try.prog.underlying 25 with | some (.array _ _) | some (.struct _) => true | _ => false) = true := by rw [Try.underlying25]
theorem rowS : (25 : TypeId) < Try.prog.types.size := of_decide_eq_true (by kernel_rfl)
theorem lawS : Keyed Try.prog 25 := Keyed.of_law (deep_law_laid laidOut (m := 3) (by omega) rowS (by kernel_rfl) wideS)
theorem zeroInt (w : World) : (zeroValue 3).run Try.prog w = .ok (.int .i64 0) w := by kernel_rfl

/-- the numbers of a statement are numbers -/
def I64 (i : Int) : Prop := -9223372036854775808 ≤ i ∧ i ≤ 9223372036854775807
def StmOk (s : Stm) : Prop := I64 s.f ∧ I64 s.k ∧ I64 s.v ∧ I64 s.q ∧ I64 s.t
theorem wf64 {i : Int} (h : I64 i) : (Lit.int .i64 i).wf = true := by
  have := h
  simp [I64, Lit.wf, IntKind.min, IntKind.max, IntKind.signed, IntKind.bits] at this ⊢
  omega
def kS (s : Stm) : Lit := .string (keyBytes [.int .i64 s.f, .int .i64 s.k, .int .i64 s.v, .int .i64 s.q, .int .i64 s.t])
theorem key_ok {f k v q t : Int} (h : StmOk ⟨f, k, v, q, t⟩) : keyOf Try.prog 25 (.agg #[.int .i64 f, .int .i64 k, .int .i64 v, .int .i64 q, .int .i64 t]) = some (kS ⟨f, k, v, q, t⟩) := by
  obtain ⟨h1, h2, h3, h4, h5⟩ := h
  have w1 := wf64 h1; have w2 := wf64 h2; have w3 := wf64 h3; have w4 := wf64 h4; have w5 := wf64 h5
  have hkt : Try.prog.keyType 25 = true := by kernel_rfl
  have hce : Try.prog.cellsOf 25 = 5 := by kernel_rfl
  have hc3 : Try.prog.cellsOf 3 = 1 := by kernel_rfl
  obtain ⟨m, hm⟩ : ∃ m, Try.prog.types.size = m + 1 := Nat.exists_eq_succ_of_ne_zero (Nat.ne_of_gt (Nat.lt_of_le_of_lt (Nat.zero_le _) rowS))
  unfold keyOf
  simp only [Try.underlying25]
  rw [if_pos (by simp [hkt, Value.formed, Try.underlying25, hce]), hm]
  unfold Program.keyLits
  simp only [Try.underlying25, Value.cells]
  rw [if_pos ⟨by rw [hce]; rfl, by simp⟩]
  simp [hc3, Program.keyLits, Try.underlying3, w1, w2, w3, w4, w5, kS]
theorem kS_inj {s t : Stm} (hs : StmOk s) (ht : StmOk t) (h : kS s = kS t) : s = t := by
  obtain ⟨a1, a2, a3, a4, a5⟩ := hs
  obtain ⟨b1, b2, b3, b4, b5⟩ := ht
  unfold kS at h
  injection h with h
  have := keyBytes_inj (by simp [Alike, Lit.sameKind]) (by simp [Lit.keyWf, wf64 a1, wf64 a2, wf64 a3, wf64 a4, wf64 a5]) (by simp [Lit.keyWf, wf64 b1, wf64 b2, wf64 b3, wf64 b4, wf64 b5]) h
  simp at this
  obtain ⟨e1, e2, e3, e4, e5⟩ := this
  cases s; cases t; simp_all

/-- what the map holds behind the statements (the last one first) -/
def dmR : List Stm → DataW Unit
  | [] => .map []
  | s :: r => (dmR r).put (kS s) (.lit (.int .i64 ((r.length + 1 : Nat) : Int)))
theorem dmR_map : ∀ r, Maps.IsMap (dmR r)
  | [] => ⟨[], rfl⟩
  | s :: r => (dmR_map r).put _ _
theorem dmR_at {s : Stm} (hs : StmOk s) : ∀ r : List Stm, (∀ x ∈ r, StmOk x) → ∃ c : Int, (dmR r).atKey (kS s) (.lit (.int .i64 0)) = .lit (.int .i64 c) ∧ 0 ≤ c ∧ (0 < c ↔ s ∈ r)
  | [], _ => ⟨0, rfl, by omega, by simp⟩
  | x :: r, h => by
    obtain ⟨c, h1, h2, h3⟩ := dmR_at hs r (fun y hy => h y (List.mem_cons_of_mem _ hy))
    by_cases hx : s = x
    · subst hx
      exact ⟨((r.length + 1 : Nat) : Int), Maps.atKey_put_same (k := kS s) (dmR_map r) (show WideAt.IsKeyLit (kS s) from trivial) _ _, by omega, by simp⟩
    · refine ⟨c, ?_, h2, by rw [h3]; simp [hx]⟩
      unfold dmR
      rw [Maps.atKey_put_other (fun e => hx (kS_inj hs (h x (by simp)) e)), h1]
def dm (L : List Stm) : DataW Unit := dmR L.reverse
theorem dm_snoc (L : List Stm) (s : Stm) : dm (L ++ [s]) = (dm L).put (kS s) (.lit (.int .i64 ((L.length + 1 : Nat) : Int))) := by
  unfold dm
  rw [List.reverse_append]
  simp [dmR]
theorem dm_at {s : Stm} (hs : StmOk s) {L : List Stm} (h : ∀ x ∈ L, StmOk x) : ∃ c : Int, (dm L).atKey (kS s) (.lit (.int .i64 0)) = .lit (.int .i64 c) ∧ 0 ≤ c ∧ (0 < c ↔ s ∈ L) := by
  obtain ⟨c, h1, h2, h3⟩ := dmR_at hs L.reverse (fun x hx => h x (List.mem_reverse.1 hx))
  exact ⟨c, h1, h2, by rw [h3]; simp⟩

/-- a ring: its block, its row, its map -/
structure RgIs (base : Nat) (w : World) (g b : Nat) (A : Option Addr) (c : Nat) (n : Int) (bad : List Bool) (L : List Stm) : Prop where
  blk : RgB w g n bad (.map (some b)) (.slice A L.length c)
  row : w.ownsRow base 25 5 (.slice A L.length c) L.length (L.flatMap Stm.cells)
  mp : w.ownsMap Try.prog 25 (plainElem Try.prog 3) b L.length (dm L)
  ok : ∀ s ∈ L, StmOk s
  len : L.length ≤ 65536
  n1 : 1 ≤ n
  n64 : n ≤ 64
  hg : base ≤ g
  hb : base ≤ b
theorem own_below {w w' : World} {B e size n : Nat} {v : Value} {xs : List Value} (h : w.ownsRow B e size v n xs) (hb : Below w.heap.size w w') : w'.ownsRow B e size v n xs := by
  refine ⟨h.1, ?_⟩
  rcases h.2 with hn | ⟨g, cap, cur, rfl, hg, hgg, rest⟩
  · exact .inl hn
  · exact .inr ⟨g, cap, cur, rfl, hg, by rw [hb.block g (Array.getElem?_eq_some_iff.1 hgg).1]; exact hgg, rest⟩
theorem map_below {w w' : World} {P : Program} {k : TypeId} {R : Value → Option (DataW Unit × List MemPlace)} {b n : Nat} {D : DataW Unit} (h : w.ownsMap P k R b n D) (hb : Below w.heap.size w w') : w'.ownsMap P k R b n D :=
  h.kept (row := none) ⟨hb.os, hb.tape, hb.output, hb.size, fun i hi _ => hb.block i hi⟩ (by simp)
theorem RgIs.below {base : Nat} {w w' : World} {g b : Nat} {A : Option Addr} {c : Nat} {n : Int} {bad : List Bool} {L : List Stm} (h : RgIs base w g b A c n bad L) (hb : Below w.heap.size w w') : RgIs base w' g b A c n bad L :=
  ⟨h.blk.below hb, own_below h.row hb, map_below h.mp hb, h.ok, h.len, h.n1, h.n64, h.hg, h.hb⟩
theorem gr1 (w : World) (o : Obj) : Below w.heap.size w (w.alloc o) := (Below.refl _ _).alloc (Nat.le_refl _) o
theorem below_trans {a b c : World} (h : Below a.heap.size a b) (k : Below b.heap.size b c) : Below a.heap.size a c := h.trans (k.mono h.size)
theorem bcell {W w1 : World} (hb : Below W.heap.size W w1) : (∀ b o, b < W.heap.size → w1.cell? ⟨b, o, none⟩ = W.cell? ⟨b, o, none⟩) ∧ (∀ b o, b < W.heap.size → w1.frozen? ⟨b, o, none⟩ = W.frozen? ⟨b, o, none⟩) :=
  ⟨fun b o h => hb.cell (p := ⟨b, o, none⟩) h, fun b o h => hb.frozen (p := ⟨b, o, none⟩) h⟩

theorem lk_any {w : World} {b : Nat} {L : List Stm} {f k v q t : Int} {c : Int} (hm : w.ownsMap Try.prog 25 (plainElem Try.prog 3) b L.length (dm L)) (hs : StmOk ⟨f, k, v, q, t⟩)
    (hc : (dm L).atKey (kS ⟨f, k, v, q, t⟩) (.lit (.int .i64 0)) = .lit (.int .i64 c)) :
    (Instr.lookup 53 (.map (some b)) (.agg #[.int .i64 f, .int .i64 k, .int .i64 v, .int .i64 q, .int .i64 t]) false).run Try.prog w = .ok (.int .i64 c) w := by
  obtain ⟨c', h1, h2, _⟩ := hm.lookup_int lawS Try.underlying53 Try.underlying3 (zeroInt w) (key_ok hs)
  rw [hc] at h2
  injection h2 with h2
  injection h2 with _ h2
  rw [h1, ← h2]

set_option maxHeartbeats 1000000 in
theorem has_any {base : Nat} {w : World} {g b : Nat} {A : Option Addr} {c : Nat} {n : Int} {bad : List Bool} {L : List Stm} (hR : RgIs base w g b A c n bad L) {f k v q t : Int} (hs : StmOk ⟨f, k, v, q, t⟩) :
    Calls Try.prog 15 #[.pointer (some ⟨g, 0, none⟩), .agg #[.int .i64 f, .int .i64 k, .int .i64 v, .int .i64 q, .int .i64 t]] w fun e w' => e = .returned (.bool (decide ((⟨f, k, v, q, t⟩ : Stm) ∈ L))) ∧ Below w.heap.size w w' := by
  obtain ⟨cc, h1, h2, h3⟩ := dm_at hs hR.ok
  have hR1 := hR.below (gr1 w (.cells #[.int .i64 f, .int .i64 k, .int .i64 v, .int .i64 q, .int .i64 t] 25))
  have cm := hR.blk.cmap
  have hgl := hR.blk.lt
  have hlk := fun n => lk_any (w := (w.alloc (.cells #[.int .i64 f, .int .i64 k, .int .i64 v, .int .i64 q, .int .i64 t] 25)).drewN n) (hR1.mp : World.ownsMap _ _ _ _ _ _ _) hs h1
  have hlk0 := lk_any (w := (w.alloc (.cells #[.int .i64 f, .int .i64 k, .int .i64 v, .int .i64 q, .int .i64 t] 25))) hR1.mp hs h1
  have HD := hide (show decide (0 < cc) = decide ((⟨f, k, v, q, t⟩ : Stm) ∈ L) from by simp only [h3])
  clear hR hR1 h1 h2 h3
  go_enter Try.func15, Try.ntmps15
  go_wp2_with fail
  go_quiet (fail)
  go_wp2_with fail
  go_ret
  rw [← HD.out]
  exact ⟨rfl, below_drewN (gr1 w _) _⟩
end Go.Proofs.Ytllfdnfiicnmiaa
