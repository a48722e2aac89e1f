/-
  The walk of ring.Say.
-/
import Derived.Test.YtllfdnfiicnmiaaRg5
import Derived.Deep.RegionLaw
import Derived.Maps.AppendAt
import Derived.OneCell
import Derived.Deep.Cut
import Derived.WalkLawsBesides
import Derived.WalkSpells
namespace Go.Proofs.Ytllfdnfiicnmiaa
open Go.RowKit
set_option maxRecDepth 100000
set_option linter.unusedSimpArgs false
set_option linter.unusedVariables false

/-- all that was there is as it was but for some blocks -/
structure KeptBut (w w' : World) (S : Nat → Prop) : Prop where
  os : w'.os = w.os
  tape : w'.tape = w.tape
  output : w'.output = w.output
  size : w.heap.size ≤ w'.heap.size
  block : ∀ i, i < w.heap.size → ¬ S i → w'.heap[i]? = w.heap[i]?
theorem KeptBut.of_below {w w' : World} {S : Nat → Prop} (h : Below w.heap.size w w') : KeptBut w w' S := ⟨h.os, h.tape, h.output, h.size, fun i hi _ => h.block i hi⟩
theorem KeptBut.of_grown {w w' : World} {S : Nat → Prop} {g : Nat} (h : w.grownBy w' (some g)) (hg : S g) : KeptBut w w' S := ⟨h.os, h.tape, h.output, h.size, fun i hi hs => h.block i hi (fun e => hs (by injection e with e; subst e; exact hg))⟩
theorem KeptBut.of_grown' {w w' : World} {S : Nat → Prop} {row : Option Nat} (h : w.grownBy w' row) (hg : ∀ i, row = some i → S i) : KeptBut w w' S := ⟨h.os, h.tape, h.output, h.size, fun i hi hs => h.block i hi (fun e => hs (hg i e.symm))⟩
theorem KeptBut.trans {a b c : World} {S : Nat → Prop} (h : KeptBut a b S) (k : KeptBut b c S) : KeptBut a c S :=
  ⟨k.os.trans h.os, k.tape.trans h.tape, k.output.trans h.output, Nat.le_trans h.size k.size, fun i hi hs => (k.block i (Nat.lt_of_lt_of_le hi h.size) hs).trans (h.block i hi hs)⟩
theorem KeptBut.wider {a b : World} {S T : Nat → Prop} (h : KeptBut a b S) (k : ∀ i, i < a.heap.size → S i → T i) : KeptBut a b T := ⟨h.os, h.tape, h.output, h.size, fun i hi hs => h.block i hi (fun e => hs (k i hi e))⟩
theorem KeptBut.below {B : Nat} {w0 a b : World} {S : Nat → Prop} (hb : Below B w0 a) (h : KeptBut a b S) (hB : B ≤ a.heap.size) (hS : ∀ i, S i → B ≤ i) : Below B w0 b :=
  ⟨h.os.trans hb.os, h.tape.trans hb.tape, h.output.trans hb.output, Nat.le_trans hb.size h.size, fun i hi => (h.block i (Nat.lt_of_lt_of_le hi hB) (fun e => by have := hS i e; omega)).trans (hb.block i hi)⟩
/-- the ring's own blocks -/
def Mine (g b : Nat) (A : Option Addr) (i : Nat) : Prop := i = g ∨ i = b ∨ A = some ⟨i, 0, none⟩

def sayE (n : Int) (bad : List Bool) (L : List Stm) (a : Int) (s : Stm) : Nat :=
  if !(decide (0 ≤ a) && decide (a < n)) then 4 else if s.f ≠ a ∧ ¬ (badB n bad a = true ∧ badB n bad s.f = true) then 19 else if s ∈ L then 0 else if 65536 ≤ L.length then 5 else 0
def sayL (n : Int) (bad : List Bool) (L : List Stm) (a : Int) (s : Stm) : List Stm :=
  if !(decide (0 ≤ a) && decide (a < n)) then L else if s.f ≠ a ∧ ¬ (badB n bad a = true ∧ badB n bad s.f = true) then L else if s ∈ L then L else if 65536 ≤ L.length then L else L ++ [s]
def SayOut (base : Nat) (w : World) (g b : Nat) (A : Option Addr) (n : Int) (bad : List Bool) (r : Nat) (L' : List Stm) (e : Ending) (w' : World) : Prop :=
  e = .returned (.int .i64 r) ∧ ∃ A' c', RgIs base w' g b A' c' n bad L' ∧ KeptBut w w' (Mine g b A) ∧ (A' = A ∨ ∃ i, A' = some ⟨i, 0, none⟩ ∧ w.heap.size ≤ i)
theorem sayOut_same {base : Nat} {w w' : World} {g b : Nat} {A : Option Addr} {c : Nat} {n : Int} {bad : List Bool} {L : List Stm} {r : Nat} (hR : RgIs base w g b A c n bad L) (hb : Below w.heap.size w w') : SayOut base w g b A n bad r L (.returned (.int .i64 r)) w' :=
  ⟨rfl, A, c, hR.below hb, .of_below hb, .inl rfl⟩
def Says (base : Nat) (w : World) (g b : Nat) (A : Option Addr) (n : Int) (bad : List Bool) (L : List Stm) (a : Int) (s : Stm) : Prop :=
  Calls Try.prog 8 #[.pointer (some ⟨g, 0, none⟩), .int .i64 a, .agg #[.int .i64 s.f, .int .i64 s.k, .int .i64 s.v, .int .i64 s.q, .int .i64 s.t]] w (SayOut base w g b A n bad (sayE n bad L a s) (sayL n bad L a s))

theorem step_appAt {P : Program} (w : World) {ops : Array Oper} {o : Oper} {a : Act} {K : Act → World → Prop} {Q : Exit → Act → World → Prop} {E : Prop} (hgd : o.guard = none) (s x : Operand) (t : TypeId)
    (ho : o.op = .call { callee := .builtin .append, args := #[s, x], argTypes := #[t, t] })
    (base : Nat) (e : TypeId) (z : Value) (size bytes : Nat) (ht : P.underlying t = some (.slice e)) (hi : (P.info? e).map (fun i => (i.zero, i.size, i.bytes)) = some (some z, size, bytes))
    (hzs : z.cells.size = size) (hsz : 0 < size) (hby : bytes ≤ 4096)
    (v : Value) (n : Nat) (xs : List Value) (hs : a.eval s = v) (hown : w.ownsRow base e size v n xs)
    (bb m c : Nat) (news : List Value) (hx : a.eval x = .slice (some ⟨bb, 0, none⟩) m c) (hr : Rd w (some ⟨bb, 0, none⟩) size m news) (hm : 0 < m) (h1 : ∀ u ∈ news, u.oneCell' = true) (hroom : n + m ≤ 34359738368) (hbase : base ≤ w.heap.size)
    (h : ∀ A' cap' w', w'.ownsRow base e size (.slice A' (n + m) cap') (n + m) (xs ++ news) → w.grownBy w' v.ownBlock → ((Value.slice A' (n + m) cap').ownBlock = v.ownBlock ∨ (Value.slice A' (n + m) cap').ownBlock = some w.heap.size) → K (a.put o.dst (.slice A' (n + m) cap')) w') :
    if Region.wanted o (yielded ops a.tmps) = true then Oper.wp P o a w K Q else E := by
  have hw : Region.wanted o (yielded ops a.tmps) = true := by simp [Region.wanted, hgd]
  rw [if_pos hw]
  obtain ⟨i0, hi0, hz0, hz1, hz2⟩ := info_parts hi
  have hcells : ∀ j u, news[j]? = some u → w.cell? ((⟨bb, 0, none⟩ : Addr).add j) = some u := by
    intro j u hu
    obtain ⟨b', off', e', _, hc⟩ := hr.2 hm
    injection e' with e'
    injection e' with e1 e2
    subst e1 e2
    rw [show (⟨bb, 0, none⟩ : Addr).add j = ⟨bb, 0 + j, none⟩ from by unfold Addr.add; split <;> simp_all]
    exact hc j u hu
  obtain ⟨v', w', hrun, h2, h3, _, h5⟩ := run_append_own_at (P := P) w base t o.type e i0 z size bytes ht hi0 hz0 hz1 hz2 hzs hsz v n xs hown ⟨bb, 0, none⟩ m c news hr.1 hcells h1 (by simp only [maxLen]; omega) (by
    have : (n + m) * bytes ≤ 34359738368 * 4096 := Nat.mul_le_mul hroom hby
    omega) hbase
  obtain ⟨A', cap', rfl⟩ := ownsRow_val w' h2
  unfold Oper.wp execOp
  simp only [ho, resolve, invoke, builtin, Sem.run_bind, Sem.run_pure, Result.andThen_ok, List.map_toArray, List.map_cons, List.map_nil, hs, hx, hrun]
  exact h A' cap' w' h2 h3 h5
theorem rg_setall {n : Int} {bad : List Bool} {mv sv sv' : Value} (hl : bad.length = 64) : (rgCells n bad mv sv).setIfInBounds 66 sv' = rgCells n bad mv sv' := by
  unfold rgCells
  rw [List.setIfInBounds_toArray]
  congr 1
  rw [List.set_append, if_neg (by simp; omega)]
  simp [hl]
theorem blk_ne_row {w : World} {g : Nat} {t : TypeId} {cs : Array Value} {base : Nat} {e : TypeId} {size n : Nat} {v : Value} {xs : List Value} (h : Blk w g t cs) (ho : w.ownsRow base e size v n xs) (hne : t ≠ e) : some g ≠ v.ownBlock := by
  rcases ho.2 with ⟨rfl, _⟩ | ⟨g', cap, cur, rfl, _, hg, _⟩
  · simp [Value.ownBlock]
  · intro e1
    simp only [Value.ownBlock, Option.some.injEq] at e1
    subst e1
    have h2 := h.symm.trans hg
    injection h2 with h2
    injection h2 with _ h3 _
    exact hne h3
theorem map_ne_row {w : World} {P : Program} {k : TypeId} {R : Value → Option (DataW Unit × List MemPlace)} {b nn : Nat} {D : DataW Unit} (h : w.ownsMap P k R b nn D) {base : Nat} {e : TypeId} {size n : Nat} {v : Value} {xs : List Value} (ho : w.ownsRow base e size v n xs) : some b ≠ v.ownBlock := by
  obtain ⟨es, clock, hb, _⟩ := h
  rcases ho.2 with ⟨rfl, _⟩ | ⟨g', cap, cur, rfl, _, hg, _⟩
  · simp [Value.ownBlock]
  · intro e1
    simp only [Value.ownBlock, Option.some.injEq] at e1
    subst e1
    have h2 := hb.symm.trans hg
    cases h2
theorem map_ne_blk {w : World} {P : Program} {k : TypeId} {R : Value → Option (DataW Unit × List MemPlace)} {b nn : Nat} {D : DataW Unit} (h : w.ownsMap P k R b nn D) {g : Nat} {t : TypeId} {cs : Array Value} (hg : Blk w g t cs) : b ≠ g := by
  obtain ⟨es, clock, hb, _⟩ := h
  rintro rfl
  have h2 := hb.symm.trans hg
  cases h2
theorem map_lt {w : World} {P : Program} {k : TypeId} {R : Value → Option (DataW Unit × List MemPlace)} {b nn : Nat} {D : DataW Unit} (h : w.ownsMap P k R b nn D) : b < w.heap.size := h.lt
theorem rd_new5 (w : World) (H : Nat) (t : TypeId) (cs : Array Value) (hc : cs.size = 5) (hH : w.heap.size = H) : Rd (w.alloc (.cells cs t)) (some ⟨H, 0, none⟩) 5 1 cs.toList := by
  subst hH
  have : (w.alloc (.cells cs t)).ownsRow 0 t 5 (.slice (some ⟨w.heap.size, 0, none⟩) 1 1) 1 cs.toList := ⟨by simpa using hc, .inr ⟨w.heap.size, 1, cs, rfl, Nat.zero_le _, heap_alloc_new w _, Nat.le_refl _, by simp [maxLen], hc, List.take_of_length_le (by simp; omega)⟩⟩
  exact Rd.of_own this
theorem row_ne {w : World} {base : Nat} {e : TypeId} {size n c : Nat} {A : Option Addr} {xs : List Value} (h : w.ownsRow base e size (.slice A n c) n xs) : A ≠ some ⟨w.heap.size, 0, none⟩ := by
  rcases h.2 with ⟨h1, _⟩ | ⟨g', cap, cur, h1, _, hg, _⟩
  · injection h1 with h1; subst h1; simp
  · injection h1 with h1; subst h1
    have := (Array.getElem?_eq_some_iff.1 hg).1
    intro e1
    injection e1 with e1
    injection e1 with e1
    omega
/-- what stands behind the append -/
theorem say_app {base : Nat} {w2 W5 w7 : World} {g b x : Nat} {A A' : Option Addr} {c cap' : Nat} {n : Int} {bad : List Bool} {L : List Stm} {s : Stm} {bx : Array Value}
    (hR : RgIs base w2 g b A c n bad L) (h5 : Below w2.heap.size w2 W5) (hx : Blk w2 x 25 bx) (hxA : A ≠ some ⟨x, 0, none⟩) (hxg : x ≠ g)
    (hown : w7.ownsRow base 25 5 (.slice A' (L.length + 1) cap') (L.length + 1) (L.flatMap Stm.cells ++ s.cells)) (hg : W5.grownBy w7 (Value.slice A L.length c).ownBlock)
    (hloc : (Value.slice A' (L.length + 1) cap').ownBlock = (Value.slice A L.length c).ownBlock ∨ (Value.slice A' (L.length + 1) cap').ownBlock = some W5.heap.size) :
    w7.cell? ⟨g, 66, none⟩ = some (.slice A L.length c) ∧ w7.frozen? ⟨g, 66, none⟩ = false ∧
    ∀ W8, W8 = w7.setCell ⟨g, 66, none⟩ (.slice A' (L.length + 1) cap') → RgB W8 g n bad (.map (some b)) (.slice A' (L.length + 1) cap') ∧ W8.ownsRow base 25 5 (.slice A' (L.length + 1) cap') (L.length + 1) ((L ++ [s]).flatMap Stm.cells) ∧
      W8.ownsMap Try.prog 25 (plainElem Try.prog 3) b L.length (dm L) ∧ Blk W8 x 25 bx ∧ KeptBut w2 W8 (Mine g b A) ∧ (A' = A ∨ ∃ i, A' = some ⟨i, 0, none⟩ ∧ w2.heap.size ≤ i) := by
  have hR5 := hR.below h5
  have hgr : some g ≠ (Value.slice A L.length c).ownBlock := blk_ne_row hR.blk.2 hR.row (by decide)
  have hB7 : RgB w7 g n bad (.map (some b)) (.slice A L.length c) := ⟨hR.blk.1, hR5.blk.2.grown hg hgr⟩
  refine ⟨hB7.call, hB7.free 66, fun W8 hW => ?_⟩
  subst hW
  have hgr2 : some g ≠ (Value.slice A' (L.length + 1) cap').ownBlock := blk_ne_row hB7.2 hown (by decide)
  have hm7 := hR5.mp.kept hg (map_ne_row hR.mp hR.row)
  have hbg := map_ne_blk hR.mp hR.blk.2
  have hx5 : Blk W5 x 25 bx := (h5.block x hx.lt).trans hx
  have hxr : some x ≠ (Value.slice A L.length c).ownBlock := by
    rcases hR.row.2 with ⟨e, _⟩ | ⟨g', cap, cur, e, _⟩
    · rw [e]; simp [Value.ownBlock]
    · injection e with e1 e2 e3
      subst e1
      simp only [Value.ownBlock, ne_eq, Option.some.injEq]
      rintro rfl
      exact hxA rfl
  refine ⟨⟨hR.blk.1, by have := hB7.2.set_ 66 (.slice A' (L.length + 1) cap'); rwa [rg_setall hR.blk.1] at this⟩, ?_, hm7.setCell hbg _, (hx5.grown hg hxr).far hxg _, ?_, ?_⟩
  · rw [List.flatMap_append, show [s].flatMap Stm.cells = s.cells from by simp]
    exact ownsRow_setCell_other hown (by intro e; exact hgr2 e.symm) _
  · refine ((KeptBut.of_below h5).trans (KeptBut.of_grown' (S := Mine g b A) hg ?_)).trans (KeptBut.of_grown (only_set (.refl _ _) _ _) (.inl rfl))
    intro i hi
    rcases hR.row.2 with ⟨e, _⟩ | ⟨g', cap, cur, e, _⟩
    · rw [e] at hi; simp [Value.ownBlock] at hi
    · injection e with e1 e2 e3
      subst e1
      simp only [Value.ownBlock, Option.some.injEq] at hi
      subst hi
      exact .inr (.inr rfl)
  · obtain ⟨g', cap2, e, _, _⟩ := hown.form (by omega)
    injection e with e1 _ _
    subst e1
    rcases hloc with h | h
    · rcases hR.row.2 with ⟨e, _⟩ | ⟨g2, cap3, cur, e, _⟩
      · rw [e] at h; simp [Value.ownBlock] at h
      · injection e with e1 _ _
        subst e1
        simp only [Value.ownBlock, Option.some.injEq] at h
        subst h
        exact .inl rfl
    · simp only [Value.ownBlock, Option.some.injEq] at h
      exact .inr ⟨g', rfl, by rw [h]; exact h5.size⟩

theorem say_done {base : Nat} {w w2 W8 w9 : World} {g b : Nat} {A A7 : Option Addr} {c c7 : Nat} {n : Int} {bad : List Bool} {L : List Stm} {s : Stm} (hR : RgIs base w g b A c n bad L) (hok : StmOk s) (hlen : ¬ 65536 ≤ L.length) (h2 : Below w.heap.size w w2)
    (k1 : RgB W8 g n bad (.map (some b)) (.slice A7 (L.length + 1) c7)) (k2 : W8.ownsRow base 25 5 (.slice A7 (L.length + 1) c7) (L.length + 1) ((L ++ [s]).flatMap Stm.cells))
    (k3 : W8.ownsMap Try.prog 25 (plainElem Try.prog 3) b L.length (dm L)) (k5 : KeptBut w2 W8 (Mine g b A)) (k6 : A7 = A ∨ ∃ i, A7 = some ⟨i, 0, none⟩ ∧ w2.heap.size ≤ i)
    (hm9 : w9.ownsMap Try.prog 25 (plainElem Try.prog 3) b (L.length + 1) ((dm L).put (kS s) (.lit (.int .i64 ((L.length : Int) + 1))))) (hg9 : W8.drew.grownBy w9 (some b)) :
    SayOut base w g b A n bad 0 (L ++ [s]) (.returned (.int .i64 0)) w9 := by
  have hlb : (L ++ [s]).length = L.length + 1 := by simp
  have hbg := map_ne_blk k3 k1.2
  refine ⟨rfl, A7, c7, ⟨?_, ?_, ?_, ?_, by omega, hR.n1, hR.n64, hR.hg, hR.hb⟩, ((KeptBut.of_below h2).trans k5).trans (KeptBut.of_grown (w := W8) ⟨hg9.os, hg9.tape, hg9.output, hg9.size, hg9.block⟩ (.inr (.inl rfl))), ?_⟩
  · rw [hlb]
    exact ⟨k1.1, Blk.grown (w := W8) k1.2 ⟨hg9.os, hg9.tape, hg9.output, hg9.size, hg9.block⟩ (by intro e; injection e with e; exact hbg e.symm)⟩
  · rw [hlb]
    refine World.ownsRow.kept (w := W8) k2 (row := some b) ⟨hg9.os, hg9.tape, hg9.output, hg9.size, hg9.block⟩ ?_
    right
    intro e; exact map_ne_row k3 k2 e.symm
  · rw [hlb, dm_snoc]; exact hm9
  · intro x hx
    rcases List.mem_append.1 hx with hx | hx
    · exact hR.ok x hx
    · rw [List.mem_singleton.1 hx]; exact hok
  · rcases k6 with e | ⟨i, e, hi⟩
    · exact .inl e
    · exact .inr ⟨i, e, Nat.le_trans h2.size hi⟩
theorem box_cells {w w2 : World} {f k v q t : Int} (hb2 : Below (w.alloc (.cells #[.int .i64 f, .int .i64 k, .int .i64 v, .int .i64 q, .int .i64 t] 25)).heap.size (w.alloc (.cells #[.int .i64 f, .int .i64 k, .int .i64 v, .int .i64 q, .int .i64 t] 25)) w2) :
    Blk w2 w.heap.size 25 #[.int .i64 f, .int .i64 k, .int .i64 v, .int .i64 q, .int .i64 t] ∧ w2.cell? ⟨w.heap.size, 0, none⟩ = some (.int .i64 f) ∧ w2.cell? ⟨w.heap.size, 1, none⟩ = some (.int .i64 k) ∧ w2.cell? ⟨w.heap.size, 2, none⟩ = some (.int .i64 v) ∧
    w2.cell? ⟨w.heap.size, 3, none⟩ = some (.int .i64 q) ∧ w2.cell? ⟨w.heap.size, 4, none⟩ = some (.int .i64 t) ∧ w.heap.size < w2.heap.size := by
  have h1 : Blk (w.alloc (.cells #[.int .i64 f, .int .i64 k, .int .i64 v, .int .i64 q, .int .i64 t] 25)) w.heap.size 25 #[.int .i64 f, .int .i64 k, .int .i64 v, .int .i64 q, .int .i64 t] := Blk.new w _ _
  have hX : Blk w2 w.heap.size 25 #[.int .i64 f, .int .i64 k, .int .i64 v, .int .i64 q, .int .i64 t] := (hb2.block w.heap.size h1.lt).trans h1
  exact ⟨hX, by rw [hX.cell]; rfl, by rw [hX.cell]; rfl, by rw [hX.cell]; rfl, by rw [hX.cell]; rfl, by rw [hX.cell]; rfl, hX.lt⟩

section
variable {base : Nat} {w : World} {g b : Nat} {A : Option Addr} {c : Nat} {n : Int} {bad : List Bool} {L : List Stm} {a f k v q t : Int}

set_option maxHeartbeats 2000000 in
theorem say_no (hR : RgIs base w g b A c n bad L) (h : (decide (0 ≤ a) && decide (a < n)) = false) : Says base w g b A n bad L a ⟨f, k, v, q, t⟩ := by
  have hR1 := hR.below (gr1 w (.cells #[.int .i64 f, .int .i64 k, .int .i64 v, .int .i64 q, .int .i64 t] 25))
  have HRg := hide hR; have HR1 := hide hR1
  have his := is_any g n bad (.map (some b)) (.slice A L.length c) a (w.alloc (.cells #[.int .i64 f, .int .i64 k, .int .i64 v, .int .i64 q, .int .i64 t] 25)) hR1.blk
  have HE := hide (show sayE n bad L a ⟨f, k, v, q, t⟩ = 4 from by unfold sayE; rw [h]; rfl)
  have HL := hide (show sayL n bad L a ⟨f, k, v, q, t⟩ = L from by unfold sayL; rw [h]; rfl)
  rw [h] at his
  have HIS := hide his
  unfold Says
  rw [HE.out, HL.out]
  clear his h hR hR1
  go_enter Try.func8, Try.ntmps8
  go_wp2_with (go_at_call 21; refine HIS.out.mono ?_; rintro e w' ⟨rfl, rfl⟩)
  go_ret
  exact sayOut_same HRg.out (gr1 _ _)
set_option maxHeartbeats 2000000 in
theorem say_forged1 (hR : RgIs base w g b A c n bad L) (h : (decide (0 ≤ a) && decide (a < n)) = true) (hne : f ≠ a) (h1 : badB n bad a = false) : Says base w g b A n bad L a ⟨f, k, v, q, t⟩ := by
  have hR1 := hR.below (gr1 w (.cells #[.int .i64 f, .int .i64 k, .int .i64 v, .int .i64 q, .int .i64 t] 25))
  have HRg := hide hR; have HR1 := hide hR1
  have his := is_any g n bad (.map (some b)) (.slice A L.length c) a (w.alloc (.cells #[.int .i64 f, .int .i64 k, .int .i64 v, .int .i64 q, .int .i64 t] 25)) hR1.blk
  have hb1 := bad_any g n bad (.map (some b)) (.slice A L.length c) a (w.alloc (.cells #[.int .i64 f, .int .i64 k, .int .i64 v, .int .i64 q, .int .i64 t] 25)) hR1.blk hR1.n64
  have hb2 := bad_any g n bad (.map (some b)) (.slice A L.length c) f (w.alloc (.cells #[.int .i64 f, .int .i64 k, .int .i64 v, .int .i64 q, .int .i64 t] 25)) hR1.blk hR1.n64
  have hcond : f ≠ a ∧ ¬ (badB n bad a = true ∧ badB n bad f = true) := ⟨hne, by rw [h1]; simp⟩
  have HE := hide (show sayE n bad L a ⟨f, k, v, q, t⟩ = 19 from by unfold sayE; rw [h]; exact if_pos hcond)
  have HL := hide (show sayL n bad L a ⟨f, k, v, q, t⟩ = L from by unfold sayL; rw [h]; exact if_pos hcond)
  have hne' : (f != a) = true := by rw [bne_iff_ne]; exact hne
  rw [h] at his
  rw [h1] at hb1
  have HIS := hide his; have HB1 := hide hb1; have HB2 := hide hb2
  unfold Says
  rw [HE.out, HL.out]
  clear his hb1 hb2 h hR hR1 hcond hne
  go_enter Try.func8, Try.ntmps8
  go_wp2_with (first
    | (go_at_call_of 14 (Value.int .i64 f); refine HB2.out.mono ?_; rintro e w' ⟨rfl, rfl⟩)
    | (go_at_call_of 14 (Value.int .i64 a); refine HB1.out.mono ?_; rintro e w' ⟨rfl, rfl⟩)
    | (go_at_call 21; refine HIS.out.mono ?_; rintro e w' ⟨rfl, rfl⟩))
  go_ret
  exact sayOut_same HRg.out (gr1 _ _)
set_option maxHeartbeats 2000000 in
theorem say_forged2 (hR : RgIs base w g b A c n bad L) (h : (decide (0 ≤ a) && decide (a < n)) = true) (hne : f ≠ a) (h1 : badB n bad a = true) (h2 : badB n bad f = false) : Says base w g b A n bad L a ⟨f, k, v, q, t⟩ := by
  have hR1 := hR.below (gr1 w (.cells #[.int .i64 f, .int .i64 k, .int .i64 v, .int .i64 q, .int .i64 t] 25))
  have HRg := hide hR; have HR1 := hide hR1
  have his := is_any g n bad (.map (some b)) (.slice A L.length c) a (w.alloc (.cells #[.int .i64 f, .int .i64 k, .int .i64 v, .int .i64 q, .int .i64 t] 25)) hR1.blk
  have hb1 := bad_any g n bad (.map (some b)) (.slice A L.length c) a (w.alloc (.cells #[.int .i64 f, .int .i64 k, .int .i64 v, .int .i64 q, .int .i64 t] 25)) hR1.blk hR1.n64
  have hb2 := bad_any g n bad (.map (some b)) (.slice A L.length c) f (w.alloc (.cells #[.int .i64 f, .int .i64 k, .int .i64 v, .int .i64 q, .int .i64 t] 25)) hR1.blk hR1.n64
  have hcond : f ≠ a ∧ ¬ (badB n bad a = true ∧ badB n bad f = true) := ⟨hne, by rw [h1, h2]; simp⟩
  have HE := hide (show sayE n bad L a ⟨f, k, v, q, t⟩ = 19 from by unfold sayE; rw [h]; exact if_pos hcond)
  have HL := hide (show sayL n bad L a ⟨f, k, v, q, t⟩ = L from by unfold sayL; rw [h]; exact if_pos hcond)
  have hne' : (f != a) = true := by rw [bne_iff_ne]; exact hne
  rw [h] at his
  rw [h1] at hb1
  rw [h2] at hb2
  have HIS := hide his; have HB1 := hide hb1; have HB2 := hide hb2
  unfold Says
  rw [HE.out, HL.out]
  clear his hb1 hb2 h hR hR1 hcond hne
  go_enter Try.func8, Try.ntmps8
  go_wp2_with (first
    | (go_at_call_of 14 (Value.int .i64 f); refine HB2.out.mono ?_; rintro e w' ⟨rfl, rfl⟩)
    | (go_at_call_of 14 (Value.int .i64 a); refine HB1.out.mono ?_; rintro e w' ⟨rfl, rfl⟩)
    | (go_at_call 21; refine HIS.out.mono ?_; rintro e w' ⟨rfl, rfl⟩))
  go_ret
  exact sayOut_same HRg.out (gr1 _ _)
set_option maxHeartbeats 2000000 in
theorem say_has_e (hR : RgIs base w g b A c n bad L) (h : (decide (0 ≤ a) && decide (a < n)) = true) (hok : StmOk ⟨f, k, v, q, t⟩) (hne : f = a) (hin : (⟨f, k, v, q, t⟩ : Stm) ∈ L) : Says base w g b A n bad L a ⟨f, k, v, q, t⟩ := by
  have hR1 := hR.below (gr1 w (.cells #[.int .i64 f, .int .i64 k, .int .i64 v, .int .i64 q, .int .i64 t] 25))
  have HRg := hide hR; have HR1 := hide hR1
  have his := is_any g n bad (.map (some b)) (.slice A L.length c) a (w.alloc (.cells #[.int .i64 f, .int .i64 k, .int .i64 v, .int .i64 q, .int .i64 t] 25)) hR1.blk
  have hb1 := bad_any g n bad (.map (some b)) (.slice A L.length c) a (w.alloc (.cells #[.int .i64 f, .int .i64 k, .int .i64 v, .int .i64 q, .int .i64 t] 25)) hR1.blk hR1.n64
  have hb2 := bad_any g n bad (.map (some b)) (.slice A L.length c) f (w.alloc (.cells #[.int .i64 f, .int .i64 k, .int .i64 v, .int .i64 q, .int .i64 t] 25)) hR1.blk hR1.n64
  have hcond : ¬ (f ≠ a ∧ ¬ (badB n bad a = true ∧ badB n bad f = true)) := by first | exact fun hh => hh.1 hne | exact fun hh => hh.2 ⟨h1, h2⟩
  have HE := hide (show sayE n bad L a ⟨f, k, v, q, t⟩ = 0 from by unfold sayE; rw [h]; exact (if_neg hcond).trans (if_pos hin))
  have HL := hide (show sayL n bad L a ⟨f, k, v, q, t⟩ = L from by unfold sayL; rw [h]; exact (if_neg hcond).trans (if_pos hin))
  have hne' : (f != a) = false := by rw [hne]; simp
  rw [h] at his
  have hhas := has_any hR1 hok
  rw [decide_eq_true hin] at hhas
  have HIS := hide his; have HB1 := hide hb1; have HB2 := hide hb2; have HHAS := hide hhas
  unfold Says
  rw [HE.out, HL.out]
  clear his hb1 hb2 h hR hR1 hcond hne hin hhas hok
  go_enter Try.func8, Try.ntmps8
  go_wp2_with (first
    | (go_at_call 15; refine HHAS.out.mono ?_; rintro e w2 ⟨rfl, hb2⟩; have c66 := (HR1.out.below hb2).blk.call; have hgl := (HR1.out.below hb2).blk.lt; obtain ⟨hX2, x0, x1, x2, x3, x4, hz2⟩ := box_cells hb2; have HX2 := hide hX2; clear hX2)
    | (go_at_call 21; refine HIS.out.mono ?_; rintro e w' ⟨rfl, rfl⟩))
  go_ret
  exact sayOut_same HRg.out (below_trans (gr1 _ _) hb2)
set_option maxHeartbeats 2000000 in
theorem say_full_e (hR : RgIs base w g b A c n bad L) (h : (decide (0 ≤ a) && decide (a < n)) = true) (hok : StmOk ⟨f, k, v, q, t⟩) (hne : f = a) (hin : ¬ (⟨f, k, v, q, t⟩ : Stm) ∈ L) (hfull : 65536 ≤ L.length) : Says base w g b A n bad L a ⟨f, k, v, q, t⟩ := by
  have hR1 := hR.below (gr1 w (.cells #[.int .i64 f, .int .i64 k, .int .i64 v, .int .i64 q, .int .i64 t] 25))
  have HRg := hide hR; have HR1 := hide hR1
  have his := is_any g n bad (.map (some b)) (.slice A L.length c) a (w.alloc (.cells #[.int .i64 f, .int .i64 k, .int .i64 v, .int .i64 q, .int .i64 t] 25)) hR1.blk
  have hb1 := bad_any g n bad (.map (some b)) (.slice A L.length c) a (w.alloc (.cells #[.int .i64 f, .int .i64 k, .int .i64 v, .int .i64 q, .int .i64 t] 25)) hR1.blk hR1.n64
  have hb2 := bad_any g n bad (.map (some b)) (.slice A L.length c) f (w.alloc (.cells #[.int .i64 f, .int .i64 k, .int .i64 v, .int .i64 q, .int .i64 t] 25)) hR1.blk hR1.n64
  have hcond : ¬ (f ≠ a ∧ ¬ (badB n bad a = true ∧ badB n bad f = true)) := by first | exact fun hh => hh.1 hne | exact fun hh => hh.2 ⟨h1, h2⟩
  have HE := hide (show sayE n bad L a ⟨f, k, v, q, t⟩ = 5 from by unfold sayE; rw [h]; exact (if_neg hcond).trans ((if_neg hin).trans (if_pos hfull)))
  have HL := hide (show sayL n bad L a ⟨f, k, v, q, t⟩ = L from by unfold sayL; rw [h]; exact (if_neg hcond).trans ((if_neg hin).trans (if_pos hfull)))
  have hne' : (f != a) = false := by rw [hne]; simp
  rw [h] at his
  have hhas := has_any hR1 hok
  have hlen := hR.len
  have hfull' : (65536 : Int) ≤ L.length := by omega
  rw [decide_eq_false hin] at hhas
  have HIS := hide his; have HB1 := hide hb1; have HB2 := hide hb2; have HHAS := hide hhas
  unfold Says
  rw [HE.out, HL.out]
  clear his hb1 hb2 h hR hR1 hcond hne hin hhas hok hfull
  go_enter Try.func8, Try.ntmps8
  go_wp2_with (first
    | (go_at_call 15; refine HHAS.out.mono ?_; rintro e w2 ⟨rfl, hb2⟩; have c66 := (HR1.out.below hb2).blk.call; have hgl := (HR1.out.below hb2).blk.lt; obtain ⟨hX2, x0, x1, x2, x3, x4, hz2⟩ := box_cells hb2; have HX2 := hide hX2; clear hX2)
    | (go_at_call 21; refine HIS.out.mono ?_; rintro e w' ⟨rfl, rfl⟩))
  go_ret
  exact sayOut_same HRg.out (below_trans (gr1 _ _) hb2)
set_option maxHeartbeats 2000000 in
theorem say_new_e (hR : RgIs base w g b A c n bad L) (h : (decide (0 ≤ a) && decide (a < n)) = true) (hok : StmOk ⟨f, k, v, q, t⟩) (hne : f = a) (hin : ¬ (⟨f, k, v, q, t⟩ : Stm) ∈ L) (hfull : ¬ 65536 ≤ L.length) : Says base w g b A n bad L a ⟨f, k, v, q, t⟩ := by
  have hR1 := hR.below (gr1 w (.cells #[.int .i64 f, .int .i64 k, .int .i64 v, .int .i64 q, .int .i64 t] 25))
  have HRg := hide hR; have HR1 := hide hR1
  have his := is_any g n bad (.map (some b)) (.slice A L.length c) a (w.alloc (.cells #[.int .i64 f, .int .i64 k, .int .i64 v, .int .i64 q, .int .i64 t] 25)) hR1.blk
  have hb1 := bad_any g n bad (.map (some b)) (.slice A L.length c) a (w.alloc (.cells #[.int .i64 f, .int .i64 k, .int .i64 v, .int .i64 q, .int .i64 t] 25)) hR1.blk hR1.n64
  have hb2 := bad_any g n bad (.map (some b)) (.slice A L.length c) f (w.alloc (.cells #[.int .i64 f, .int .i64 k, .int .i64 v, .int .i64 q, .int .i64 t] 25)) hR1.blk hR1.n64
  have hcond : ¬ (f ≠ a ∧ ¬ (badB n bad a = true ∧ badB n bad f = true)) := by first | exact fun hh => hh.1 hne | exact fun hh => hh.2 ⟨h1, h2⟩
  have HE := hide (show sayE n bad L a ⟨f, k, v, q, t⟩ = 0 from by unfold sayE; rw [h]; exact (if_neg hcond).trans ((if_neg hin).trans (if_neg hfull)))
  have HL := hide (show sayL n bad L a ⟨f, k, v, q, t⟩ = L ++ [⟨f, k, v, q, t⟩] from by unfold sayL; rw [h]; exact (if_neg hcond).trans ((if_neg hin).trans (if_neg hfull)))
  have hne' : (f != a) = false := by rw [hne]; simp
  rw [h] at his
  have hhas := has_any hR1 hok
  have hlen := hR.len
  have hfull' : ¬ (65536 : Int) ≤ L.length := by omega
  have hfd : decide ((65536 : Int) ≤ L.length) = false := decide_eq_false hfull'
  have HFL := hide (And.intro hlen hfull)
  obtain ⟨N, hN⟩ : ∃ N, N = L.length := ⟨_, rfl⟩
  rw [decide_eq_false hin] at hhas
  have HIS := hide his; have HB1 := hide hb1; have HB2 := hide hb2; have HHAS := hide hhas; have HOK := hide hok
  unfold Says
  rw [HE.out, HL.out]
  clear his hb1 hb2 h hR hR1 hcond hne hin hhas hok hfull
  have HXG := hide (show w.heap.size ≠ g from by have := HRg.out.blk.lt; omega)
  have HXA := hide (show A ≠ some ⟨w.heap.size, 0, none⟩ from row_ne HRg.out.row)
  clear hlen
  go_enter Try.func8, Try.ntmps8
  go_upto_region 9 with (first
    | (go_at_call 15; refine HHAS.out.mono ?_; rintro e w2 ⟨rfl, hb2⟩; have c66 := (HR1.out.below hb2).blk.call; have hgl := (HR1.out.below hb2).blk.lt; obtain ⟨hX2, x0, x1, x2, x3, x4, hz2⟩ := box_cells hb2; have HX2 := hide hX2; clear hX2)
    | (go_at_call 21; refine HIS.out.mono ?_; rintro e w' ⟨rfl, rfl⟩))
  have HR2 := hide (HR1.out.below hb2)
  have HH2 := hide hb2
  go_region_law
    (first
      | (refine step_appAt _ rfl (.tmp 44) (.tmp 46) _ (by rfl) base 25 _ 5 40 Try.underlying23 info_stm rfl (by omega) (by omega) _ L.length (L.flatMap Stm.cells) (by rfl) ((HR2.out.row.alloc _).drew) w2.heap.size 1 1 [.int .i64 f, .int .i64 k, .int .i64 v, .int .i64 q, .int .i64 t] (by rfl) ((rd_new5 w2 w2.heap.size 25 #[.int .i64 f, .int .i64 k, .int .i64 v, .int .i64 q, .int .i64 t] rfl rfl).drew) (by omega) (by intro u hu; simp at hu; rcases hu with rfl | rfl | rfl | rfl | rfl <;> rfl) (by omega) (by have := HR2.out.hg; have := HR2.out.blk.lt; simp; omega) ?_; intro A7 c7 w7 hown7 hg7 hloc7; obtain ⟨hq1, hq2, hq3⟩ := say_app (s := ⟨f, k, v, q, t⟩) HR2.out ((gr1 w2 (.cells #[.int .i64 f, .int .i64 k, .int .i64 v, .int .i64 q, .int .i64 t] 25)).drew) HX2.out HXA.out HXG.out hown7 hg7 hloc7; have HQ3 := hide hq3; clear hown7 hg7 hloc7 hq3))
  all_goals
    generalize hW8 : w7.setCell ⟨g, 66, none⟩ (.slice A7 (L.length + 1) c7) = W8
    obtain ⟨k1, k2, k3, k4, k5, k6⟩ := HQ3.out W8 hW8.symm
    have hwf : (Lit.int .i64 ((L.length : Int) + 1)).wf = true := wf64 (by unfold I64; have := HFL.out.1; omega)
    obtain ⟨w9, hup, hm9, hg9⟩ := (World.ownsMap.drew k3).update lawS Try.underlying53 (by unfold maxLen; have := HFL.out.1; omega) (key_ok HOK.out) (plainElem_int Try.underlying3 hwf)
    have HDN := hide (say_done HRg.out HOK.out HFL.out.2 (below_trans (gr1 _ _) HH2.out) k1 k2 k3 k5 k6 hm9 hg9)
    have e66 := k1.call; have e65 := k1.cmap
    have y0 : W8.cell? ⟨w.heap.size, 0, none⟩ = some (.int .i64 f) := by rw [k4.cell]; rfl
    have y1 : W8.cell? ⟨w.heap.size, 1, none⟩ = some (.int .i64 k) := by rw [k4.cell]; rfl
    have y2 : W8.cell? ⟨w.heap.size, 2, none⟩ = some (.int .i64 v) := by rw [k4.cell]; rfl
    have y3 : W8.cell? ⟨w.heap.size, 3, none⟩ = some (.int .i64 q) := by rw [k4.cell]; rfl
    have y4 : W8.cell? ⟨w.heap.size, 4, none⟩ = some (.int .i64 t) := by rw [k4.cell]; rfl
    clear hW8 k1 k2 k3 k4 k5 k6 hm9 hg9 hwf hq1 hq2 HQ3 c66 x0 x1 x2 x3 x4 hgl hz2 hb2
    go_wp2_with fail
    go_region_law (fail)
    all_goals go_wp2_with fail
    all_goals go_ret
    all_goals exact HDN.out
set_option maxHeartbeats 2000000 in
theorem say_has_b (hR : RgIs base w g b A c n bad L) (h : (decide (0 ≤ a) && decide (a < n)) = true) (hok : StmOk ⟨f, k, v, q, t⟩) (hne : f ≠ a) (h1 : badB n bad a = true) (h2 : badB n bad f = true) (hin : (⟨f, k, v, q, t⟩ : Stm) ∈ L) : Says base w g b A n bad L a ⟨f, k, v, q, t⟩ := by
  have hR1 := hR.below (gr1 w (.cells #[.int .i64 f, .int .i64 k, .int .i64 v, .int .i64 q, .int .i64 t] 25))
  have HRg := hide hR; have HR1 := hide hR1
  have his := is_any g n bad (.map (some b)) (.slice A L.length c) a (w.alloc (.cells #[.int .i64 f, .int .i64 k, .int .i64 v, .int .i64 q, .int .i64 t] 25)) hR1.blk
  have hb1 := bad_any g n bad (.map (some b)) (.slice A L.length c) a (w.alloc (.cells #[.int .i64 f, .int .i64 k, .int .i64 v, .int .i64 q, .int .i64 t] 25)) hR1.blk hR1.n64
  have hb2 := bad_any g n bad (.map (some b)) (.slice A L.length c) f (w.alloc (.cells #[.int .i64 f, .int .i64 k, .int .i64 v, .int .i64 q, .int .i64 t] 25)) hR1.blk hR1.n64
  have hcond : ¬ (f ≠ a ∧ ¬ (badB n bad a = true ∧ badB n bad f = true)) := by first | exact fun hh => hh.1 hne | exact fun hh => hh.2 ⟨h1, h2⟩
  have HE := hide (show sayE n bad L a ⟨f, k, v, q, t⟩ = 0 from by unfold sayE; rw [h]; exact (if_neg hcond).trans (if_pos hin))
  have HL := hide (show sayL n bad L a ⟨f, k, v, q, t⟩ = L from by unfold sayL; rw [h]; exact (if_neg hcond).trans (if_pos hin))
  have hne' : (f != a) = true := by rw [bne_iff_ne]; exact hne
  rw [h1] at hb1
  rw [h2] at hb2
  rw [h] at his
  have hhas := has_any hR1 hok
  rw [decide_eq_true hin] at hhas
  have HIS := hide his; have HB1 := hide hb1; have HB2 := hide hb2; have HHAS := hide hhas
  unfold Says
  rw [HE.out, HL.out]
  clear his hb1 hb2 h hR hR1 hcond hne hin hhas hok
  go_enter Try.func8, Try.ntmps8
  go_wp2_with (first
    | (go_at_call 15; refine HHAS.out.mono ?_; rintro e w2 ⟨rfl, hb2⟩; have c66 := (HR1.out.below hb2).blk.call; have hgl := (HR1.out.below hb2).blk.lt; obtain ⟨hX2, x0, x1, x2, x3, x4, hz2⟩ := box_cells hb2; have HX2 := hide hX2; clear hX2)
    | (go_at_call_of 14 (Value.int .i64 f); refine HB2.out.mono ?_; rintro e w' ⟨rfl, rfl⟩)
    | (go_at_call_of 14 (Value.int .i64 a); refine HB1.out.mono ?_; rintro e w' ⟨rfl, rfl⟩)
    | (go_at_call 21; refine HIS.out.mono ?_; rintro e w' ⟨rfl, rfl⟩))
  go_ret
  exact sayOut_same HRg.out (below_trans (gr1 _ _) hb2)
set_option maxHeartbeats 2000000 in
theorem say_full_b (hR : RgIs base w g b A c n bad L) (h : (decide (0 ≤ a) && decide (a < n)) = true) (hok : StmOk ⟨f, k, v, q, t⟩) (hne : f ≠ a) (h1 : badB n bad a = true) (h2 : badB n bad f = true) (hin : ¬ (⟨f, k, v, q, t⟩ : Stm) ∈ L) (hfull : 65536 ≤ L.length) : Says base w g b A n bad L a ⟨f, k, v, q, t⟩ := by
  have hR1 := hR.below (gr1 w (.cells #[.int .i64 f, .int .i64 k, .int .i64 v, .int .i64 q, .int .i64 t] 25))
  have HRg := hide hR; have HR1 := hide hR1
  have his := is_any g n bad (.map (some b)) (.slice A L.length c) a (w.alloc (.cells #[.int .i64 f, .int .i64 k, .int .i64 v, .int .i64 q, .int .i64 t] 25)) hR1.blk
  have hb1 := bad_any g n bad (.map (some b)) (.slice A L.length c) a (w.alloc (.cells #[.int .i64 f, .int .i64 k, .int .i64 v, .int .i64 q, .int .i64 t] 25)) hR1.blk hR1.n64
  have hb2 := bad_any g n bad (.map (some b)) (.slice A L.length c) f (w.alloc (.cells #[.int .i64 f, .int .i64 k, .int .i64 v, .int .i64 q, .int .i64 t] 25)) hR1.blk hR1.n64
  have hcond : ¬ (f ≠ a ∧ ¬ (badB n bad a = true ∧ badB n bad f = true)) := by first | exact fun hh => hh.1 hne | exact fun hh => hh.2 ⟨h1, h2⟩
  have HE := hide (show sayE n bad L a ⟨f, k, v, q, t⟩ = 5 from by unfold sayE; rw [h]; exact (if_neg hcond).trans ((if_neg hin).trans (if_pos hfull)))
  have HL := hide (show sayL n bad L a ⟨f, k, v, q, t⟩ = L from by unfold sayL; rw [h]; exact (if_neg hcond).trans ((if_neg hin).trans (if_pos hfull)))
  have hne' : (f != a) = true := by rw [bne_iff_ne]; exact hne
  rw [h1] at hb1
  rw [h2] at hb2
  rw [h] at his
  have hhas := has_any hR1 hok
  have hlen := hR.len
  have hfull' : (65536 : Int) ≤ L.length := by omega
  rw [decide_eq_false hin] at hhas
  have HIS := hide his; have HB1 := hide hb1; have HB2 := hide hb2; have HHAS := hide hhas
  unfold Says
  rw [HE.out, HL.out]
  clear his hb1 hb2 h hR hR1 hcond hne hin hhas hok hfull
  go_enter Try.func8, Try.ntmps8
  go_wp2_with (first
    | (go_at_call 15; refine HHAS.out.mono ?_; rintro e w2 ⟨rfl, hb2⟩; have c66 := (HR1.out.below hb2).blk.call; have hgl := (HR1.out.below hb2).blk.lt; obtain ⟨hX2, x0, x1, x2, x3, x4, hz2⟩ := box_cells hb2; have HX2 := hide hX2; clear hX2)
    | (go_at_call_of 14 (Value.int .i64 f); refine HB2.out.mono ?_; rintro e w' ⟨rfl, rfl⟩)
    | (go_at_call_of 14 (Value.int .i64 a); refine HB1.out.mono ?_; rintro e w' ⟨rfl, rfl⟩)
    | (go_at_call 21; refine HIS.out.mono ?_; rintro e w' ⟨rfl, rfl⟩))
  go_ret
  exact sayOut_same HRg.out (below_trans (gr1 _ _) hb2)
set_option maxHeartbeats 2000000 in
theorem say_new_b (hR : RgIs base w g b A c n bad L) (h : (decide (0 ≤ a) && decide (a < n)) = true) (hok : StmOk ⟨f, k, v, q, t⟩) (hne : f ≠ a) (h1 : badB n bad a = true) (h2 : badB n bad f = true) (hin : ¬ (⟨f, k, v, q, t⟩ : Stm) ∈ L) (hfull : ¬ 65536 ≤ L.length) : Says base w g b A n bad L a ⟨f, k, v, q, t⟩ := by
  have hR1 := hR.below (gr1 w (.cells #[.int .i64 f, .int .i64 k, .int .i64 v, .int .i64 q, .int .i64 t] 25))
  have HRg := hide hR; have HR1 := hide hR1
  have his := is_any g n bad (.map (some b)) (.slice A L.length c) a (w.alloc (.cells #[.int .i64 f, .int .i64 k, .int .i64 v, .int .i64 q, .int .i64 t] 25)) hR1.blk
  have hb1 := bad_any g n bad (.map (some b)) (.slice A L.length c) a (w.alloc (.cells #[.int .i64 f, .int .i64 k, .int .i64 v, .int .i64 q, .int .i64 t] 25)) hR1.blk hR1.n64
  have hb2 := bad_any g n bad (.map (some b)) (.slice A L.length c) f (w.alloc (.cells #[.int .i64 f, .int .i64 k, .int .i64 v, .int .i64 q, .int .i64 t] 25)) hR1.blk hR1.n64
  have hcond : ¬ (f ≠ a ∧ ¬ (badB n bad a = true ∧ badB n bad f = true)) := by first | exact fun hh => hh.1 hne | exact fun hh => hh.2 ⟨h1, h2⟩
  have HE := hide (show sayE n bad L a ⟨f, k, v, q, t⟩ = 0 from by unfold sayE; rw [h]; exact (if_neg hcond).trans ((if_neg hin).trans (if_neg hfull)))
  have HL := hide (show sayL n bad L a ⟨f, k, v, q, t⟩ = L ++ [⟨f, k, v, q, t⟩] from by unfold sayL; rw [h]; exact (if_neg hcond).trans ((if_neg hin).trans (if_neg hfull)))
  have hne' : (f != a) = true := by rw [bne_iff_ne]; exact hne
  rw [h1] at hb1
  rw [h2] at hb2
  rw [h] at his
  have hhas := has_any hR1 hok
  have hlen := hR.len
  have hfull' : ¬ (65536 : Int) ≤ L.length := by omega
  have hfd : decide ((65536 : Int) ≤ L.length) = false := decide_eq_false hfull'
  have HFL := hide (And.intro hlen hfull)
  obtain ⟨N, hN⟩ : ∃ N, N = L.length := ⟨_, rfl⟩
  rw [decide_eq_false hin] at hhas
  have HIS := hide his; have HB1 := hide hb1; have HB2 := hide hb2; have HHAS := hide hhas; have HOK := hide hok
  unfold Says
  rw [HE.out, HL.out]
  clear his hb1 hb2 h hR hR1 hcond hne hin hhas hok hfull
  have HXG := hide (show w.heap.size ≠ g from by have := HRg.out.blk.lt; omega)
  have HXA := hide (show A ≠ some ⟨w.heap.size, 0, none⟩ from row_ne HRg.out.row)
  clear hlen
  go_enter Try.func8, Try.ntmps8
  go_upto_region 9 with (first
    | (go_at_call 15; refine HHAS.out.mono ?_; rintro e w2 ⟨rfl, hb2⟩; have c66 := (HR1.out.below hb2).blk.call; have hgl := (HR1.out.below hb2).blk.lt; obtain ⟨hX2, x0, x1, x2, x3, x4, hz2⟩ := box_cells hb2; have HX2 := hide hX2; clear hX2)
    | (go_at_call_of 14 (Value.int .i64 f); refine HB2.out.mono ?_; rintro e w' ⟨rfl, rfl⟩)
    | (go_at_call_of 14 (Value.int .i64 a); refine HB1.out.mono ?_; rintro e w' ⟨rfl, rfl⟩)
    | (go_at_call 21; refine HIS.out.mono ?_; rintro e w' ⟨rfl, rfl⟩))
  have HR2 := hide (HR1.out.below hb2)
  have HH2 := hide hb2
  go_region_law
    (first
      | (refine step_appAt _ rfl (.tmp 44) (.tmp 46) _ (by rfl) base 25 _ 5 40 Try.underlying23 info_stm rfl (by omega) (by omega) _ L.length (L.flatMap Stm.cells) (by rfl) ((HR2.out.row.alloc _).drew) w2.heap.size 1 1 [.int .i64 f, .int .i64 k, .int .i64 v, .int .i64 q, .int .i64 t] (by rfl) ((rd_new5 w2 w2.heap.size 25 #[.int .i64 f, .int .i64 k, .int .i64 v, .int .i64 q, .int .i64 t] rfl rfl).drew) (by omega) (by intro u hu; simp at hu; rcases hu with rfl | rfl | rfl | rfl | rfl <;> rfl) (by omega) (by have := HR2.out.hg; have := HR2.out.blk.lt; simp; omega) ?_; intro A7 c7 w7 hown7 hg7 hloc7; obtain ⟨hq1, hq2, hq3⟩ := say_app (s := ⟨f, k, v, q, t⟩) HR2.out ((gr1 w2 (.cells #[.int .i64 f, .int .i64 k, .int .i64 v, .int .i64 q, .int .i64 t] 25)).drew) HX2.out HXA.out HXG.out hown7 hg7 hloc7; have HQ3 := hide hq3; clear hown7 hg7 hloc7 hq3))
  all_goals
    generalize hW8 : w7.setCell ⟨g, 66, none⟩ (.slice A7 (L.length + 1) c7) = W8
    obtain ⟨k1, k2, k3, k4, k5, k6⟩ := HQ3.out W8 hW8.symm
    have hwf : (Lit.int .i64 ((L.length : Int) + 1)).wf = true := wf64 (by unfold I64; have := HFL.out.1; omega)
    obtain ⟨w9, hup, hm9, hg9⟩ := (World.ownsMap.drew k3).update lawS Try.underlying53 (by unfold maxLen; have := HFL.out.1; omega) (key_ok HOK.out) (plainElem_int Try.underlying3 hwf)
    have HDN := hide (say_done HRg.out HOK.out HFL.out.2 (below_trans (gr1 _ _) HH2.out) k1 k2 k3 k5 k6 hm9 hg9)
    have e66 := k1.call; have e65 := k1.cmap
    have y0 : W8.cell? ⟨w.heap.size, 0, none⟩ = some (.int .i64 f) := by rw [k4.cell]; rfl
    have y1 : W8.cell? ⟨w.heap.size, 1, none⟩ = some (.int .i64 k) := by rw [k4.cell]; rfl
    have y2 : W8.cell? ⟨w.heap.size, 2, none⟩ = some (.int .i64 v) := by rw [k4.cell]; rfl
    have y3 : W8.cell? ⟨w.heap.size, 3, none⟩ = some (.int .i64 q) := by rw [k4.cell]; rfl
    have y4 : W8.cell? ⟨w.heap.size, 4, none⟩ = some (.int .i64 t) := by rw [k4.cell]; rfl
    clear hW8 k1 k2 k3 k4 k5 k6 hm9 hg9 hwf hq1 hq2 HQ3 c66 x0 x1 x2 x3 x4 hgl hz2 hb2
    go_wp2_with fail
    go_region_law (fail)
    all_goals go_wp2_with fail
    all_goals go_ret
    all_goals exact HDN.out
end
end Go.Proofs.Ytllfdnfiicnmiaa
