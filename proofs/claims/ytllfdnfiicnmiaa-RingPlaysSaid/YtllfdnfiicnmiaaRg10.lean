/-
  The walk of Voices.
-/
import Derived.Test.YtllfdnfiicnmiaaRg9
namespace Go.Proofs.Ytllfdnfiicnmiaa
open Go.RowKit
set_option maxRecDepth 100000
set_option linter.unusedSimpArgs false
set_option linter.unusedVariables false

/-- append of one element: it has just been laid in a block of its own. -/
theorem wpList_appE {P : Program} (w : World) {ops : Array Oper} {rest : List Oper} {o : Oper} {a : Act} {Q : Exit → Act → World → Prop} (hgd : o.guard = none) (s x : Operand) (t : TypeId)
    (ho : o.op = .call { callee := .builtin .append, args := #[s, x], argTypes := #[t, t] })
    (w0 : World) (base : Nat) (e te : TypeId) (z : Value) (size bytes : Nat) (ht : P.underlying t = some (.slice e)) (hi : (P.info? e).map (fun i => (i.zero, i.size, i.bytes)) = some (some z, size, bytes))
    (hzs : z.cells.size = size) (hsz : 0 < size) (hby : bytes ≤ 4096)
    (v : Value) (n : Nat) (xs : List Value) (cs : Array Value) (hs : a.eval s = v) (H : Nat) (hH : w.heap.size = H) (hx : a.eval x = .slice (some ⟨H, 0, none⟩) 1 1) (hcs : cs.size = size) (h1 : ∀ u ∈ cs.toList, u.oneCell' = true)
    (hown : w.ownsRow base e size v n xs) (hbel : Below base w0 w) (hbase : base ≤ w.heap.size) (hroom : n + 1 ≤ 34359738368)
    (h : ∀ g cap w', w'.ownsRow base e size (.slice (some ⟨g, 0, none⟩) (n + 1) cap) (n + 1) (xs ++ cs.toList) → Below base w0 w' → wpList P ops Q rest (a.put o.dst (.slice (some ⟨g, 0, none⟩) (n + 1) cap)) w') :
    wpList P ops Q (o :: rest) a (w.alloc (.cells cs te)) := by
  subst hH
  refine wpList_app (w.alloc (.cells cs te)) hgd s x t ho w0 base e z size bytes ht hi hzs hsz hby v n xs hs (hown.alloc _) (hbel.alloc hbase _) ⟨w.heap.size, 0, none⟩ 1 1 cs.toList hx (by simp [hcs]) (fun j u hj => ?_)
    h1 (by omega) hroom (by simp; omega) ?_
  · rw [show (⟨w.heap.size, 0, none⟩ : Addr).add j = ⟨w.heap.size, j, none⟩ from by unfold Addr.add; split <;> simp_all, (Blk.new w te cs).cell]
    simpa using hj
  intro g cap w' hown' hb' _
  exact h g cap w' hown' hb'

/-- who spoke, in order -/
def spokeL (sp : Nat → Bool) (m : Nat) : List Int := ((List.range m).filter sp).map fun (i : Nat) => (i : Int)
theorem spokeL_yes {sp : Nat → Bool} {m : Nat} (h : sp m = true) : spokeL sp (m + 1) = spokeL sp m ++ [(m : Int)] := by
  unfold spokeL; rw [List.range_succ]; simp [h]
theorem spokeL_no {sp : Nat → Bool} {m : Nat} (h : sp m = false) : spokeL sp (m + 1) = spokeL sp m := by
  unfold spokeL; rw [List.range_succ]; simp [h]
theorem spokeL_len (sp : Nat → Bool) (m : Nat) : (spokeL sp m).length ≤ m := by
  unfold spokeL; rw [List.length_map]; exact Nat.le_trans (List.length_filter_le _ _) (by simp)
theorem spokeL_congr {sp sq : Nat → Bool} {m : Nat} (h : ∀ i, i < m → sp i = sq i) : spokeL sp m = spokeL sq m := by
  unfold spokeL
  congr 1
  exact List.filter_congr fun x hx => h x (by simpa using hx)
def IntsOut (w : World) (l : List Int) (e : Ending) (w' : World) : Prop :=
  ∃ A cap, e = .returned (.slice A l.length cap) ∧ w'.ownsRow w.heap.size 3 1 (.slice A l.length cap) l.length (l.map cN) ∧ Below w.heap.size w w'
theorem info_int : (Try.prog.info? 3).map (fun i => (i.zero, i.size, i.bytes)) = some (some (.int .i64 0), 1, 8) := by kernel_rfl
/-- the marks, as a block -/
def spCells (sp : List Bool) : Array Value := (sp.map Value.bool).toArray
def SpB (w : World) (g : Nat) (sp : List Bool) : Prop := sp.length = 64 ∧ Blk w g 52 (spCells sp)
theorem SpB.below {w w' : World} {g : Nat} {sp : List Bool} (h : SpB w g sp) (hb : Below w.heap.size w w') : SpB w' g sp := ⟨h.1, (hb.block g h.2.lt).trans h.2⟩
theorem SpB.cell {w : World} {g : Nat} {sp : List Bool} (h : SpB w g sp) (i : Nat) (hi : i < 64) : w.cell? ⟨g, i, none⟩ = some (.bool (sp[i]'(by rw [h.1]; exact hi))) := by
  rw [h.2.cell]; unfold spCells; have := h.1; simp [this, hi]
theorem SpB.set {w : World} {g : Nat} {sp : List Bool} (h : SpB w g sp) (k : Nat) : SpB (w.setCell ⟨g, k, none⟩ (.bool true)) g (sp.set k true) := by
  refine ⟨by simp [h.1], ?_⟩
  have := h.2.set_ k (.bool true)
  rwa [show (spCells sp).setIfInBounds k (.bool true) = spCells (sp.set k true) from by unfold spCells; simp [List.map_set]] at this
theorem SpB.far {w : World} {g : Nat} {sp : List Bool} (h : SpB w g sp) {p : Addr} (hp : g ≠ p.block) (u : Value) : SpB (w.setCell p u) g sp := ⟨h.1, h.2.far hp u⟩
theorem SpB.alloc {w : World} {g : Nat} {sp : List Bool} (h : SpB w g sp) (o : Obj) : SpB (w.alloc o) g sp := ⟨h.1, h.2.alloc o⟩

theorem RgIs.mine_lt {base : Nat} {w : World} {g b : Nat} {A : Option Addr} {c : Nat} {n : Int} {bad : List Bool} {L : List Stm} (h : RgIs base w g b A c n bad L) (i : Nat) (hi : Mine g b A i) : i < w.heap.size := by
  rcases hi with e | e | e
  · rw [e]; exact h.blk.lt
  · rw [e]; exact h.mp.lt
  · rcases h.row.2 with hn | ⟨j, cap, cur, e', hg, hh, rest⟩
    · have := hn.1; rw [e] at this; injection this with h1; cases h1
    · rw [e] at e'; injection e' with h1; injection h1 with h1; injection h1 with h1
      rw [h1]; exact (Array.getElem?_eq_some_iff.1 hh).1
theorem voiceB_skip {L names : List Stm} {k v q t p : Int} {j : Nat} (hj : j < names.length) (h : names[j] ≠ ⟨p, k, v, q, t⟩ ∨ names[j] ∉ L) : voiceB L (names.take (j + 1)) k v q t p = voiceB L (names.take j) k v q t p := by
  unfold voiceB
  rw [List.take_succ_eq_append_getElem hj]
  rcases h with h | h
  · have : ((⟨p, k, v, q, t⟩ : Stm) ∈ names.take j ++ [names[j]]) = ((⟨p, k, v, q, t⟩ : Stm) ∈ names.take j) :=
      propext ⟨fun hm => (List.mem_append.1 hm).elim id (fun e => absurd (List.mem_singleton.1 e).symm h), fun hm => List.mem_append.2 (.inl hm)⟩
    simp only [this]
  · by_cases hp : (⟨p, k, v, q, t⟩ : Stm) ∈ L
    · have hne : (⟨p, k, v, q, t⟩ : Stm) ≠ names[j] := fun e => h (e ▸ hp)
      have : ((⟨p, k, v, q, t⟩ : Stm) ∈ names.take j ++ [names[j]]) = ((⟨p, k, v, q, t⟩ : Stm) ∈ names.take j) :=
        propext ⟨fun hm => (List.mem_append.1 hm).elim id (fun e => absurd (List.mem_singleton.1 e) hne), fun hm => List.mem_append.2 (.inl hm)⟩
      simp only [this]
    · simp [hp]
theorem voiceB_hit {L names : List Stm} {k v q t p : Int} {j : Nat} (hj : j < names.length) (h : names[j] = ⟨p, k, v, q, t⟩) (hL : names[j] ∈ L) : voiceB L (names.take (j + 1)) k v q t p = true := by
  unfold voiceB
  rw [List.take_succ_eq_append_getElem hj]
  rw [h] at hL ⊢
  simp [hL]

/-- Has, inside of the first loop -/
theorem voices_has {base : Nat} {w wr : World} {g b : Nat} {A : Option Addr} {c : Nat} {n : Int} {bad : List Bool} {L : List Stm} (hR : RgIs base w g b A c n bad L) (hB : Below w.heap.size w wr) {f k v q t : Int} (hs : StmOk ⟨f, k, v, q, t⟩) {u : Value} {o : Obj} :
    Calls Try.prog 15 #[.pointer (some ⟨g, 0, none⟩), .agg #[.int .i64 f, .int .i64 k, .int .i64 v, .int .i64 q, .int .i64 t]] ((wr.setCell ⟨w.heap.size, 0, none⟩ u).alloc o) fun e w' =>
      e = .returned (.bool (decide ((⟨f, k, v, q, t⟩ : Stm) ∈ L))) ∧ Below ((wr.setCell ⟨w.heap.size, 0, none⟩ u).alloc o).heap.size ((wr.setCell ⟨w.heap.size, 0, none⟩ u).alloc o) w' :=
  has_any (((hR.below hB).kept (keptBut_set wr ⟨w.heap.size, 0, none⟩ u) (fun i hi e => by
    have := hR.mine_lt i hi; simp at e; omega)).below (gr1 _ _)) hs

theorem voices_step {w wr w2 : World} {x y k v q t a b c d : Int} {sp : List Bool} (hX : Blk wr w.heap.size 25 #[.int .i64 x, .int .i64 k, .int .i64 v, .int .i64 q, .int .i64 t]) (hS : SpB wr (w.heap.size + 1) sp) (hB : Below w.heap.size w wr)
    (hb2 : Below ((wr.setCell ⟨w.heap.size, 0, none⟩ (.int .i64 y)).alloc (.cells #[.int .i64 y, .int .i64 a, .int .i64 b, .int .i64 c, .int .i64 d] 25)).heap.size ((wr.setCell ⟨w.heap.size, 0, none⟩ (.int .i64 y)).alloc (.cells #[.int .i64 y, .int .i64 a, .int .i64 b, .int .i64 c, .int .i64 d] 25)) w2) :
    Blk w2 w.heap.size 25 #[.int .i64 y, .int .i64 k, .int .i64 v, .int .i64 q, .int .i64 t] ∧ SpB w2 (w.heap.size + 1) sp ∧ Below w.heap.size w w2 ∧ w2.cell? ⟨wr.heap.size, 0, none⟩ = some (.int .i64 y) := by
  have h0 : wr.heap.size = (wr.setCell ⟨w.heap.size, 0, none⟩ (.int .i64 y)).heap.size := by simp [World.setCell]
  have h1 := (hX.set_ 0 (.int .i64 y)).alloc (.cells #[.int .i64 y, .int .i64 a, .int .i64 b, .int .i64 c, .int .i64 d] 25)
  have h2 := (hS.far (p := ⟨w.heap.size, 0, none⟩) (by simp) (.int .i64 y)).alloc (.cells #[.int .i64 y, .int .i64 a, .int .i64 b, .int .i64 c, .int .i64 d] 25)
  have h3 := Blk.new (wr.setCell ⟨w.heap.size, 0, none⟩ (.int .i64 y)) 25 #[.int .i64 y, .int .i64 a, .int .i64 b, .int .i64 c, .int .i64 d]
  rw [← h0] at h3
  have h4 : Blk w2 wr.heap.size 25 #[.int .i64 y, .int .i64 a, .int .i64 b, .int .i64 c, .int .i64 d] := (hb2.block _ h3.lt).trans h3
  refine ⟨(hb2.block _ h1.lt).trans h1, h2.below hb2, ?_, by rw [h4.cell]; rfl⟩
  have h5 : Below w.heap.size w ((wr.setCell ⟨w.heap.size, 0, none⟩ (.int .i64 y)).alloc (.cells #[.int .i64 y, .int .i64 a, .int .i64 b, .int .i64 c, .int .i64 d] 25)) := (hB.setCell (Nat.le_refl _) _).alloc (by have := hB.size; rw [← h0]; exact this) _
  exact below_trans h5 hb2

theorem sp_size {w : World} {g : Nat} {sp : List Bool} (h : SpB w g sp) : (Try.prog.info? 52).map (·.size) = some (spCells sp).size := by
  have : (Try.prog.info? 52).map (·.size) = some 64 := by kernel_rfl
  rw [this]; unfold spCells; simp [h.1]

theorem sp_index {w0 : World} {g : Nat} {sp : List Bool} {v : Bool} (h : SpB w0 g sp) {m : Nat} (hm : m < 64) (hv : v = sp.getD m false) (w : World) : (Instr.index 52 (.agg (spCells sp)) (.int .i64 m)).run Try.prog w = .ok (.bool v) w := by
  have hl := h.1
  have hc : (spCells sp)[m]? = some (.bool v) := by
    unfold spCells
    have h1 : m < sp.length := by omega
    simp [hv, List.getD, h1]
  have hs : m < (spCells sp).size := by unfold spCells; simp; omega
  simp [Instr.index, Try.underlying52, go_sem, hc]
  intro h
  omega

set_option maxHeartbeats 4000000 in
theorem voices_any {base : Nat} {w : World} {g b : Nat} {A : Option Addr} {c : Nat} {n : Int} {bad : List Bool} {L : List Stm} (hR : RgIs base w g b A c n bad L) (hLf : ∀ s ∈ L, 0 ≤ s.f ∧ s.f < 64)
    (B : Option Addr) (names : List Stm) (d : Nat) (hN : Fs Stm.cells 5 w B names) (hnl : names.length ≤ 34359738368) (hok : ∀ s ∈ names, StmOk s) (f k v q t : Int) :
    Calls Try.prog 10 #[.pointer (some ⟨g, 0, none⟩), .slice B names.length d, .agg #[.int .i64 f, .int .i64 k, .int .i64 v, .int .i64 q, .int .i64 t]] w (IntsOut w (spokeL (fun i => voiceB L names k v q t i) 64)) := by
  have hzv : ∀ w, (zeroValue 52).run Try.prog w = .ok (.agg #[.bool false, .bool false, .bool false, .bool false, .bool false, .bool false, .bool false, .bool false, .bool false, .bool false, .bool false, .bool false, .bool false, .bool false, .bool false, .bool false, .bool false, .bool false, .bool false, .bool false, .bool false, .bool false, .bool false, .bool false, .bool false, .bool false, .bool false, .bool false, .bool false, .bool false, .bool false, .bool false, .bool false, .bool false, .bool false, .bool false, .bool false, .bool false, .bool false, .bool false, .bool false, .bool false, .bool false, .bool false, .bool false, .bool false, .bool false, .bool false, .bool false, .bool false, .bool false, .bool false, .bool false, .bool false, .bool false, .bool false, .bool false, .bool false, .bool false, .bool false, .bool false, .bool false, .bool false, .bool false]) w := fun w => by kernel_rfl
  have HR := hide hR; have HLF := hide hLf; have HOK := hide hok; have HN := hide hN
  clear hR hLf hok hN
  go_enter Try.func10, Try.ntmps10
  go_wp2_with fail
  go_loopw [15] (fun i wr => ∃ (j : Nat) (x : Int) (sp : List Bool), j ≤ names.length ∧ i = .int .i64 j ∧ Blk wr w.heap.size 25 #[.int .i64 x, .int .i64 k, .int .i64 v, .int .i64 q, .int .i64 t] ∧ SpB wr (w.heap.size + 1) sp ∧ (∀ i : Nat, i < 64 → sp.getD i false = voiceB L (names.take j) k v q t i) ∧ Below w.heap.size w wr) (fun i _ => names.length - (intOf i).toNat)
  case atStart =>
    refine ⟨0, f, List.replicate 64 false, Nat.zero_le _, rfl, (Blk.new w _ _).alloc _, ⟨by simp, ?_⟩, fun i hi => by rw [rep_false]; simp [voiceB], below_trans (gr1 _ _) (gr1 _ _)⟩
    have := Blk.new (w.alloc (.cells #[.int .i64 f, .int .i64 k, .int .i64 v, .int .i64 q, .int .i64 t] 25)) 52 (spCells (List.replicate 64 false))
    rwa [show (w.alloc (.cells #[.int .i64 f, .int .i64 k, .int .i64 v, .int .i64 q, .int .i64 t] 25)).heap.size = w.heap.size + 1 from by simp] at this
  case round =>
    obtain ⟨j, x, sp, hj, rfl, hX, hS, hsp, hbel⟩ := hrel
    have HX := hide hX; have HS := hide hS; have HSP := hide hsp; have HB := hide hbel
    clear hX hS hsp hbel
    by_cases hlt : j < names.length
    · have hlt' : (j : Int) < names.length := by omega
      obtain ⟨b1, off, rfl, hbl, hcell⟩ := (HN.out.below HB.out).cell (fun _ => rfl) (by omega)
      obtain ⟨c0, c1', c2', c3, c4⟩ := fiveS hcell (Below.refl _ _) hbl hlt
      clear hcell
      have hbx := HX.out.lt
      have e0 : wr.cell? ⟨w.heap.size, 0, none⟩ = some (.int .i64 x) := by rw [HX.out.cell]; rfl
      have e1 : wr.cell? ⟨w.heap.size, 1, none⟩ = some (.int .i64 k) := by rw [HX.out.cell]; rfl
      have e2 : wr.cell? ⟨w.heap.size, 2, none⟩ = some (.int .i64 v) := by rw [HX.out.cell]; rfl
      have e3 : wr.cell? ⟨w.heap.size, 3, none⟩ = some (.int .i64 q) := by rw [HX.out.cell]; rfl
      have e4 : wr.cell? ⟨w.heap.size, 4, none⟩ = some (.int .i64 t) := by rw [HX.out.cell]; rfl
      have ef := HX.out.free 0
      have hq := fun w => run_eq_stm w names[j].f names[j].k names[j].v names[j].q names[j].t names[j].f k v q t
      by_cases hx : names[j] = ⟨names[j].f, k, v, q, t⟩
      · rw [decide_eq_true hx] at hq
        have HNX := hide hx
        have HOKJ := hide (HOK.out _ (List.getElem_mem hlt))
        have HLFJ := hide (HLF.out names[j])
        by_cases hin : names[j] ∈ L
        · have HIN := hide hin
          obtain ⟨h0, h64⟩ := HLFJ.out hin
          have HV := hide (voiceB_hit (L := L) hlt hx hin)
          have HV2 := hide (fun p h => voiceB_skip (k := k) (v := v) (q := q) (t := t) (p := p) (L := L) hlt (.inl h))
          clear hx hin
          generalize names[j] = y at c0 c1' c2' c3 c4 hq HNX HOKJ HIN h0 h64 HV HV2
          obtain ⟨yf, yk, yv, yq, yt⟩ := y
          have h0 : 0 ≤ yf := h0
          have h64 : yf < 64 := h64
          obtain ⟨j2, rfl⟩ : ∃ j2 : Nat, yf = j2 := ⟨yf.toNat, by omega⟩
          have hj2 : j2 < 64 := by omega
          clear h0 h64 HLFJ
          have hst := HS.out
          go_wp2_with (go_at_call 15; refine (voices_has HR.out HB.out HOKJ.out).mono ?_; intro e w2 hh; rw [decide_eq_true HIN.out] at hh; obtain ⟨rfl, hb2⟩ := hh; obtain ⟨X2, S2, B2, d0⟩ := voices_step HX.out HS.out HB.out hb2; obtain ⟨u2, s2⟩ : ∃ u, w2.cell? ⟨w.heap.size + 1, j2, none⟩ = some u := ⟨_, S2.cell j2 hj2⟩; have sf2 := S2.2.free j2; clear c0 c1' c2' c3 c4 e0 e1 e2 e3 e4 ef hq hst; have HX2 := hide X2; have HS2 := hide S2; have HB2 := hide B2; clear X2 S2 B2 hb2)
          refine ⟨⟨j + 1, j2, sp.set j2 true, by omega, by go_num, HX2.out.far (by simp) _, HS2.out.set j2, fun i hi => ?_, HB2.out.setCell (by simp) _⟩, by simp [intOf]; omega⟩
          have h4 := HS2.out.1
          by_cases hij : j2 = i
          · subst hij
            rw [show voiceB L (names.take (j + 1)) k v q t j2 = true from HV.out]
            simp [List.getD, h4, hj2]
          · rw [HV2.out i (fun e => hij (by injection e with e1; exact Int.ofNat.inj e1)), ← HSP.out i hi]
            simp [List.getD, List.getElem?_set, hij]
        · have HV := hide (fun p => voiceB_skip (k := k) (v := v) (q := q) (t := t) (p := p) (L := L) hlt (.inr hin))
          have HIN := hide hin
          clear hx hin
          generalize names[j] = y at c0 c1' c2' c3 c4 hq HNX HOKJ HIN HV
          obtain ⟨yf, yk, yv, yq, yt⟩ := y
          clear HLFJ
          go_wp2_with (go_at_call 15; refine (voices_has HR.out HB.out HOKJ.out).mono ?_; intro e w2 hh; rw [decide_eq_false HIN.out] at hh; obtain ⟨rfl, hb2⟩ := hh; obtain ⟨X2, S2, B2, d0⟩ := voices_step HX.out HS.out HB.out hb2; clear c0 c1' c2' c3 c4 e0 e1 e2 e3 e4 ef hq d0; have HX2 := hide X2; have HS2 := hide S2; have HB2 := hide B2; clear X2 S2 B2 hb2)
          refine ⟨⟨j + 1, yf, sp, by omega, by go_num, HX2.out, HS2.out, fun i hi => ?_, HB2.out⟩, by simp [intOf]; omega⟩
          rw [HSP.out i hi, HV.out]
      · have HNX := hide hx
        rw [decide_eq_false hx] at hq
        have HV := hide (fun p => voiceB_skip (k := k) (v := v) (q := q) (t := t) (p := p) (L := L) hlt (.inl (fun e => hx (by rw [e]))))
        clear hx
        generalize names[j] = y at c0 c1' c2' c3 c4 hq HNX HV
        obtain ⟨yf, yk, yv, yq, yt⟩ := y
        go_wp2_with fail
        refine ⟨⟨j + 1, yf, sp, by omega, by go_num, (HX.out.set_ 0 _).alloc _, (HS.out.far (by simp) _).alloc _, fun i hi => ?_, (HB.out.setCell (Nat.le_refl _) _).alloc (by have := HB.out.size; simpa using this) _⟩, by simp [intOf]; omega⟩
        rw [HSP.out i hi, HV.out]
    · have hke : j = names.length := by omega
      have hlt' : ¬ (j : Int) < names.length := by omega
      have HSP2 := hide (show ∀ i : Nat, i < 64 → sp.getD i false = voiceB L names k v q t i from by have := HSP.out; rwa [hke, List.take_length] at this)
      clear hke
      go_wp2_with (refine wpList_load_row rfl 52 _ rfl (w.heap.size + 1) rfl 52 _ (0, 0) _ HS.out.2 Try.underlying52 rfl (sp_size HS.out) ?_)
      rename World => w3
      obtain ⟨sf, hsf⟩ : ∃ sf : Nat → Bool, sf = fun i => sp.getD i false := ⟨_, rfl⟩
      go_loopw [10, 35] (fun o i wr => ∃ (m : Nat) (A' : Option Addr) (c' : Nat), m ≤ 64 ∧ i = .int .i64 m ∧ o = .slice A' (spokeL sf m).length c' ∧ wr.ownsRow w.heap.size 3 1 (.slice A' (spokeL sf m).length c') (spokeL sf m).length ((spokeL sf m).map cN) ∧ Below w.heap.size w wr) (fun _ i _ => 64 - (intOf i).toNat)
      case atStart => exact ⟨0, none, 0, Nat.zero_le _, rfl, rfl, World.ownsRow_nil _ _ _ _, HB.out⟩
      case round =>
        obtain ⟨m, A', c', hm, rfl, rfl, hown, hbel2⟩ := hrel
        have HO := hide hown
        have HB2 := hide hbel2
        have hle := spokeL_len sf m
        clear hown hbel2
        by_cases hlt2 : m < 64
        · have hlt2' : (m : Int) < 64 := by omega
          cases hs : sf m with
          | true =>
            have HY := hide (spokeL_yes hs)
            have hix := fun w => sp_index (v := true) HS.out hlt2 (by subst hsf; exact hs.symm) w
            clear hs hsf
            generalize (spokeL sf m) = l at *
            go_wp2_with (at_builtin; refine wpList_appE wr rfl (.tmp 40) (.tmp 42) _ rfl w w.heap.size 3 3 _ 1 8 Try.underlying27 info_int rfl (by omega) (by omega) _ l.length _ #[.int .i64 m] (by rfl) wr.heap.size rfl (by rfl) rfl (by intro u hu; simp at hu; rw [hu]; rfl) HO.out HB2.out HB2.out.size (by omega) ?_; intro g4 c4 w4 hown4 hb4)
            refine ⟨⟨m + 1, some ⟨g4, 0, none⟩, c4, by omega, by go_num, ?_, ?_, hb4⟩, by simp [intOf]; omega⟩
            · rw [HY.out]; simp
            · rw [HY.out]; simpa [cN] using hown4
          | false =>
            have HY := hide (spokeL_no hs)
            have hix := fun w => sp_index (v := false) HS.out hlt2 (by subst hsf; exact hs.symm) w
            clear hs hsf
            go_wp2_with fail
            exact ⟨⟨m + 1, A', c', by omega, by go_num, by rw [HY.out], by rw [HY.out]; exact HO.out, HB2.out⟩, by simp [intOf]; omega⟩
        · have hme : m = 64 := by omega
          have hlt2' : ¬ (m : Int) < 64 := by omega
          have HC := hide (show spokeL sf m = spokeL (fun i => voiceB L names k v q t i) 64 from by
            rw [hme, hsf]; exact spokeL_congr fun i hi => HSP2.out i hi)
          clear hme hsf
          go_wp2_with fail
          go_ret
          rw [← HC.out]
          exact ⟨A', c', rfl, HO.out, HB2.out⟩
end Go.Proofs.Ytllfdnfiicnmiaa
