/-
  Slices of flat structs that came in, opened: []int, []plenumlaw04.Said, []api.Stmt; api.Stmt by value.
-/
import Derived.Test.YtllfdnfiicnmiaaOpen
import Derived.Test.YtllfdnfiicnmiaaRg9
import Derived.Deep.Strs
import Derived.Deep.Slices
namespace Go.Proofs.Ytllfdnfiicnmiaa
open Go.ChangeShapes Go.WideShapes Go.ChangeAt Go.RowKit
set_option maxRecDepth 100000

section
variable {H : Type} {enc : TypeId × Value → H} {P : Program} {w : World} {sp : Nat → Bool} {held : Bool}

theorem add_pl (b off j : Nat) : (⟨b, off, none⟩ : Addr).add j = ⟨b, off + j, none⟩ := by
  unfold Addr.add
  split
  · rename_i h; rw [h]; rfl
  · rfl
theorem open_flat {α : Type} [Inhabited α] (f : α → List Value) (s : Nat) (hf : ∀ x, (f x).length = s) (hs0 : 0 < s) (Q : α → Prop) {r : Reach} {b0 : Nat} {t e : TypeId} {v : Value} {d : DataW H} {p : List MemPlace} (ht : P.underlying t = some (.slice e)) (hc : P.cellsOf e = s)
    (hel : ∀ n cs x, DataW.trod enc P w 0 (fun _ => true) held n e cs = some x → ∃ y : α, cs = f y ∧ Q y)
    (hval : Value.okWide P w r b0 t v) (h : DataW.Trod enc P w 0 (fun _ => true) held t v d p) :
    ∃ (A : Option Addr) (l : List α) (c : Nat), v = .slice A l.length c ∧ Fs f s w A l ∧ l.length ≤ c ∧ c ≤ maxLen ∧ ∀ y ∈ l, Q y := by
  obtain ⟨a0, len0, cap0, rfl⟩ := okWide_slice ht hval
  obtain ⟨fuel, hfu⟩ := h
  rcases Deep.open_slice ht hfu with ⟨hcs, _⟩ | ⟨a, len, cap, m, n, D, Pl, hcs, _, hl, hm, hmm, _, hx⟩
  · simp [Value.cells] at hcs
    obtain ⟨rfl, rfl, rfl⟩ := hcs
    exact ⟨none, [], 0, rfl, Fs.empty _ _, by simp, by simp [maxLen], by simp⟩
  · simp [Value.cells] at hcs
    obtain ⟨rfl, rfl, rfl⟩ := hcs
    simp only [if_true] at hmm
    subst hmm
    have hx2 : ∀ i, i < len0 → ∃ y : α, w.cells? 0 (a.add (i * s)) s = some (f y) ∧ Q y := by
      intro i hi
      obtain ⟨cs', h1, h2⟩ := hx i (by omega)
      obtain ⟨y, rfl, hq⟩ := hel _ _ _ h2
      rw [hc] at h1
      exact ⟨y, h1, hq⟩
    obtain ⟨g, hg⟩ := Deep.choose_lt hx2
    have hlen : ((List.range len0).map g).length = len0 := by simp
    refine ⟨some a, (List.range len0).map g, _, by rw [hlen], ⟨by rw [flat_length hf], fun hn => ?_⟩, by rw [hlen]; exact hl, hm, ?_⟩
    · rw [hlen] at hn
      have h0 := (hg 0 hn).1
      have hcell : ∀ i, i < len0 → ∀ j, j < s → w.cell? ((a.add (i * s)).add j) = (f (g i))[j]? := by
        intro i hi j hj
        have := (World.cells?_some (hg i hi).1)
        exact this.2.2 j hj
      have hc0 := hcell 0 hn 0 hs0
      have hsome : (f (g 0))[0]? = some ((f (g 0))[0]'(by rw [hf]; exact hs0)) := List.getElem?_eq_getElem _
      rw [hsome] at hc0
      obtain ⟨b, off, spot⟩ := a
      have hspot : spot = none := by simpa [Addr.add] using World.cell?_spot hc0
      subst hspot
      refine ⟨b, off, rfl, by have := World.block_lt_of_cell? _ _ hc0; rwa [add_pl, add_pl] at this, fun j u hu => ?_⟩
      have hjl : j < len0 * s := by
        have := (List.getElem?_eq_some_iff.1 hu).1
        rwa [flat_length hf, hlen] at this
      have hi : j / s < len0 := Nat.div_lt_of_lt_mul (by rwa [Nat.mul_comm])
      have hr : j % s < s := Nat.mod_lt _ hs0
      have hj : j = j / s * s + j % s := by rw [Nat.mul_comm]; exact (Nat.div_add_mod j s).symm
      have h1 := hcell _ hi _ hr
      rw [add_pl, add_pl, Nat.add_assoc, ← hj] at h1
      rw [h1, ← hu]
      conv => rhs; rw [hj]
      rw [flat_get hf _ _ (by rw [hlen]; exact hi) _ hr]
      simp
    · intro y hy
      obtain ⟨i, hi, rfl⟩ := List.mem_map.1 hy
      exact (hg i (List.mem_range.1 hi)).2
end

section
variable {H : Type} {enc : TypeId × Value → H} {w : World} {sp : Nat → Bool} {held : Bool}
theorem i64_wf {n : Int} (h : (Lit.int .i64 n).wf = true) : I64 n := by
  have : -9223372036854775808 ≤ n ∧ n ≤ 9223372036854775807 := by simpa [Lit.wf, IntKind.min, IntKind.max, IntKind.signed, IntKind.bits] using h
  exact this
theorem int_trod (n : Nat) (cs : List Value) (x : DataW H × List MemPlace) (h : DataW.trod enc Try.prog w 0 sp held n 3 cs = some x) : ∃ y : Int, cs = [cN y] ∧ True := by
  obtain ⟨y, e, _, _⟩ := DataW.trod_int Try.underlying3 h
  exact ⟨y, e, trivial⟩
theorem stm_trod (n : Nat) (cs : List Value) (x : DataW H × List MemPlace) (h : DataW.trod enc Try.prog w 0 sp held n 25 cs = some x) : ∃ y : Stm, cs = y.cells ∧ StmOk y := by
  obtain ⟨xs, m, _, rfl, hl, hlen, hf⟩ := DataW.trod_struct Try.underlying25 h
  rw [show Try.prog.cellsOf 25 = 5 from by kernel_rfl] at hl
  have h0 := hf 0 _ rfl
  have h1 := hf 1 _ rfl
  have h2 := hf 2 _ rfl
  have h3 := hf 3 _ rfl
  have h4 := hf 4 _ rfl
  have c1 : Try.prog.cellsOf 3 = 1 := by kernel_rfl
  match xs, hlen, cs, hl with
  | [y0, y1, y2, y3, y4], _, [a0, a1, a2, a3, a4], _ =>
    simp [c1] at h0 h1 h2 h3 h4
    obtain ⟨n0, e0, _, w0⟩ := DataW.trod_int Try.underlying3 h0
    obtain ⟨n1, e1, _, w1⟩ := DataW.trod_int Try.underlying3 h1
    obtain ⟨n2, e2, _, w2⟩ := DataW.trod_int Try.underlying3 h2
    obtain ⟨n3, e3, _, w3⟩ := DataW.trod_int Try.underlying3 h3
    obtain ⟨n4, e4, _, w4⟩ := DataW.trod_int Try.underlying3 h4
    simp only [List.cons.injEq, and_true] at e0 e1 e2 e3 e4
    subst e0 e1 e2 e3 e4
    exact ⟨⟨n0, n1, n2, n3, n4⟩, rfl, i64_wf w0, i64_wf w1, i64_wf w2, i64_wf w3, i64_wf w4⟩
theorem sd_trod (n : Nat) (cs : List Value) (x : DataW H × List MemPlace) (h : DataW.trod enc Try.prog w 0 sp held n 36 cs = some x) : ∃ y : Sd, cs = y.cells ∧ StmOk y.s := by
  obtain ⟨xs, m, _, rfl, hl, hlen, hf⟩ := DataW.trod_struct Try.underlying36 h
  rw [show Try.prog.cellsOf 36 = 6 from by kernel_rfl] at hl
  have h0 := hf 0 _ rfl
  have h1 := hf 1 _ rfl
  have c1 : Try.prog.cellsOf 3 = 1 := by kernel_rfl
  have c5 : Try.prog.cellsOf 25 = 5 := by kernel_rfl
  match xs, hlen, cs, hl with
  | [y0, y1], _, [a0, a1, a2, a3, a4, a5], _ =>
    simp [c1, c5] at h0 h1
    obtain ⟨n0, e0, _, w0⟩ := DataW.trod_int Try.underlying3 h0
    obtain ⟨y, e1, hok⟩ := stm_trod _ _ _ h1
    simp only [List.cons.injEq, and_true] at e0
    subst e0
    refine ⟨⟨n0, y⟩, ?_, hok⟩
    rw [e1]; rfl
variable {r : Reach} {b0 : Nat} {v : Value} {d : DataW H} {p : List MemPlace}
theorem flat_one (l : List Int) : (l.flatMap fun y => [cN y]) = l.map cN := by
  induction l with
  | nil => rfl
  | cons a l ih => rw [List.flatMap_cons, ih]; rfl
theorem open_ns (hval : Value.okWide Try.prog w r b0 27 v) (h : DataW.Trod enc Try.prog w 0 (fun _ => true) held 27 v d p) :
    ∃ (A : Option Addr) (l : List Int) (c : Nat), v = .slice A l.length c ∧ Ns w A l ∧ l.length ≤ c ∧ c ≤ maxLen := by
  obtain ⟨A, l, c, h1, h2, h3, h4, _⟩ := open_flat (fun y => [cN y]) 1 (fun _ => rfl) (by decide) (fun _ => True) Try.underlying27 (by kernel_rfl) int_trod hval h
  refine ⟨A, l, c, h1, ?_, h3, h4⟩
  unfold Fs at h2
  rw [show (l.flatMap fun y => [cN y]) = l.map cN from flat_one l] at h2
  exact h2
theorem open_sds (hval : Value.okWide Try.prog w r b0 22 v) (h : DataW.Trod enc Try.prog w 0 (fun _ => true) held 22 v d p) :
    ∃ (A : Option Addr) (l : List Sd) (c : Nat), v = .slice A l.length c ∧ Fs Sd.cells 6 w A l ∧ l.length ≤ c ∧ c ≤ maxLen ∧ ∀ y ∈ l, StmOk y.s :=
  haveI : Inhabited Sd := ⟨⟨0, ⟨0, 0, 0, 0, 0⟩⟩⟩
  open_flat Sd.cells 6 (fun _ => rfl) (by decide) (fun y => StmOk y.s) Try.underlying22 (by kernel_rfl) sd_trod hval h
theorem open_stms (hval : Value.okWide Try.prog w r b0 23 v) (h : DataW.Trod enc Try.prog w 0 (fun _ => true) held 23 v d p) :
    ∃ (A : Option Addr) (l : List Stm) (c : Nat), v = .slice A l.length c ∧ Fs Stm.cells 5 w A l ∧ l.length ≤ c ∧ c ≤ maxLen ∧ ∀ y ∈ l, StmOk y :=
  haveI : Inhabited Stm := ⟨⟨0, 0, 0, 0, 0⟩⟩
  open_flat Stm.cells 5 (fun _ => rfl) (by decide) StmOk Try.underlying23 (by kernel_rfl) stm_trod hval h
theorem open_stm (hval : Value.okWide Try.prog w r b0 25 v) (h : DataW.Trod enc Try.prog w 0 (fun _ => true) true 25 v d p) :
    ∃ (f k vw q t : Int), v = .agg #[.int .i64 f, .int .i64 k, .int .i64 vw, .int .i64 q, .int .i64 t] ∧ StmOk ⟨f, k, vw, q, t⟩ := by
  obtain ⟨cs, rfl, _⟩ := okWide_struct Try.underlying25 hval
  obtain ⟨fuel, hf⟩ := h
  obtain ⟨y, hy, hi⟩ := stm_trod _ _ _ hf
  obtain ⟨f, k, vw, q, t⟩ := y
  refine ⟨f, k, vw, q, t, ?_, hi⟩
  obtain ⟨l⟩ := cs
  simp [Value.cells, Stm.cells] at hy
  rw [hy]
end
end Go.Proofs.Ytllfdnfiicnmiaa
