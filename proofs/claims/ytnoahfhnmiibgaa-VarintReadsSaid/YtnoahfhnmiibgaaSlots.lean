/-
  A region that draws its order, slot by slot: each operation is shown ONCE, from what the operations ahead of it by the region's edges left in their slots; then whatever order is drawn, at the end each slot holds what was said of it. Worlds only grow (Below).
-/
import Derived.Test.YtnoahfhnmiibgaaBase
import Derived.RegionTactic
namespace Go.Proofs.Ytnoahfhnmiibgaa
open Go.RowKit
set_option maxRecDepth 100000

/-- nothing that was there has turned -/
def Gr (w w' : World) : Prop := Below w.heap.size w w'
theorem Gr.refl (w : World) : Gr w w := Below.refl _ _
theorem Gr.trans {a b c : World} (h : Gr a b) (k : Gr b c) : Gr a c := Below.trans h (k.mono h.size)
theorem Gr.drew (w : World) : Gr w w.drew := (Below.refl _ _).drew
theorem Gr.alloc (w : World) (o : Obj) : Gr w (w.alloc o) := (Below.refl _ _).alloc (Nat.le_refl _) o

section
variable {P : Program} {ops : Array Oper}

/-- the operations that surely come ahead of o, with the slots that they write -/
def predsOf (ops : Array Oper) (o : Oper) : List (Nat × Nat) :=
  o.after.toList.filterMap fun e => if Region.binds .any e then ((ops[e.on]?).bind (·.dst)).map (fun d => (e.on, d)) else none
/-- no operation writes slot d that may come ahead of operation j -/
def freeFor (ops : Array Oper) (j d : Nat) : Bool :=
  (List.range ops.size).all fun k => k == j || ((ops[k]?).map fun ok => ok.dst != some d || ok.after.any fun e => Region.binds .any e && e.on == j).getD true
/-- no operation writes slot d -/
def untouched (ops : Array Oper) (d : Nat) : Bool := ops.all fun ok => ok.dst != some d
/-- the region's shape: every operation writes one slot of its own within the frame; its edges lead back -/
def slotShape (ops : Array Oper) (size : Nat) : Bool :=
  (List.range ops.size).all fun k => ((ops[k]?).map fun ok =>
    (match ok.dst with | some d => decide (d < size) && (List.range ops.size).all (fun m => m == k || ((ops[m]?).map fun om => om.dst != some d).getD true) | none => false) &&
    ok.after.all fun e => !Region.binds .any e || decide (e.on < k)).getD true

theorem slotShape_spec {size : Nat} (h : slotShape ops size = true) {k : Nat} {ok : Oper} (hk : ops[k]? = some ok) :
    ∃ d, ok.dst = some d ∧ d < size ∧ (∀ m om, ops[m]? = some om → om.dst = some d → m = k) ∧ ∀ e ∈ ok.after, Region.binds .any e = true → e.on < k := by
  have hlt : k < ops.size := (Array.getElem?_eq_some_iff.1 hk).1
  unfold slotShape at h
  rw [List.all_eq_true] at h
  have h1 := h k (List.mem_range.2 hlt)
  rw [hk] at h1
  simp only [Option.map_some, Option.getD_some, Bool.and_eq_true] at h1
  obtain ⟨h2, h3⟩ := h1
  cases hd : ok.dst with
  | none => rw [hd] at h2; cases h2
  | some d =>
    rw [hd] at h2
    simp only [Bool.and_eq_true, decide_eq_true_eq] at h2
    refine ⟨d, rfl, h2.1, fun m om hm hmd => ?_, fun e he hb => ?_⟩
    · have hml : m < ops.size := (Array.getElem?_eq_some_iff.1 hm).1
      have h4 := List.all_eq_true.1 h2.2 m (List.mem_range.2 hml)
      rw [hm] at h4
      simp [hmd] at h4
      exact h4
    · rw [Array.all_eq_true_iff_forall_mem] at h3
      have := h3 e he
      simpa [hb] using this

theorem Oper.wp_mono2 {o : Oper} {a : Act} {w : World} {K K' : Act → World → Prop} {Q Q' : Exit → Act → World → Prop} (h : ∀ a w, K a w → K' a w) (hQ : ∀ e a w, e ≠ .normal → Q e a w → Q' e a w)
    (hh : o.wp P a w K Q) : o.wp P a w K' Q' := by
  unfold Oper.wp at *
  generalize (execOp a.eval o).run P w = r at *
  cases r with
  | ok n w' =>
    cases n <;> simp only [Oper.upon] at hh ⊢ <;>
      first
        | exact h _ _ hh
        | exact Calls.mono hh (fun e w'' he => by cases e <;> first | exact h _ _ he | exact hQ _ _ _ (by simp) he | exact he.imp fun _ ⟨_, g⟩ => ⟨_, hQ _ _ _ (by simp) g⟩)
        | exact Rows.mono hh (fun _ _ he => h _ _ he)
  | halt x w' => cases x <;> simp only [Oper.upon] at hh ⊢ <;> first | exact hQ _ _ _ (by simp) hh | exact hh

/-- one operation, from a frame and a world: it yields v, the world grows, and what is said of v holds -/
def Does (P : Program) (ops : Array Oper) (o : Oper) (a : Act) (w : World) (Ψ : Value → World → Prop) : Prop :=
  wpList P ops (fun e a' w' => e = .normal ∧ ∃ v, a' = a.put o.dst v ∧ Gr w w' ∧ Ψ v w') [o] a w

theorem wpOp_of_does {o : Oper} {j : Nat} (hj : ops[j]? = some o) {a : Act} {w : World} {Ψ : Value → World → Prop} {K : Act → World → Prop} {Q : Exit → Act → World → Prop}
    (h : Does P ops o a w Ψ) (hK : ∀ v w', Gr w w' → Ψ v w' → K (a.put o.dst v) w') : wpOp P ops Q j K a w := by
  unfold wpOp
  rw [hj]
  unfold Does wpList at h
  simp only
  split
  · rename_i hw
    rw [if_pos hw] at h
    rcases h with h | ⟨_, _, _, h, _⟩
    · refine .inl (Oper.wp_mono2 (fun a' w' hh => ?_) (fun e a' w' hne hh => absurd hh.1 hne) h)
      obtain ⟨_, v, rfl, hg, hv⟩ := hh
      exact hK v w' hg hv
    · cases h
  · rename_i hw
    rw [if_neg hw] at h
    obtain ⟨_, v, hv, hg, hΨ⟩ := h
    rw [hv]
    exact hK v w hg hΨ

/-- what holds when the operations in 'listed' are through -/
structure SlotInv (ops : Array Oper) (Φ : Nat → Value → World → Prop) (a0 : Act) (w0 : World) (listed : Array Bool) (a : Act) (w : World) : Prop where
  len : listed.size = ops.size
  gr : Gr w0 w
  defers : a.defers = a0.defers
  size : a.tmps.size = a0.tmps.size
  done : ∀ k ok d, ops[k]? = some ok → ok.dst = some d → listed.getD k false = true → Φ k (a.tmps.getD d undef) w
  kept : ∀ d, (∀ k ok, ops[k]? = some ok → ok.dst = some d → listed.getD k false = false) → a.tmps.getD d undef = a0.tmps.getD d undef
  closed : ∀ k ok, ops[k]? = some ok → listed.getD k false = true → ∀ e ∈ ok.after, Region.binds .any e = true → listed.getD e.on false = true

theorem getD_put_same (a : Act) (d : Nat) (v : Value) (h : d < a.tmps.size) : (a.put (some d) v).tmps.getD d undef = v := by
  simp [Act.put, Array.getD, h]
theorem getD_put_other (a : Act) (d d' : Nat) (v : Value) (h : d' ≠ d) : (a.put (some d) v).tmps.getD d' undef = a.tmps.getD d' undef := by
  simp only [Act.put, Array.getD_eq_getD_getElem?, Array.getElem?_setIfInBounds]
  rw [if_neg (fun e => h e.symm)]

theorem getD_false_of_true {listed : Array Bool} {i : Nat} (hi : i < listed.size) (h : listed.getD i true = false) : listed.getD i false = false := by
  simp only [Array.getD_eq_getD_getElem?, Array.getElem?_eq_getElem hi, Option.getD_some] at h ⊢; exact h
theorem getD_set_self {listed : Array Bool} {i : Nat} (hi : i < listed.size) : (listed.setIfInBounds i true).getD i false = true := by
  simp [Array.getD_eq_getD_getElem?, hi]

theorem filter_lt {p q : Nat → Bool} {j : Nat} : ∀ {l : List Nat}, j ∈ l → p j = true → q j = false → (∀ x, q x = true → p x = true) → (l.filter q).length < (l.filter p).length
  | [], h, _, _, _ => by cases h
  | x :: r, hj, hp, hq, hle => by
    have hmono : (r.filter q).length ≤ (r.filter p).length := by
      clear hj
      induction r with
      | nil => simp
      | cons y r ih =>
        simp only [List.filter_cons]
        cases hqy : q y <;> cases hpy : p y <;> simp
        · exact ih
        · omega
        · rw [hle y hqy] at hpy; cases hpy
        · exact ih
    simp only [List.filter_cons]
    rcases List.mem_cons.1 hj with rfl | hj
    · rw [hp, hq]; simp; omega
    · have ih := filter_lt hj hp hq hle
      cases hqx : q x <;> cases hpx : p x <;> simp
      · exact ih
      · omega
      · rw [hle x hqx] at hpx; cases hpx
      · exact ih

/-- what an operation may take for known -/
def OpSees (ops : Array Oper) (Φ : Nat → Value → World → Prop) (a0 : Act) (w0 : World) (j : Nat) (o : Oper) (a : Act) (w : World) : Prop :=
  Gr w0 w ∧ a.defers = a0.defers ∧ a.tmps.size = a0.tmps.size ∧ (∀ p ∈ predsOf ops o, Φ p.1 (a.tmps.getD p.2 undef) w) ∧ (∀ d, freeFor ops j d = true → a.tmps.getD d undef = a0.tmps.getD d undef)

theorem wpAny_of_slots {Φ : Nat → Value → World → Prop} {a0 : Act} {w0 : World} {Q : Exit → Act → World → Prop}
    (hst : ∀ j v w w', Gr w w' → Φ j v w → Φ j v w') (hsh : slotShape ops a0.tmps.size = true)
    (hop : ∀ j o, ops[j]? = some o → ∀ a w, OpSees ops Φ a0 w0 j o a w → Does P ops o a w (Φ j))
    (hend : ∀ a w, Gr w0 w → a.defers = a0.defers → a.tmps.size = a0.tmps.size → (∀ k ok d, ops[k]? = some ok → ok.dst = some d → Φ k (a.tmps.getD d undef) w) →
      (∀ d, untouched ops d = true → a.tmps.getD d undef = a0.tmps.getD d undef) → Q .normal a w) :
    ∀ (fuel : Nat) (listed : Array Bool) (a : Act) (w : World), SlotInv ops Φ a0 w0 listed a w → (∀ n, n + fuel = ops.size → True) → ((List.range ops.size).filter fun i => !listed.getD i false).length ≤ fuel → wpAny P .any ops Q fuel listed a w := by
  have hfin : ∀ (listed : Array Bool) (a : Act) (w : World), SlotInv ops Φ a0 w0 listed a w → Region.ready .any ops listed = [] → Q .normal a w := by
    intro listed a w hI hr
    have hall : ∀ n k, k < n → k < ops.size → listed.getD k false = true := by
      intro n
      induction n with
      | zero => intro k hk; omega
      | succ n ih =>
        intro k hk hks
        cases hl : listed.getD k false with
        | true => rfl
        | false =>
          exfalso
          have hk' : ops[k]? = some ops[k] := Array.getElem?_eq_getElem hks
          have : k ∈ Region.ready .any ops listed := by
            rw [mem_ready]
            refine ⟨?_, _, hk', fun e he hb => ?_⟩
            · have hkl : k < listed.size := by rw [hI.len]; exact hks
              simp only [Array.getD_eq_getD_getElem?, Array.getElem?_eq_getElem hkl, Option.getD_some] at hl ⊢; exact hl
            · obtain ⟨d, _, _, _, he2⟩ := slotShape_spec hsh hk'
              exact ih e.on (by have := he2 e he hb; omega) (by have := he2 e he hb; omega)
          rw [hr] at this; cases this
    refine hend a w hI.gr hI.defers hI.size (fun k ok d hk hd => hI.done k ok d hk hd (hall (k + 1) k (by omega) (Array.getElem?_eq_some_iff.1 hk).1)) (fun d hd => hI.kept d fun k ok hk hkd => ?_)
    unfold untouched at hd
    rw [Array.all_eq_true_iff_forall_mem] at hd
    have := hd ok (Array.mem_of_getElem? hk)
    simp [hkd] at this
  intro fuel
  induction fuel with
  | zero =>
    intro listed a w hI _ hlen
    have hr : Region.ready .any ops listed = [] := by
      apply List.eq_nil_iff_forall_not_mem.2
      intro j hj
      obtain ⟨h1, o, ho, _⟩ := mem_ready.1 hj
      have hjl : j < ops.size := (Array.getElem?_eq_some_iff.1 ho).1
      have h0 : (List.range ops.size).filter (fun i => !listed.getD i false) = [] := List.eq_nil_of_length_eq_zero (by omega)
      have : j ∈ (List.range ops.size).filter (fun i => !listed.getD i false) := by
        rw [List.mem_filter]; refine ⟨List.mem_range.2 hjl, ?_⟩
        rw [getD_false_of_true (by rw [hI.len]; exact hjl) h1]; rfl
      rw [h0] at this; cases this
    exact ⟨hr, hfin _ _ _ hI hr⟩
  | succ fuel ih =>
    intro listed a w hI _ hlen
    refine ⟨hfin _ _ _ hI, fun j hj => ?_⟩
    obtain ⟨h1, o, ho, hedges⟩ := mem_ready.1 hj
    have hjl : j < ops.size := (Array.getElem?_eq_some_iff.1 ho).1
    have hjs : j < listed.size := by rw [hI.len]; exact hjl
    have hjf := getD_false_of_true hjs h1
    obtain ⟨d, hd, hds, huniq, hback⟩ := slotShape_spec hsh ho
    refine wpOp_of_does ho (hop j o ho a w ⟨hI.gr, hI.defers, hI.size, ?_, ?_⟩) fun v w' hg hv => ih _ _ _ ?_ (fun _ _ => trivial) ?_
    · intro p hp
      unfold predsOf at hp
      rw [List.mem_filterMap] at hp
      obtain ⟨e, he, hpe⟩ := hp
      split at hpe
      · rename_i hb
        rw [Option.map_eq_some_iff] at hpe
        obtain ⟨d', hd', rfl⟩ := hpe
        rw [Option.bind_eq_some_iff] at hd'
        obtain ⟨ok, hok, hokd⟩ := hd'
        exact hI.done e.on ok d' hok hokd (hedges e (by simpa using he) hb)
      · cases hpe
    · intro d' hf
      refine hI.kept d' fun k ok hk hkd => ?_
      unfold freeFor at hf
      have hks : k < ops.size := (Array.getElem?_eq_some_iff.1 hk).1
      have h2 := List.all_eq_true.1 hf k (List.mem_range.2 hks)
      rw [hk] at h2
      simp only [Option.map_some, Option.getD_some, hkd, bne_self_eq_false, Bool.false_or, Bool.or_eq_true, beq_iff_eq] at h2
      rcases h2 with rfl | h2
      · exact hjf
      · obtain ⟨i, hi, h3⟩ := Array.any_eq_true.1 h2
        have he : ok.after[i] ∈ ok.after := Array.getElem_mem hi
        generalize ok.after[i] = e at h3 he
        simp only [Bool.and_eq_true, beq_iff_eq] at h3
        cases hl : listed.getD k false with
        | false => rfl
        | true =>
          have := hI.closed k ok hk hl e he h3.1
          rw [h3.2, hjf] at this; cases this
    · have hset : ∀ k, k ≠ j → (listed.setIfInBounds j true).getD k false = listed.getD k false := fun k hk => getD_set_ne false (fun e => hk e.symm)
      have hself := getD_set_self hjs
      refine ⟨by simp [hI.len], hI.gr.trans hg, ?_, ?_, ?_, ?_, ?_⟩
      · rw [hd]; exact hI.defers
      · rw [hd]; simp [Act.put, hI.size]
      · intro k ok d' hk hkd hl
        by_cases hkj : k = j
        · subst hkj
          rw [ho] at hk; injection hk with hk; subst hk
          rw [hd] at hkd; injection hkd with hkd; subst hkd
          rw [hd, getD_put_same _ _ _ (by rw [hI.size]; exact hds)]
          exact hv
        · rw [hset k hkj] at hl
          have hne : d' ≠ d := fun e => hkj (huniq k ok hk (by rw [hkd, e]))
          rw [hd, getD_put_other _ _ _ _ hne]
          exact hst _ _ _ _ hg (hI.done k ok d' hk hkd hl)
      · intro d' hf
        have hne : d' ≠ d := by
          intro e; subst e
          have := hf j o ho hd
          rw [hself] at this; cases this
        rw [hd, getD_put_other _ _ _ _ hne]
        refine hI.kept d' fun k ok hk hkd => ?_
        have hkj : k ≠ j := by rintro rfl; rw [ho] at hk; injection hk with hk; subst hk; rw [hd] at hkd; injection hkd with hkd; exact hne hkd.symm
        have := hf k ok hk hkd
        rwa [hset k hkj] at this
      · intro k ok hk hl e he hb
        have mono : ∀ m, listed.getD m false = true → (listed.setIfInBounds j true).getD m false = true := fun m hm => getD_set_true hm
        by_cases hkj : k = j
        · subst hkj
          rw [ho] at hk; injection hk with hk; subst hk
          exact mono _ (hedges e he hb)
        · rw [hset k hkj] at hl
          exact mono _ (hI.closed k ok hk hl e he hb)
    · refine Nat.le_of_lt_succ (Nat.lt_of_lt_of_le (filter_lt (List.mem_range.2 hjl) (by rw [hjf]; rfl) (by rw [getD_set_self hjs]; rfl) fun x hx => ?_) hlen)
      by_cases hxj : x = j
      · subst hxj; rw [getD_set_self hjs] at hx; cases hx
      · rwa [getD_set_ne false (fun e => hxj e.symm)] at hx

/-- THE LAW. 'hop': each operation once; 'hend': what follows, each slot as it was said of it. -/
theorem wp_region_slots {id : Nat} {a0 : Act} {w0 : World} {Q : Exit → Act → World → Prop} (Φ : Nat → Value → World → Prop) (hm : P.follows .mixedOrders = true)
    (hst : ∀ j v w w', Gr w w' → Φ j v w → Φ j v w') (hsh : slotShape ops a0.tmps.size = true)
    (hop : ∀ j o, ops[j]? = some o → ∀ a w, OpSees ops Φ a0 w0 j o a w → Does P ops o a w (Φ j))
    (hend : ∀ a w, Gr w0 w → a.defers = a0.defers → a.tmps.size = a0.tmps.size → (∀ k ok d, ops[k]? = some ok → ok.dst = some d → Φ k (a.tmps.getD d undef) w) →
      (∀ d, untouched ops d = true → a.tmps.getD d undef = a0.tmps.getD d undef) → Q .normal a w) : (Code.region id ops true).wp P Q a0 w0 := by
  refine wp_region_any hm (wpAny_of_slots hst hsh hop hend _ _ _ _ ⟨by simp, Gr.drew w0, rfl, rfl, ?_, fun _ _ => rfl, ?_⟩ (fun _ _ => trivial) ?_)
  · intro k ok d hk _ hl
    have : k < ops.size := (Array.getElem?_eq_some_iff.1 hk).1
    simp [Array.getD_eq_getD_getElem?, this] at hl
  · intro k ok hk hl
    have : k < ops.size := (Array.getElem?_eq_some_iff.1 hk).1
    simp [Array.getD_eq_getD_getElem?, this] at hl
  · exact Nat.le_trans (List.length_filter_le _ _) (by simp)

/-- the same, the operations as a list: one goal an operation -/
def EachOp (F : Nat → Oper → Prop) : Nat → List Oper → Prop
  | _, [] => True
  | k, o :: r => F k o ∧ EachOp F (k + 1) r
theorem eachOp_get {F : Nat → Oper → Prop} : ∀ (l : List Oper) (k : Nat), EachOp F k l → ∀ j o, l[j]? = some o → F (k + j) o
  | [], _, _, j, o, h => by simp at h
  | x :: r, k, h, 0, o, ho => by simp at ho; subst ho; exact h.1
  | x :: r, k, h, j + 1, o, ho => by
    have := eachOp_get r (k + 1) h.2 j o (by simpa using ho)
    rwa [show k + 1 + j = k + (j + 1) from by omega] at this

variable {Φ : Nat → Value → World → Prop} {a0 a : Act} {w0 w : World} {j : Nat} {o : Oper} {Ψ : Value → World → Prop}
theorem OpSees.pred (h : OpSees ops Φ a0 w0 j o a w) (k d : Nat) (hk : (predsOf ops o).contains (k, d) = true) : Φ k (a.eval (.tmp d)) w :=
  h.2.2.2.1 (k, d) (by simpa using hk)
theorem OpSees.free (h : OpSees ops Φ a0 w0 j o a w) (d : Nat) (hd : freeFor ops j d = true) : a.eval (.tmp d) = a0.tmps.getD d undef := h.2.2.2.2 d hd
theorem OpSees.gr (h : OpSees ops Φ a0 w0 j o a w) : Gr w0 w := h.1
theorem yielded_of (k d : Nat) (b : Bool) (hk : (ops[k]?).bind (·.dst) = some d) (he : a.eval (.tmp d) = .bool b) : yielded ops a.tmps k = some b := by
  unfold yielded
  rw [hk]
  have he' : a.tmps.getD d undef = .bool b := he
  simp only [Option.bind_some]
  rw [Array.getD_eq_getD_getElem?] at he'
  cases h : a.tmps[d]? with
  | none => rw [h] at he'; simp [undef] at he'
  | some x => rw [h] at he'; simp only [Option.getD_some] at he'; subst he'; rfl
theorem wanted_none (h : o.guard = none) : Region.wanted o (yielded ops a.tmps) = true := by simp [Region.wanted, h]
theorem wanted_some (k d : Nat) (b : Bool) (h : o.guard = some (k, b)) (hk : (ops[k]?).bind (·.dst) = some d) (he : a.eval (.tmp d) = .bool b) : Region.wanted o (yielded ops a.tmps) = true := by
  simp [Region.wanted, h, yielded_of k d b hk he]
theorem unwanted_some (k d : Nat) (b b' : Bool) (h : o.guard = some (k, b)) (hk : (ops[k]?).bind (·.dst) = some d) (he : a.eval (.tmp d) = .bool b') (hne : b' ≠ b) : Region.wanted o (yielded ops a.tmps) = false := by
  simp [Region.wanted, h, yielded_of k d b' hk he, hne]
theorem does_val {v : Value} {w' : World} (hg : Region.wanted o (yielded ops a.tmps) = true) (hrun : (execOp a.eval o).run P w = .ok (.value v) w') (hgr : Gr w w') (hΨ : Ψ v w') : Does P ops o a w Ψ := by
  unfold Does wpList
  rw [if_pos hg]
  refine .inl ?_
  unfold Oper.wp
  rw [hrun]
  exact ⟨rfl, v, rfl, hgr, hΨ⟩
theorem does_skip (hg : Region.wanted o (yielded ops a.tmps) = false) (hΨ : Ψ undef w) : Does P ops o a w Ψ := by
  unfold Does wpList
  rw [if_neg (by rw [hg]; simp)]
  exact ⟨rfl, undef, rfl, Gr.refl _, hΨ⟩
theorem does_call {f : FuncId} {args : Array Value} (hg : Region.wanted o (yielded ops a.tmps) = true) (hrun : (execOp a.eval o).run P w = .ok (.enter f args) w)
    (hc : Calls P f args w fun e w' => ∃ v, e = .returned v ∧ Gr w w' ∧ Ψ v w') : Does P ops o a w Ψ := by
  unfold Does wpList
  rw [if_pos hg]
  refine .inl ?_
  unfold Oper.wp
  rw [hrun]
  refine hc.mono fun e w' ⟨v, he, hgr, hΨ⟩ => ?_
  subst he
  exact ⟨rfl, v, rfl, hgr, hΨ⟩
/-- the same over a name for the frame's reading: so that the simplifier does not look into the frame -/
theorem does_valR {v : Value} {w' : World} (ρ : Operand → Value) (hρ : ρ = a.eval) (hg : Region.wanted o (yielded ops a.tmps) = true) (hrun : (execOp ρ o).run P w = .ok (.value v) w') (hgr : Gr w w') (hΨ : Ψ v w') : Does P ops o a w Ψ :=
  does_val hg (by rw [← hρ]; exact hrun) hgr hΨ
theorem does_callR {f : FuncId} {args : Array Value} (ρ : Operand → Value) (hρ : ρ = a.eval) (hg : Region.wanted o (yielded ops a.tmps) = true) (hrun : (execOp ρ o).run P w = .ok (.enter f args) w)
    (hc : Calls P f args w fun e w' => ∃ v, e = .returned v ∧ Gr w w' ∧ Ψ v w') : Does P ops o a w Ψ := does_call hg (by rw [← hρ]; exact hrun) hc
theorem eval_name (a : Act) : ∃ ρ : Operand → Value, ρ = a.eval ∧ (∀ v, ρ (.const v) = v) ∧ (∀ f, ρ (.func f) = .func (.func f) #[] #[]) ∧ ∀ g, ρ (.global g) = .pointer (some ⟨g, 0, none⟩) :=
  ⟨_, rfl, fun _ => rfl, fun _ => rfl, fun _ => rfl⟩
end
section
variable {P : Program}
/-- the law, the operations written out one by one -/
theorem wp_region_each {id : Nat} (l : List Oper) {a0 : Act} {w0 : World} {Q : Exit → Act → World → Prop} (Φ : Nat → Value → World → Prop) (hm : P.follows .mixedOrders = true)
    (hst : ∀ j v w w', Gr w w' → Φ j v w → Φ j v w') (hsh : slotShape l.toArray a0.tmps.size = true)
    (hop : EachOp (fun j o => ∀ a w, OpSees l.toArray Φ a0 w0 j o a w → Does P l.toArray o a w (Φ j)) 0 l)
    (hend : ∀ a w, Gr w0 w → a.defers = a0.defers → a.tmps.size = a0.tmps.size → (∀ k ok d, l[k]? = some ok → ok.dst = some d → Φ k (a.eval (.tmp d)) w) →
      (∀ d, untouched l.toArray d = true → a.eval (.tmp d) = a0.tmps.getD d undef) → Q .normal a w) : (Code.region id l.toArray true).wp P Q a0 w0 :=
  wp_region_slots Φ hm hst hsh (fun j o ho => by have := eachOp_get l 0 hop j o (by simpa using ho); rwa [Nat.zero_add] at this)
    (fun a w h1 h2 h3 h4 h5 => hend a w h1 h2 h3 (fun k ok d hk hd => h4 k ok d (by simpa using hk) hd) h5)
end

/-! the same over a table: each operation's goal then speaks of that operation alone -/
/-- what one operation may draw on: the slots of operations ahead of it (operation, slot), the slots that are as at the start, its guard (operation, slot, wanted) -/
structure Row where
  preds : List (Nat × Nat)
  frees : List Nat
  guard : Option (Nat × Nat × Bool)
def rowOK (ops : Array Oper) (j : Nat) (o : Oper) (r : Row) : Bool :=
  r.preds.all (fun p => (predsOf ops o).contains p) && r.frees.all (fun d => freeFor ops j d) &&
  (match o.guard, r.guard with
   | none, none => true
   | some (k, b), some (k', d, b') => k == k' && b == b' && ((ops[k]?).bind (·.dst) == some d) && (predsOf ops o).contains (k, d)
   | _, _ => false)
def rowsOK (ops : Array Oper) : Nat → List Oper → List Row → Bool
  | _, [], [] => true
  | k, o :: l, r :: rs => rowOK ops k o r && rowsOK ops (k + 1) l rs
  | _, _, _ => false
def FactsP (Φ : Nat → Value → World → Prop) (ρ : Operand → Value) (w : World) : List (Nat × Nat) → Prop
  | [] => True
  | p :: r => Φ p.1 (ρ (.tmp p.2)) w ∧ FactsP Φ ρ w r
def FactsF (t0 : Array Value) (ρ : Operand → Value) : List Nat → Prop
  | [] => True
  | d :: r => ρ (.tmp d) = t0.getD d undef ∧ FactsF t0 ρ r
/-- the operation runs to a value, or into a call -/
def RunsTo (P : Program) (o : Oper) (ρ : Operand → Value) (w : World) (Ψ : Value → World → Prop) : Prop :=
  (∃ v w', (execOp ρ o).run P w = .ok (.value v) w' ∧ Gr w w' ∧ Ψ v w') ∨
  (∃ f args, (execOp ρ o).run P w = .ok (.enter f args) w ∧ Calls P f args w fun e w' => ∃ v, e = .returned v ∧ Gr w w' ∧ Ψ v w')
def GuardGoal (P : Program) (Φ : Nat → Value → World → Prop) (j : Nat) (o : Oper) (ρ : Operand → Value) (w : World) : Option (Nat × Nat × Bool) → Prop
  | none => RunsTo P o ρ w (Φ j)
  | some (k, d, b) => Φ k (ρ (.tmp d)) w → ∃ b', ρ (.tmp d) = .bool b' ∧ (b' = b → RunsTo P o ρ w (Φ j)) ∧ (b' ≠ b → Φ j undef w)
def OpGoal (P : Program) (Φ : Nat → Value → World → Prop) (t0 : Array Value) (w0 : World) (j : Nat) (o : Oper) (r : Row) : Prop :=
  ∀ (ρ : Operand → Value) (w : World), Gr w0 w → (∀ v, ρ (.const v) = v) → (∀ f, ρ (.func f) = .func (.func f) #[] #[]) → (∀ g, ρ (.global g) = .pointer (some ⟨g, 0, none⟩)) → FactsP Φ ρ w r.preds → FactsF t0 ρ r.frees → GuardGoal P Φ j o ρ w r.guard
def EachRow (F : Nat → Oper → Row → Prop) : Nat → List Oper → List Row → Prop
  | k, o :: l, r :: rs => F k o r ∧ EachRow F (k + 1) l rs
  | _, _, _ => True

section
variable {P : Program} {Φ : Nat → Value → World → Prop}
theorem factsP_of {ops : Array Oper} {a0 a : Act} {w0 w : World} {j : Nat} {o : Oper} (hs : OpSees ops Φ a0 w0 j o a w) : ∀ l : List (Nat × Nat), l.all (fun p => (predsOf ops o).contains p) = true → FactsP Φ a.eval w l
  | [], _ => trivial
  | p :: r, h => by
    simp only [List.all_cons, Bool.and_eq_true] at h
    exact ⟨hs.pred p.1 p.2 h.1, factsP_of hs r h.2⟩
theorem factsF_of {ops : Array Oper} {a0 a : Act} {w0 w : World} {j : Nat} {o : Oper} (hs : OpSees ops Φ a0 w0 j o a w) : ∀ l : List Nat, l.all (fun d => freeFor ops j d) = true → FactsF a0.tmps a.eval l
  | [], _ => trivial
  | d :: r, h => by
    simp only [List.all_cons, Bool.and_eq_true] at h
    exact ⟨hs.free d h.1, factsF_of hs r h.2⟩
theorem does_of_runs {ops : Array Oper} {o : Oper} {a : Act} {w : World} {Ψ : Value → World → Prop} (hg : Region.wanted o (yielded ops a.tmps) = true) (h : RunsTo P o a.eval w Ψ) : Does P ops o a w Ψ := by
  rcases h with ⟨v, w', h1, h2, h3⟩ | ⟨f, args, h1, h2⟩
  · exact does_val hg h1 h2 h3
  · exact does_call hg h1 h2
theorem does_of_goal {ops : Array Oper} {a0 a : Act} {w0 w : World} {j : Nat} {o : Oper} {r : Row} (hr : rowOK ops j o r = true) (hs : OpSees ops Φ a0 w0 j o a w) (h : OpGoal P Φ a0.tmps w0 j o r) : Does P ops o a w (Φ j) := by
  unfold rowOK at hr
  simp only [Bool.and_eq_true] at hr
  obtain ⟨⟨h1, h2⟩, h3⟩ := hr
  have hg := h a.eval w hs.gr (fun _ => rfl) (fun _ => rfl) (fun _ => rfl) (factsP_of hs _ h1) (factsF_of hs _ h2)
  cases ho : o.guard with
  | none =>
    rw [ho] at h3
    cases hrg : r.guard with
    | none => rw [hrg] at hg; exact does_of_runs (wanted_none ho) hg
    | some x => rw [hrg] at h3; cases h3
  | some x =>
    obtain ⟨k, b⟩ := x
    rw [ho] at h3
    cases hrg : r.guard with
    | none => rw [hrg] at h3; cases h3
    | some y =>
      obtain ⟨k', d, b'⟩ := y
      rw [hrg] at h3 hg
      simp only [Bool.and_eq_true, beq_iff_eq] at h3
      obtain ⟨⟨⟨rfl, rfl⟩, hk⟩, hp⟩ := h3
      obtain ⟨c, hc, hy, hn⟩ := hg (hs.pred k d hp)
      by_cases hcb : c = b
      · exact does_of_runs (wanted_some k d b ho hk (by rw [hc, hcb])) (hy hcb)
      · exact does_skip (unwanted_some k d b c ho hk hc hcb) (hn hcb)
theorem eachOp_of_rows {ops : Array Oper} {a0 : Act} {w0 : World} : ∀ (k : Nat) (l : List Oper) (rs : List Row), rowsOK ops k l rs = true → EachRow (OpGoal P Φ a0.tmps w0) k l rs →
    EachOp (fun j o => ∀ a w, OpSees ops Φ a0 w0 j o a w → Does P ops o a w (Φ j)) k l
  | _, [], [], _, _ => trivial
  | k, o :: l, r :: rs, h, hr => by
    simp only [rowsOK, Bool.and_eq_true] at h
    exact ⟨fun a w hs => does_of_goal h.1 hs hr.1, eachOp_of_rows (k + 1) l rs h.2 hr.2⟩
  | _, [], _ :: _, h, _ => by cases h
  | _, _ :: _, [], h, _ => by cases h

/-- THE LAW, BY A TABLE. -/
theorem wp_region_rows {id : Nat} (l : List Oper) {a0 : Act} {w0 : World} {Q : Exit → Act → World → Prop} (Φ : Nat → Value → World → Prop) (rs : List Row) (hm : P.follows .mixedOrders = true)
    (hst : ∀ j v w w', Gr w w' → Φ j v w → Φ j v w') (hsh : slotShape l.toArray a0.tmps.size = true) (hrs : rowsOK l.toArray 0 l rs = true)
    (hop : EachRow (OpGoal P Φ a0.tmps w0) 0 l rs)
    (hend : ∀ a w, Gr w0 w → a.defers = a0.defers → a.tmps.size = a0.tmps.size → (∀ k ok d, l[k]? = some ok → ok.dst = some d → Φ k (a.eval (.tmp d)) w) →
      (∀ d, untouched l.toArray d = true → a.eval (.tmp d) = a0.tmps.getD d undef) → Q .normal a w) : (Code.region id l.toArray true).wp P Q a0 w0 :=
  wp_region_each l Φ hm hst hsh (eachOp_of_rows 0 l rs hrs hop) hend
theorem runs_val {o : Oper} {ρ : Operand → Value} {w w' : World} {v : Value} {Ψ : Value → World → Prop} (h : (execOp ρ o).run P w = .ok (.value v) w') (hg : Gr w w') (hΨ : Ψ v w') : RunsTo P o ρ w Ψ := .inl ⟨v, w', h, hg, hΨ⟩
theorem runs_call {o : Oper} {ρ : Operand → Value} {w : World} {f : FuncId} {args : Array Value} {Ψ : Value → World → Prop} (h : (execOp ρ o).run P w = .ok (.enter f args) w)
    (hc : Calls P f args w fun e w' => ∃ v, e = .returned v ∧ Gr w w' ∧ Ψ v w') : RunsTo P o ρ w Ψ := .inr ⟨f, args, h, hc⟩
/-- the guard is as wanted -/
theorem guard_yes {o : Oper} {ρ : Operand → Value} {w : World} {j k d : Nat} {b : Bool} (he : Φ k (ρ (.tmp d)) w → ρ (.tmp d) = .bool b) (h : ρ (.tmp d) = .bool b → RunsTo P o ρ w (Φ j)) : GuardGoal P Φ j o ρ w (some (k, d, b)) :=
  fun hp => ⟨b, he hp, fun _ => h (he hp), fun hn => absurd rfl hn⟩
/-- the guard is not as wanted -/
theorem guard_no {o : Oper} {ρ : Operand → Value} {w : World} {j k d : Nat} {b : Bool} (b' : Bool) (hne : b' ≠ b) (he : Φ k (ρ (.tmp d)) w → ρ (.tmp d) = .bool b') (h : Φ j undef w) : GuardGoal P Φ j o ρ w (some (k, d, b)) :=
  fun hp => ⟨b', he hp, fun hn => absurd hn hne, fun _ => h⟩
end

/-- function f has a text of its own -/
def callOK (P : Program) (f : FuncId) : Bool := match P.funcs[f]? with
  | some fn => !(fn.name == "runtime.NumGoroutine") && fn.body.isSome
  | none => false
theorem run_call_func {P : Program} {o : Oper} {ρ : Operand → Value} {w : World} {f : FuncId} {args : Array Operand} {ts : Array TypeId} (vs : Array Value) (hf : callOK P f = true)
    (ho : o.op = .call { callee := .value (.func f), args := args, argTypes := ts }) (hρ : ρ (.func f) = .func (.func f) #[] #[]) (hv : args.map ρ = vs) : (execOp ρ o).run P w = .ok (.enter f vs) w := by
  unfold callOK at hf
  cases h : P.funcs[f]? with
  | none => rw [h] at hf; cases hf
  | some fn =>
    rw [h] at hf
    simp only [Bool.and_eq_true, Bool.not_eq_true', Option.isSome_iff_ne_none] at hf
    obtain ⟨h1, h2⟩ := hf
    have h3 : fn.body.isNone = false := by cases hb : fn.body with | none => exact absurd hb h2 | some _ => rfl
    unfold execOp
    rw [ho]
    simp only [resolve, hρ, hv, Deferred.ofValue, Sem.run_bind, Sem.run_pure, Result.andThen_ok, invoke, callFunc, run_program, h, h1, h3]
    simp [Sem.run_pure]

/-- what is said of the slots, as a list -/
def slotPreds (l : List (Value → World → Prop)) (j : Nat) : Value → World → Prop := l.getD j fun _ _ => True
def Stable (p : Value → World → Prop) : Prop := ∀ v w w', Gr w w' → p v w → p v w'
def AllStable : List (Value → World → Prop) → Prop
  | [] => True
  | p :: r => Stable p ∧ AllStable r
theorem slotPreds_stable : ∀ {l : List (Value → World → Prop)}, AllStable l → ∀ j v w w', Gr w w' → slotPreds l j v w → slotPreds l j v w'
  | [], _, j, v, w, w', _, _ => by simp [slotPreds]
  | p :: r, h, 0, v, w, w', hg, hp => h.1 v w w' hg hp
  | p :: r, h, j + 1, v, w, w', hg, hp => slotPreds_stable h.2 j v w w' hg hp
/-- the slot holds x -/
def IsV (x : Value) : Value → World → Prop := fun v _ => v = x
/-- the slot holds a slice that reads as the bytes l -/
def IsB (l : List UInt8) : Value → World → Prop := fun v w => ∃ A c, v = .slice A l.length c ∧ Bs w A l
/-- whatever -/
def IsAny : Value → World → Prop := fun _ _ => True
theorem stable_v (x : Value) : Stable (IsV x) := fun _ _ _ _ h => h
theorem stable_b (l : List UInt8) : Stable (IsB l) := fun _ _ _ hg ⟨A, c, e, h⟩ => ⟨A, c, e, h.below hg⟩
theorem stable_any : Stable IsAny := fun _ _ _ _ h => h

theorem act_range (a : Act) (n : Nat) (hs : a.tmps.size = n) (hd : a.defers = []) : a = ⟨((List.range n).map fun i => a.eval (.tmp i)).toArray, []⟩ := by
  obtain ⟨t, d⟩ := a
  simp only at hs hd
  subst hd hs
  congr 1
  apply Array.ext
  · simp
  · intro i h1 h2
    simp [Act.eval, Array.getD, h1]
end Go.Proofs.Ytnoahfhnmiibgaa
