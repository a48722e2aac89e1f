/-
  The walk of the law LeafChunks.
-/
import Derived.Test.YtagdjoabpkmomaaDoorRof
import Derived.Test.YtagdjoabpkmomaaDoorRchunk
import Derived.Test.YtagdjoabpkmomaaDoorAwk9
import Derived.Deep.RegionLaw
import Derived.Deep.RegionHeld3
import Derived.BigQuiet
namespace Go.Proofs.YtagdjoabpkmomaaDoor
open Go.RowKit
set_option maxRecDepth 100000
set_option linter.unusedSimpArgs false
set_option linter.unusedVariables false
attribute [local go_sem ↓] Go.wp_at_zero Go.wp_at_succ

theorem step_appG {P : Program} (w : World) {ops : Array Oper} {o : Oper} {a : Act} {K : Act → World → Prop} {Q : Exit → Act → World → Prop} {E : Prop} (hgd : o.guard = none) (s x : Operand) (t : TypeId)
    (ho : o.op = .call { callee := .builtin .append, args := #[s, x], argTypes := #[t, t] })
    (w0 : World) (base : Nat) (e : TypeId) (z : Value) (size bytes : Nat) (ht : P.underlying t = some (.slice e)) (hi : (P.info? e).map (fun i => (i.zero, i.size, i.bytes)) = some (some z, size, bytes))
    (hzs : z.cells.size = size) (hsz : 0 < size) (hby : bytes ≤ 4096)
    (v : Value) (n : Nat) (xs : List Value) (hs : a.eval s = v) (hown : w.ownsRow base e size v n xs) (hbel : Below base w0 w)
    (A : Option Addr) (m c : Nat) (news : List Value) (hx : a.eval x = .slice A m c) (hr : Rd w A size m news) (h1 : ∀ u ∈ news, u.oneCell' = true) (hroom : n + m ≤ 34359738368) (hbase : base ≤ w.heap.size)
    (h : ∀ A' cap' w', w'.ownsRow base e size (.slice A' (n + m) cap') (n + m) (xs ++ news) → Below base w0 w' → w.grownBy w' v.ownBlock → K (a.put o.dst (.slice A' (n + m) cap')) w') :
    if Region.wanted o (yielded ops a.tmps) = true then Oper.wp P o a w K Q else E := by
  have hw : Region.wanted o (yielded ops a.tmps) = true := by simp [Region.wanted, hgd]
  rw [if_pos hw]
  obtain ⟨A', cap', w', hrun, h2, h3⟩ := run_append_rd w base t o.type e z size bytes ht hi hzs hsz hby v n xs hown A m c news hr h1 hroom hbase
  unfold Oper.wp execOp
  simp only [ho, resolve, invoke, builtin, Sem.run_bind, Sem.run_pure, Result.andThen_ok, List.map_toArray, List.map_cons, List.map_nil, hs, hx, hrun]
  exact h A' cap' w' h2 (hbel.grown h3 hbase fun k hk => (hown.lt k hk).1) h3

def t9 (x : Bytes) : Bytes := x.take 900
def mixL (cs : List Bytes) (i : Nat) : List Bytes := cs.mapIdx fun j x => if j < i then t9 x else x
theorem mixL_len (cs : List Bytes) (i : Nat) : (mixL cs i).length = cs.length := by simp [mixL]
theorem mixL_at (cs : List Bytes) (i j : Nat) (h : j < (mixL cs i).length) : (mixL cs i)[j] = if j < i then t9 (cs[j]'(by rwa [mixL_len] at h)) else cs[j]'(by rwa [mixL_len] at h) := by simp [mixL]
theorem mixL_get (cs : List Bytes) (i : Nat) (h : i < cs.length) : (mixL cs i)[i]'(by rw [mixL_len]; exact h) = cs[i] := by rw [mixL_at, if_neg (by omega)]
theorem mixL_zero (cs : List Bytes) : mixL cs 0 = cs := by
  apply List.ext_getElem (mixL_len _ _)
  intro j h1 h2
  rw [mixL_at, if_neg (by omega)]
theorem mixL_set (cs : List Bytes) (i : Nat) (h : i < cs.length) : mixL cs (i + 1) = (mixL cs i).set i (t9 cs[i]) := by
  apply List.ext_getElem (by simp [mixL_len])
  intro j h1 h2
  rw [mixL_at, List.getElem_set]
  by_cases hj : i = j
  · subst hj; rw [if_pos (by omega), if_pos rfl]
  · rw [if_neg hj, mixL_at]
    by_cases h3 : j < i
    · rw [if_pos (by omega), if_pos h3]
    · rw [if_neg (by omega), if_neg h3]
theorem mixL_same (cs : List Bytes) (i : Nat) (h : i < cs.length) (h9 : ¬ 900 < cs[i].length) : mixL cs (i + 1) = mixL cs i := by
  apply List.ext_getElem (by simp [mixL_len])
  intro j h1 h2
  rw [mixL_at, mixL_at]
  by_cases hj : i = j
  · subst hj; rw [if_pos (by omega), if_neg (by omega)]; exact List.take_of_length_le (by omega)
  · by_cases h3 : j < i
    · rw [if_pos (by omega), if_pos h3]
    · rw [if_neg (by omega), if_neg h3]
theorem mixL_all (cs : List Bytes) : mixL cs cs.length = cs.map t9 := by
  apply List.ext_getElem (by simp [mixL_len])
  intro j h1 h2
  rw [mixL_len] at h1
  rw [mixL_at, if_pos h1]; simp
theorem set_cut {α : Type} (l : List α) (i : Nat) (x : α) (h : i < l.length) : l.take i ++ [x] ++ l.drop (i + 1) = l.set i x := by
  rw [List.set_eq_take_append_cons_drop, if_pos h, List.append_assoc]; rfl
/-- a chunk put in the place of another -/
theorem bss_put {w : World} {A : Option Addr} {L : List Bytes} {vs : List Value} {i : Nat} (hi : i < L.length) {x : Bytes} {Ai : Option Addr} {ci : Nat}
    (hv : ∀ j (h : j < L.length), ∃ Aj cj, vs[j]? = some (.slice Aj L[j].length cj) ∧ Bs w Aj L[j] ∧ L[j].length ≤ cj ∧ cj ≤ maxLen) (hvl : vs.length = L.length)
    (hx : Bs w Ai x) (h1 : x.length ≤ ci) (h2 : ci ≤ maxLen) (hr : Rd w A 1 L.length (vs.take i ++ [.slice Ai x.length ci] ++ vs.drop (i + 1))) : Bss w A (L.set i x) := by
  rw [set_cut _ _ _ (by omega)] at hr
  refine ⟨_, by rw [List.length_set]; exact hr, fun j hj => ?_⟩
  have hj' : j < L.length := by simpa using hj
  rw [List.getElem_set, List.getElem?_set]
  by_cases h : i = j
  · subst h
    rw [if_pos rfl, if_pos rfl, if_pos (by omega)]
    exact ⟨Ai, ci, rfl, hx, h1, h2⟩
  · rw [if_neg h, if_neg h]
    exact hv j hj'
theorem bss_take {w : World} {A : Option Addr} {cs : List Bytes} (h : Bss w A cs) (k : Nat) : Bss w A (cs.take k) := by
  obtain ⟨vs, hr, hv⟩ := h
  by_cases hk : k ≤ cs.length
  · refine ⟨vs.take k, ?_, fun i hi => ?_⟩
    · have := hr.less hk
      rw [List.length_take, Nat.min_eq_left hk]
      rwa [Nat.mul_one] at this
    · have hi2 : i < k ∧ i < cs.length := by simp at hi; omega
      obtain ⟨Ai, ci, h1, h2, h3, h4⟩ := hv i hi2.2
      refine ⟨Ai, ci, ?_, by simpa using h2, by simpa using h3, h4⟩
      rw [List.getElem?_take, if_pos hi2.1, h1]
      simp
  · rw [List.take_of_length_le (by omega)]; exact ⟨vs, hr, hv⟩
theorem bss_own {w : World} {base : Nat} {t : TypeId} {A : Option Addr} {c : Nat} {vs : List Value} {ch : List Bytes} (h : w.ownsRow base t 1 (.slice A ch.length c) ch.length vs) (hoa : OwnAll w base vs ch) : Bss w A ch :=
  ⟨vs, Rd.of_own h, fun i hi => by
    obtain ⟨Ai, ci, h1, h2⟩ := hoa.2 i hi
    exact ⟨Ai, ci, h1, Bs.of_own h2, (own_cap h2).1, (own_cap h2).2⟩⟩
theorem chk_len {l : List Item} (h : (chk l).1 = 0) : l.length ≤ 64 := by
  by_cases h2 : 64 < l.length
  · unfold chk at h; rw [if_pos h2] at h; simp at h
  · omega
theorem ofGo_len (cutF : Bytes → List Item × Nat) (n : Nat) : ∀ (cs : List Bytes) (k : Nat) (out : List Item) (sh : Int), (ofGo cutF n k cs out sh).1.length ≤ 64
  | [], k, out, sh => by
    unfold ofGo
    split
    · simp
    · split
      · simp
      · rename_i h; exact chk_len (Decidable.not_not.1 h)
  | c :: cs, k, out, sh => by
    unfold ofGo
    split
    · simp
    · exact ofGo_len cutF n cs _ _ _
theorem chunksF_len : ∀ (n : Nat) (l : List Item), (chunksF n l).length ≤ n
  | 0, _ => Nat.le_refl _
  | n + 1, l => by
    unfold chunksF
    split
    · simp
    · have := chunksF_len n (l.drop 8)
      simp only [List.length_cons]; omega
theorem chunksP_len (l : List Item) : (chunksP l).length ≤ l.length := by
  unfold chunksP
  split
  · exact chunksF_len _ _
  · simp

theorem own_newH (w : World) (base H : Nat) (hH : w.heap.size = H) (hb : base ≤ w.heap.size) : (w.alloc (.cells #[] 58)).ownsRow base 58 1 (.slice (some ⟨H, 0, none⟩) 0 0) 0 [] := by
  subst hH
  exact own_new w base 58 1 0 #[] hb rfl (by simp [maxLen])
theorem rd_new (w : World) (H : Nat) (t : TypeId) (v : Value) (hH : w.heap.size = H) : Rd (w.alloc (.cells #[v] t)) (some ⟨H, 0, none⟩) 1 1 [v] := by
  subst hH
  exact Rd.of_own (own_new w 0 t 1 1 #[v] (Nat.zero_le _) rfl (by simp [maxLen]))
theorem rd_kept {w w' : World} {g : Nat} {n : Nat} {xs : List Value} {row : Option Nat} (h : Rd w (some ⟨g, 0, none⟩) 1 n xs) (hg : w.grownBy w' row) (hne : some g ≠ row) : Rd w' (some ⟨g, 0, none⟩) 1 n xs := by
  refine ⟨h.1, fun hn => ?_⟩
  obtain ⟨b, off, e, hb, hc⟩ := h.2 hn
  injection e with e
  injection e with e1 e2
  subst e1 e2
  exact ⟨g, 0, rfl, Nat.lt_of_lt_of_le hb hg.size, fun j u hu => by
    have h1 := hc j u hu
    have h2 := hg.block g hb hne
    unfold World.cell? at h1 ⊢
    simp only at h1 ⊢
    rw [h2]; exact h1⟩
theorem bs_take {w : World} {A : Option Addr} {l : Bytes} (h : Bs w A l) (k : Nat) : Bs w A (l.take k) := by
  by_cases hk : k ≤ l.length
  · have := Rd.less h hk
    unfold Bs
    rw [List.length_take, Nat.min_eq_left hk, List.map_take]
    rwa [Nat.mul_one] at this
  · rw [List.take_of_length_le (by omega)]; exact h
theorem rd_cell {w : World} {b off n : Nat} {xs : List Value} (h : Rd w (some ⟨b, off, none⟩) 1 n xs) (hn : 0 < n) {j : Nat} {u : Value} (hu : xs[j]? = some u) : w.cell? ⟨b, off + j, none⟩ = some u := by
  obtain ⟨b', off', e, hb, hc⟩ := h.2 hn
  injection e with e
  injection e with e1 e2
  subst e1 e2
  exact hc j u hu
theorem own_lt {w : World} {base : Nat} {t : TypeId} {g n cap : Nat} {xs : List Value} (h : w.ownsRow base t 1 (.slice (some ⟨g, 0, none⟩) n cap) n xs) (hn : 0 < n) : g < w.heap.size := by
  obtain ⟨g', cap', e, _, hlt⟩ := h.form hn
  injection e with e
  injection e with e
  injection e with e1
  subst e1; exact hlt
theorem own_at {w : World} {base : Nat} {t : TypeId} {g n cap : Nat} {xs : List Value} (h : w.ownsRow base t 1 (.slice (some ⟨g, 0, none⟩) n cap) n xs) {j : Nat} (hj : j < n) {u : Value} (hu : xs[j]? = some u) : w.cell? ⟨g, j, none⟩ = some u := by
  rw [h.cellAt j (by omega), hu]
theorem own_last {w : World} {base : Nat} {t : TypeId} {v : Value} {n : Nat} {xs : List Value} (h : w.ownsRow base t 1 v n xs) {u : Value} : (xs ++ [u])[n]? = some u := by
  have := h.1
  rw [List.getElem?_append_right (by omega), show n - xs.length = 0 from by omega]; rfl
theorem own_drewN {w : World} {base : Nat} {t : TypeId} {size : Nat} {v : Value} {n : Nat} {xs : List Value} (h : w.ownsRow base t size v n xs) (k : Nat) : (w.drewN k).ownsRow base t size v n xs := own_below h (below_drewN (Below.refl _ _) k)
/-- the list of chunks: as it came, or a row of the call's own -/
def RowC (w5 w' : World) (C : Option Addr) (n d : Nat) (vs : List Value) : Prop := vs.length = n ∧ (Rd w5 C 1 n vs ∨ w'.ownsRow w5.heap.size 58 1 (.slice C n d) n vs)
theorem RowC.rd {w5 w' : World} {C : Option Addr} {n d : Nat} {vs : List Value} (h : RowC w5 w' C n d vs) (hb : Below w5.heap.size w5 w') : Rd w' C 1 n vs := h.2.elim (fun h => h.below hb) Rd.of_own
theorem RowC.below {w5 w' w2 : World} {C : Option Addr} {n d : Nat} {vs : List Value} (h : RowC w5 w' C n d vs) (hb : Below w'.heap.size w' w2) : RowC w5 w2 C n d vs := ⟨h.1, h.2.imp id (fun h => own_below h hb)⟩
theorem RowC.appended {w5 w' w2 : World} {C : Option Addr} {n d : Nat} {vs : List Value} (h : RowC w5 w' C n d vs) {base' : Nat} {e' : TypeId} {size' n' : Nat} {v' : Value} {xs' : List Value} (ho : w'.ownsRow base' e' size' v' n' xs') (hne : 58 ≠ e') (hg : w'.grownBy w2 v'.ownBlock) : RowC w5 w2 C n d vs :=
  ⟨h.1, h.2.imp id (fun h => h.kept hg (own_apart h ho hne))⟩
theorem RowC.drewN {w5 w' : World} {C : Option Addr} {n d : Nat} {vs : List Value} (h : RowC w5 w' C n d vs) (k : Nat) : RowC w5 (w'.drewN k) C n d vs := h.below (below_drewN (Below.refl _ _) k)
/-- what each place of the list holds -/
def HdrC (w5 : World) (vs : List Value) (L : List Bytes) : Prop := ∀ j (h : j < L.length), ∃ Aj cj, vs[j]? = some (.slice Aj L[j].length cj) ∧ Bs w5 Aj L[j] ∧ L[j].length ≤ cj ∧ cj ≤ maxLen
theorem HdrC.one {w5 : World} {vs : List Value} {L : List Bytes} (h : HdrC w5 vs L) (hl : vs.length = L.length) : ∀ u ∈ vs, u.oneCell' = true := by
  intro u hu
  obtain ⟨j, hj, rfl⟩ := List.mem_iff_getElem.1 hu
  obtain ⟨Aj, cj, e, _⟩ := h j (by omega)
  rw [List.getElem?_eq_getElem hj, Option.some.injEq] at e
  rw [e]; rfl
theorem size_bytes : (Tryd.prog.info? 58).map (·.size) = some 1 := by kernel_rfl
theorem hdr_set {w5 : World} {vs : List Value} {L : List Bytes} (h : HdrC w5 vs L) (hl : vs.length = L.length) {i : Nat} (hi : i < L.length) {x : Bytes} {Ai : Option Addr} {ci : Nat} (hx : Bs w5 Ai x) (h1 : x.length ≤ ci) (h2 : ci ≤ maxLen) : HdrC w5 (vs.set i (.slice Ai x.length ci)) (L.set i x) := by
  intro j hj
  have hj' : j < L.length := by simpa using hj
  rw [List.getElem_set, List.getElem?_set]
  by_cases h : i = j
  · subst h
    rw [if_pos rfl, if_pos rfl, if_pos (by omega)]
    exact ⟨Ai, ci, rfl, hx, h1, h2⟩
  · rw [if_neg h, if_neg h]
    exact ‹HdrC w5 vs L› j hj'
theorem bss_rh {w5 w' : World} {C : Option Addr} {n d : Nat} {vs : List Value} {L : List Bytes} (h : RowC w5 w' C n d vs) (hh : HdrC w5 vs L) (hn : n = L.length) (hb : Below w5.heap.size w5 w') : Bss w' C L := by
  subst hn
  exact ⟨vs, h.rd hb, fun i hi => by obtain ⟨Ai, ci, h1, h2, h3, h4⟩ := hh i hi; exact ⟨Ai, ci, h1, h2.below hb, h3, h4⟩⟩

set_option maxHeartbeats 16000000 in
theorem walk_LeafChunks (w : World) (hS : Sig w) (A : Option Addr) (l : List Item) (c : Nat) (hF : Fs Item.cells 5 w A l) (hlc : l.length ≤ c) (hcm : c ≤ maxLen) (hin : ∀ x ∈ l, ItemIn x) (B : Option Addr) (cs0 : List Bytes) (d : Nat) (hB0 : Bss w B cs0) (hbd0 : cs0.length ≤ d) (hdm : d ≤ maxLen) :
    Calls Tryd.prog 7 #[.slice A l.length c, .slice B cs0.length d] w fun e w' => e = .returned (.bool true) ∧ Below w.heap.size w w' := by
  have hfew := few_any A l c w hF hlc hcm (fun x hx => ⟨(hin x hx).1, (hin x hx).2.1⟩)
  have hml := fewL_len l
  have hmn := fewL_num hin
  have hmk := fewL_key (l := l)
  generalize fewL l = m at hfew hml hmn hmk
  have HFEW := hide hfew; have HMN := hide hmn; have HMK := hide hmk; have HSg := hide hS
  have HB0 := hide (bss_take hB0 12)
  have hdm' : d ≤ 9223372036854775807 := by unfold maxLen at hdm; omega
  have hn12 : (cs0.take 12).length ≤ 12 := by simp; omega
  have hnd : (cs0.take 12).length ≤ d := by simp; omega
  have HDM := hide hdm
  clear hfew hmn hmk hS hF hin hB0 hcm hdm
  go_enter Tryd.func7, Tryd.ntmps7
  go_upto_if 24 with (go_at_call 9; refine HFEW.out.mono ?_; rintro e w1 ⟨A1, c1, rfl, hown1, hb1⟩)
  go_cut [1] (fun s1 wx => s1 = .slice B (cs0.take 12).length d ∧ wx = w1)
  case first =>
    by_cases h12 : 12 < cs0.length
    · have h12' : (12 : Int) < cs0.length := by omega
      have HT := hide (show (cs0.take 12).length = 12 from by simp; omega)
      go_wp2_with fail
      go_meet
      exact ⟨by rw [HT.out], rfl⟩
    · have h12' : ¬ (12 : Int) < cs0.length := by omega
      have HT := hide (show (cs0.take 12).length = cs0.length from by simp; omega)
      go_wp2_with fail
      go_meet
      exact ⟨by rw [HT.out], rfl⟩
  case rest =>
    obtain ⟨rfl, rfl⟩ := hcut
    rename World => w1
    generalize cs0.take 12 = cs at HB0 hn12 hnd ⊢
    have HFm := hide (Fs.of_own rfl hown1)
    have hcc := own_cap hown1
    have HB1 := hide hb1
    clear hown1 hb1 hbd0
    have hGl := chunksP_len m
    have HCH := hide (show ∀ w', Sig w' → Fs Item.cells 5 w' A1 m → Calls Tryd.prog 29 #[.slice A1 m.length c1] w' (BssOut w' (chunksP m)) from fun w' hS hF => chunks_any A1 m c1 w' hS hF HMN.out hcc.1 hcc.2 (by omega))
    have HIS := hide (show ∀ w', Fs Item.cells 5 w' A1 m → Calls Tryd.prog 21 #[.slice A1 m.length c1] w' (fun e w2 => e = .returned (.bool (leafB m)) ∧ Below w'.heap.size w' w2) from fun w' hF => ris_any A1 m c1 w' hF (by omega) HMK.out)
    have HRC := hide (show leafB m = true → ∀ w', Fs Item.cells 5 w' A1 m → Calls Tryd.prog 30 #[.slice A1 m.length c1] w' (SsOut w' (chunksP m)) from fun hlf w' hF => by
      obtain ⟨_, hall, _⟩ := (leafB_iff m).1 hlf
      rw [show chunksP m = chunksL m from by unfold chunksP; rw [if_pos hlf]]
      exact rchunks_any A1 m c1 w' hF (fun x hx => ⟨hall x hx, HMN.out x hx⟩) (by omega))
    have HNO := hide (show leafB m = false → chunksP m = [] from fun hlf => by unfold chunksP; rw [hlf]; rfl)
    have hGl2 : (chunksP m).length ≤ 66 := by omega
    generalize chunksP m = G at HCH HRC HNO hGl2
    clear hGl
    generalize hlb : leafB m = lb at HIS HRC HNO
    clear hlb
    go_upto_if 30 with (first
      | (go_at_call 21; refine (HIS.out _ HF2.out).mono ?_; rintro e w3 ⟨rfl, hb3⟩; have HB3 := hide (below_trans HB2.out hb3); have HF3 := hide (HF2.out.below hb3); have HG3 := hide (HG2.out.below hb3))
      | (go_at_call 29; refine (HCH.out _ (HSg.out.below HB1.out) HFm.out).mono ?_; rintro e w2 ⟨A2, c2, vs2, rfl, hown2, hoa2, hb2⟩; have HB2 := hide (below_trans HB1.out hb2); have HF2 := hide (HFm.out.below hb2); have HG2 := hide (bss_own hown2 hoa2); clear hown2 hoa2 hb2))
    go_cut [6] (fun s6 wx => ∃ A6 c6, s6 = .slice A6 G.length c6 ∧ Ss wx A6 G ∧ Below w3.heap.size w3 wx)
    case first =>
      cases lb with
      | true =>
        go_wp2_with (go_at_call 30; refine (HRC.out rfl _ HF3.out).mono ?_; rintro e w4 ⟨A6, c6, rfl, hown4, hb4⟩)
        go_meet
        exact ⟨A6, c6, rfl, Rd.of_own (by simpa using hown4), hb4⟩
      | false =>
        have hG := HNO.out rfl
        subst hG
        go_wp2_with fail
        go_meet
        exact ⟨none, 0, rfl, Rd.empty _ _ _, Below.refl _ _⟩
    case rest =>
      obtain ⟨A6, c6, rfl, hS6, hb4⟩ := hcut
      rename World => w4
      have HB4 := hide (below_trans HB3.out hb4); have HG4 := hide (HG3.out.below hb4); have HS6 := hide hS6
      clear hS6 hb4 HCH HIS HRC HNO HFEW
      have hne : ((G.length : Int) != G.length) = false := by simp
      go_wp2_with fail
      go_loopw [7] (fun i wr => ∃ k : Nat, k ≤ G.length ∧ i = .int .i64 k ∧ Below w4.heap.size w4 wr) (fun i _ => G.length - (intOf i).toNat)
      case atStart => exact ⟨0, Nat.zero_le _, rfl, Below.refl _ _⟩
      case round =>
        obtain ⟨k, hk, rfl, hbel⟩ := hrel
        by_cases hlt : k < G.length
        · have hlt' : (k : Int) < G.length := by omega
          obtain ⟨b2, off2, rfl, hbl2, hcell2⟩ := HG4.out.cell (by omega)
          obtain ⟨b6, off6, rfl, hbl6, hcell6⟩ := HS6.out.cell (by omega)
          obtain ⟨Ak, ck, h1, h2, h3, h4⟩ := hcell2 k hlt
          have e2 : wr.cell? ⟨b2, off2 + k, none⟩ = some (.slice Ak G[k].length ck) := (hbel.cell (p := ⟨b2, off2 + k, none⟩) hbl2).trans h1
          have e6 : wr.cell? ⟨b6, off6 + k, none⟩ = some (.string ⟨G[k].toArray⟩) := (hbel.cell (p := ⟨b6, off6 + k, none⟩) hbl6).trans (hcell6 k hlt)
          have hcv : ∀ n, (_root_.Go.convert 58 9 (.slice Ak G[k].length ck)).run Tryd.prog (wr.drewN n) = .ok (.string ⟨G[k].toArray⟩) (wr.drewN n) := fun n => run_str (wr.drewN n) Ak ck G[k] (h2.below (below_drewN hbel n))
          have hcv0 : (_root_.Go.convert 58 9 (.slice Ak G[k].length ck)).run Tryd.prog wr = .ok (.string ⟨G[k].toArray⟩) wr := run_str wr Ak ck G[k] (h2.below hbel)
          generalize G[k] = x at e2 e6 hcv hcv0
          generalize x.length = xl at e2 hcv hcv0
          clear hcell2 hcell6 h1 h2
          go_wp2_with fail
          go_quiet (fail)
          go_wp2_with fail
          exact ⟨⟨k + 1, by omega, by go_num, below_drewN hbel _⟩, by simp [intOf]; omega⟩
        · have hke : ¬ (k : Int) < G.length := by omega
          rename World => w5
          have HB5 := hide (below_trans HB4.out hbel)
          clear hbel
          go_wp2_with fail
          go_loopw [1, 8, 9] (fun s1 s8 s9 wr => ∃ (i : Nat) (C : Option Addr) (d1 : Nat) (T : Option Addr) (ct : Nat) (vs : List Value), i ≤ cs.length ∧ s9 = .int .i64 i ∧ s1 = .slice C cs.length d1 ∧ RowC w5 wr C cs.length d1 vs ∧ HdrC w5 vs (mixL cs i) ∧ cs.length ≤ d1 ∧ d1 ≤ maxLen ∧ s8 = .slice T i ct ∧ wr.ownsRow w5.heap.size 9 1 (.slice T i ct) i (((cs.take i).map t9).map cS) ∧ Below w5.heap.size w5 wr) (fun _ _ s9 _ => cs.length - (intOf s9).toNat)
          case atStart =>
            obtain ⟨vs, hr, hv⟩ := HB0.out.below HB5.out
            exact ⟨0, B, d, none, 0, vs, Nat.zero_le _, rfl, rfl, ⟨by rw [hr.1, Nat.mul_one], .inl hr⟩, by rw [mixL_zero]; exact hv, hnd, HDM.out, rfl, World.ownsRow_nil _ _ _ _, Below.refl _ _⟩
          case round =>
            obtain ⟨i, C, d1, T, ct, vs, hi, rfl, rfl, hC, hH, hd1, hd2, rfl, hownT, hbel⟩ := hrel
            have HC := hide hC; have HH := hide hH; have HT := hide hownT; have HD2 := hide hd2
            have hd2' : d1 ≤ 9223372036854775807 := by unfold maxLen at hd2; omega
            clear hC hH hownT hd2
            by_cases hlt2 : i < cs.length
            · have hlt2' : (i : Int) < cs.length := by omega
              have hml2 := mixL_len cs i
              have HRD := hide (HC.out.rd hbel)
              obtain ⟨b1, off1, rfl, hbl1, hcell1⟩ := HRD.out.at_ (by omega)
              obtain ⟨Ai, ci, e1, hBx, hx1, hx2⟩ := HH.out i (by omega)
              rw [mixL_get cs i hlt2] at e1 hBx hx1
              have ce1 : wr.cell? ⟨b1, off1 + i, none⟩ = some (.slice Ai cs[i].length ci) := hcell1 i _ e1
              have HV := hide e1; have HBX := hide hBx; have HX1 := hide hx1; have HX2 := hide hx2
              have hx2' : ci ≤ 9223372036854775807 := by unfold maxLen at hx2; omega
              have hvl := HC.out.1
              have HVL := hide hvl
              clear e1 hBx hx2 hcell1 hml2 hvl
              obtain ⟨xl, hxl⟩ : ∃ xl, xl = cs[i].length := ⟨_, rfl⟩
              rw [← hxl] at ce1
              have HXL := hide hxl
              clear hxl
              go_upto_if 65 with fail
              go_cut [1] from 60 to 82 (fun s1 wx => ∃ C' d' vs', s1 = .slice C' cs.length d' ∧ RowC w5 wx C' cs.length d' vs' ∧ HdrC w5 vs' (mixL cs (i + 1)) ∧ cs.length ≤ d' ∧ d' ≤ maxLen ∧ Below wr.heap.size wr wx)
              case first =>
                by_cases h9 : 900 < xl
                · have h9' : (900 : Int) < xl := by omega
                  have hxci : xl ≤ ci := by have := HXL.out; have := HX1.out; omega
                  have hd9 : decide ((900 : Int) < (xl : Int)) = true := decide_eq_true h9'
                  have kiy := fun w => run_elemAddr Tryd.underlying54 size_bytes b1 off1 cs.length d1 i hlt2 (i : Int) rfl w
                  simp only [Nat.mul_one] at kiy
                  have hc900 := fun w => run_cutH Tryd.underlying58 size_u8 Ai xl ci 900 (by omega) 900 rfl w
                  have hcH := fun w => run_cutH Tryd.underlying54 size_bytes (some ⟨b1, off1, none⟩) cs.length d1 i (by omega) (i : Int) rfl w
                  have hcT := fun w => run_cut_from Tryd.underlying54 size_bytes (some ⟨b1, off1, none⟩) cs.length d1 (i + 1) (by omega) ((i : Int) + 1) (by omega) w
                  have HONE := hide (show ∀ u ∈ vs.take i, u.oneCell' = true from fun u hu => HdrC.one HH.out (by rw [HVL.out, mixL_len]) u (List.mem_of_mem_take hu))
                  have HONE2 := hide (show ∀ u ∈ vs.drop (i + 1), u.oneCell' = true from fun u hu => HdrC.one HH.out (by rw [HVL.out, mixL_len]) u (List.mem_of_mem_drop hu))
                  have HR1 := hide (show Rd wr (some ⟨b1, off1, none⟩) 1 i (vs.take i) from by have := HRD.out.less (k := i) (by omega); rwa [Nat.mul_one] at this)
                  have HR2 := hide (show Rd wr (cutA (some ⟨b1, off1, none⟩) d1 (i + 1) 1) 1 (cs.length - (i + 1)) (vs.drop (i + 1)) from by {have h := HRD.out.cut (k := i + 1) (cap := d1) (by omega) hd1; unfold cutA; simp only [Nat.mul_one] at h ⊢; exact h})
                  generalize cutA (some ⟨b1, off1, none⟩) d1 (i + 1) 1 = A9 at hcT HR2
                  go_wp2_with fail
                  have ka2 : IntKind.i64.wrap ((i : Int) + 1) = (i : Int) + 1 := IntWalk.i64_in _ (by omega)
                  go_region_held3 (fun w' => w'.cell? ⟨b1, off1 + i, none⟩ = some (.slice Ai xl ci)) (go_keep)
                    (first
                      | (refine step_appG _ rfl (.tmp 77) (.tmp 81) _ (by rfl) wr wr.heap.size 58 _ 1 24 Tryd.underlying54 info_bytes rfl (by omega) (by omega) _ (i + 1) (vs.take i ++ [.slice Ai 900 ci]) (by rfl) hown77 hb77 A9 (cs.length - (i + 1)) (d1 - (i + 1)) (vs.drop (i + 1)) (by rfl) (HR2.out.below hb77) HONE2.out (by omega) hb77.size ?_; intro A82 c82 w82 hown82 hb82 hg82; rw [show i + 1 + (cs.length - (i + 1)) = cs.length from by omega] at hown82 ⊢; have hs82 : w82.cell? ⟨b1, off1 + i, none⟩ = some (.slice Ai xl ci) := (hb82.cell (p := ⟨b1, off1 + i, none⟩) hbl1).trans ce1)
                      | (refine step_appG _ rfl (.tmp 70) (.tmp 76) _ (by rfl) wr wr.heap.size 58 _ 1 24 Tryd.underlying54 info_bytes rfl (by omega) (by omega) _ i (vs.take i) (by rfl) hown70 hb70 _ 1 1 [.slice Ai 900 ci] (by rfl) hY (by intro u hu; simp at hu; subst hu; rfl) (by omega) hb70.size ?_; intro A77 c77 w77 hown77 hb77 hg77; have hs77 : w77.cell? ⟨b1, off1 + i, none⟩ = some (.slice Ai xl ci) := (hb77.cell (p := ⟨b1, off1 + i, none⟩) hbl1).trans ce1)
                      | (refine step_appG _ rfl (.tmp 70) (.tmp 76) _ (by rfl) wr wr.heap.size 58 _ 1 24 Tryd.underlying54 info_bytes rfl (by omega) (by omega) _ i (vs.take i) (by rfl) (hown70.alloc _) (hb70.alloc hb70.size _) _ 1 1 [.slice Ai 900 ci] (by rfl) (rd_new w70 w70.heap.size 58 (.slice Ai 900 ci) rfl) (by intro u hu; simp at hu; subst hu; rfl) (by omega) (by have := hb70.size; simp; omega) ?_; intro A77 c77 w77 hown77 hb77 hg77; have hs77 : w77.cell? ⟨b1, off1 + i, none⟩ = some (.slice Ai xl ci) := (hb77.cell (p := ⟨b1, off1 + i, none⟩) hbl1).trans ce1)
                      | (refine step_appG _ rfl (.tmp 66) (.tmp 69) _ (by rfl) wr wr.heap.size 58 _ 1 24 Tryd.underlying54 info_bytes rfl (by omega) (by omega) _ 0 [] (by rfl) (own_newH wr wr.heap.size _ rfl (Nat.le_refl _)).drew ((gr1 wr _).drew) (some ⟨b1, off1, none⟩) i d1 (vs.take i) (by rfl) ((HR1.out.alloc _).drew) HONE.out (by omega) (by simp <;> omega) ?_; intro A70 c70 w70 hown70 hb70 hg70; simp only [Nat.zero_add, List.nil_append] at hown70; have hs70 : w70.cell? ⟨b1, off1 + i, none⟩ = some (.slice Ai xl ci) := (hb70.cell (p := ⟨b1, off1 + i, none⟩) hbl1).trans ce1; rw [show (0 : Nat) + i = i from Nat.zero_add i])
                      | (refine step_appG _ rfl (.tmp 66) (.tmp 69) _ (by rfl) wr wr.heap.size 58 _ 1 24 Tryd.underlying54 info_bytes rfl (by omega) (by omega) _ 0 [] (by rfl) ((own_newH wr wr.heap.size _ rfl (Nat.le_refl _)).alloc (.cells #[.slice Ai 900 ci] 58)).drew ((alloc_size (gr1 wr _) _).drew) (some ⟨b1, off1, none⟩) i d1 (vs.take i) (by rfl) (((HR1.out.alloc _).alloc _).drew) HONE.out (by omega) (by simp <;> omega) ?_; intro A70 c70 w70 hown70 hb70 hg70; simp only [Nat.zero_add, List.nil_append] at hown70; have hs70 : w70.cell? ⟨b1, off1 + i, none⟩ = some (.slice Ai xl ci) := (hb70.cell (p := ⟨b1, off1 + i, none⟩) hbl1).trans ce1; have hY := rd_kept (rd_new (wr.alloc (.cells #[] 58)) (wr.heap.size + 1) 58 (.slice Ai 900 ci) (by simp)).drew hg70 (by simp [Value.ownBlock]); rw [show (0 : Nat) + i = i from Nat.zero_add i])
                      | (refine step_appG _ rfl (.tmp 66) (.tmp 69) _ (by rfl) wr wr.heap.size 58 _ 1 24 Tryd.underlying54 info_bytes rfl (by omega) (by omega) _ 0 [] (by rfl) (own_newH (wr.alloc (.cells #[.slice Ai 900 ci] 58)) wr.heap.size (wr.heap.size + 1) (by simp) (by simp)).drew ((alloc_size (gr1 wr _) _).drew) (some ⟨b1, off1, none⟩) i d1 (vs.take i) (by rfl) (((HR1.out.alloc _).alloc _).drew) HONE.out (by omega) (by simp <;> omega) ?_; intro A70 c70 w70 hown70 hb70 hg70; simp only [Nat.zero_add, List.nil_append] at hown70; have hs70 : w70.cell? ⟨b1, off1 + i, none⟩ = some (.slice Ai xl ci) := (hb70.cell (p := ⟨b1, off1 + i, none⟩) hbl1).trans ce1; have hY := rd_kept ((rd_new wr wr.heap.size 58 (.slice Ai 900 ci) rfl).alloc (.cells #[] 58)).drew hg70 (by simp [Value.ownBlock]); rw [show (0 : Nat) + i = i from Nat.zero_add i]))
                  all_goals
                    have hcc9 := own_cap hown82
                    have HF9 := hide (And.intro hown82 hb82)
                    clear hown82 hb82 hg82 hs82 hown77 hb77 hg77 hs77
                    have h900 : (t9 cs[i]).length = 900 := by have := HXL.out; unfold t9; rw [List.length_take]; omega
                    have HFIN := hide (show RowC w5 w82 A82 cs.length c82 (vs.set i (.slice Ai 900 ci)) ∧ HdrC w5 (vs.set i (.slice Ai 900 ci)) (mixL cs (i + 1)) from ⟨⟨by rw [List.length_set, HVL.out], .inr (by have := HF9.out.1.mono hbel.size; rwa [set_cut _ _ _ (by rw [HVL.out]; exact hlt2)] at this)⟩, by
                      rw [mixL_set cs i hlt2]
                      have := hdr_set HH.out (by rw [HVL.out, mixL_len]) (i := i) (by rw [mixL_len]; exact hlt2) (x := t9 cs[i]) (Ai := Ai) (ci := ci) (bs_take HBX.out 900) (by omega) HX2.out
                      rwa [h900] at this⟩)
                    go_wp2_with fail
                    go_meet
                    exact ⟨A82, c82, _, rfl, HFIN.out.1, HFIN.out.2, hcc9.1, hcc9.2, HF9.out.2⟩
                · have h9' : ¬ (900 : Int) < xl := by omega
                  have hd9 : decide ((900 : Int) < (xl : Int)) = false := decide_eq_false h9'
                  have HS := hide (mixL_same cs i hlt2 (by have := HXL.out; omega))
                  go_wp2_with fail
                  go_meet
                  exact ⟨_, _, vs, rfl, HC.out, by rw [HS.out]; exact HH.out, hd1, HD2.out, Below.refl _ _⟩
              case rest =>
                obtain ⟨C', d', vs', rfl, hC', hH', hd1', hd2', hb'⟩ := hcut
                rename World => w6
                have hbel6 : Below w5.heap.size w5 w6 := hbel.trans (hb'.mono hbel.size)
                have HT6 := hide (own_below HT.out hb')
                have hm1 := mixL_len cs (i + 1)
                obtain ⟨b2, off2, rfl, hbl2, _⟩ := (hC'.rd hbel6).at_ (by omega)
                obtain ⟨Aj, cj, f1, hBj, hj1, hj2⟩ := hH' i (by omega)
                have hmi : (mixL cs (i + 1))[i]'(by omega) = t9 cs[i] := by rw [mixL_at, if_pos (by omega)]
                rw [hmi] at f1 hBj hj1
                have h9l : (t9 cs[i]).length ≤ 900 := by unfold t9; rw [List.length_take]; omega
                have HTK := hide (show ((cs.take (i + 1)).map t9).map cS = ((cs.take i).map t9).map cS ++ [cS (t9 cs[i])] from by rw [List.take_succ_eq_append_getElem hlt2, List.map_append, List.map_append]; rfl)
                have ce6 : w6.cell? ⟨b2, off2 + i, none⟩ = some (.slice Aj (t9 cs[i]).length cj) := rd_cell (hC'.rd hbel6) (by omega) f1
                have hcv : (_root_.Go.convert 58 9 (.slice Aj (t9 cs[i]).length cj)).run Tryd.prog w6 = .ok (.string ⟨(t9 cs[i]).toArray⟩) w6 := run_str w6 Aj cj _ (hBj.below hbel6)
                have HLC := hide (show ∀ w', Sig w' → Below w5.heap.size w5 w' → Calls Tryd.prog 31 #[.slice Aj (t9 cs[i]).length cj] w' (FsErr w' (cutL (t9 cs[i]))) from fun w' hS hb => lcut_any Aj _ cj w' hS (hBj.below hb) (by omega) hj1 hj2)
                have HRC := hide (show ∀ w', Calls Tryd.prog 32 #[.string ⟨(t9 cs[i]).toArray⟩] w' (FsErr w' (cutL (t9 cs[i]))) from fun w' => by rw [← cut_same]; exact rlcut_any _ w' (by omega))
                have hcl := cutL_len (t9 cs[i])
                obtain ⟨L, hL⟩ : ∃ L, L = (cutL (t9 cs[i])).1 := ⟨_, rfl⟩
                obtain ⟨en, hen⟩ : ∃ en, en = (cutL (t9 cs[i])).2 := ⟨_, rfl⟩
                have hLe : cutL (t9 cs[i]) = (L, en) := by rw [hL, hen]
                rw [hLe] at HLC HRC hcl
                clear hL hen hLe hmi
                have hvj := f1
                generalize t9 cs[i] = x9 at f1 hBj hj1 HTK ce6 hcv HLC HRC h9l hvj
                have HF1 := hide hvj; have HC' := hide hC'; have HH' := hide hH'; have HD' := hide hd2'
                have hneq : ((en : Int) != en) = false := by simp
                obtain ⟨n9, hn9⟩ : ∃ n9, n9 = x9.length := ⟨_, rfl⟩
                rw [← hn9] at ce6 hcv HLC hvj
                simp only at hcl
                have HVJ := hide hvj
                have hi34 : i + 1 ≤ 34359738368 := by omega
                clear hn9 hvj f1 hC' hH' hd2' hBj hj1 hj2 ce1 HV HBX HX1 HX2 hx2' hb'
                go_wp2_with (first
                  | (go_at_call 20; refine (rsame_any A8 L c8 A9 L c9 _ (HX8.out.below hb9) HX9.out (by omega) (by omega)).mono ?_; rintro e w10 ⟨rfl, nd, rfl⟩)
                  | (go_at_call 32; refine (HRC.out _).mono ?_; rintro e w9 ⟨A9, c9, rfl, hown9, hb9⟩; have HX9 := hide (Fs.of_own rfl hown9))
                  | (go_at_call 31; refine (HLC.out _ (HSg.out.below (below_trans HB5.out hb7)) hb7).mono ?_; rintro e w8 ⟨A8, c8, rfl, hown8, hb8⟩; have HX8 := hide (Fs.of_own rfl hown8); have ce8 : w8.cell? ⟨g7, i, none⟩ = some (.string ⟨x9.toArray⟩) := (hb8.cell (p := ⟨g7, i, none⟩) hg7).trans ct7)
                  | (at_builtin; refine wpList_appEG w6 rfl (.tmp 83) (.tmp 89) _ rfl w5 w5.heap.size 9 9 _ 1 16 Tryd.underlying56 info_str rfl (by omega) (by omega) _ i _ #[cS x9] (by rfl) w6.heap.size rfl (by rfl) rfl (by intro u hu; simp at hu; subst hu; rfl) HT6.out hbel6 hbel6.size (by omega) ?_; intro g7 cap7 w7 hown7 hb7 hgr7; have HC7 := hide ((HC'.out.below (gr1 w6 (.cells #[cS x9] 9))).appended (HT6.out.alloc _) (by decide) hgr7); have ce7 : w7.cell? ⟨b2, off2 + i, none⟩ = some (.slice Aj n9 cj) := rd_cell (HC7.out.rd hb7) (by omega) HVJ.out; have hg7 : g7 < w7.heap.size := own_lt hown7 (by omega); have ct7 : w7.cell? ⟨g7, i, none⟩ = some (.string ⟨x9.toArray⟩) := own_at hown7 (by omega) (own_last HT6.out)))
                refine ⟨⟨i + 1, some ⟨b2, off2, none⟩, d', some ⟨g7, 0, none⟩, cap7, vs', by omega, by go_num, rfl, (HC7.out.below (hb8.trans (hb9.mono hb8.size))).drewN nd, HH'.out, hd1', HD'.out, rfl, ?_, below_drewN (hb7.trans ((hb8.trans (hb9.mono hb8.size)).mono hb7.size)) nd⟩, by simp [intOf]; omega⟩
                rw [HTK.out]; exact own_drewN (own_below hown7 (hb8.trans (hb9.mono hb8.size))) nd
            · have hie : i = cs.length := by omega
              have hlt2' : ¬ (i : Int) < cs.length := by omega
              have HRS := hide (show Bss wr C (cs.map t9) from bss_rh HC.out (by rw [← mixL_all, ← hie]; exact HH.out) (by simp) hbel)
              have HTS := hide (show Ss wr T (cs.map t9) from by
                have := Rd.of_own HT.out
                rw [hie, List.take_length] at this
                unfold Ss
                rwa [show (cs.map t9).length = cs.length from by simp])
              have h900 : ∀ x ∈ cs.map t9, x.length ≤ 34359738368 := by
                intro x hx
                obtain ⟨y, _, rfl⟩ := List.mem_map.1 hx
                unfold t9; rw [List.length_take]; omega
              have hcl : (cs.map t9).length = cs.length := by simp
              have HLO := hide (show ∀ w', Sig w' → Bss w' C (cs.map t9) → Calls Tryd.prog 33 #[.slice C cs.length d1] w' (FsErr2 w' (ofP cutL (cs.map t9))) from fun w' hS hB => by
                have := lof_any C (cs.map t9) d1 w' hS hB (by omega) h900
                rwa [hcl] at this)
              have HRO := hide (show ∀ w', Ss w' T (cs.map t9) → Calls Tryd.prog 34 #[.slice T i ct] w' (FsErr2 w' (ofP cutL (cs.map t9))) from fun w' hB => by
                have := rof_any T (cs.map t9) ct w' hB (by omega) h900
                rwa [hcl, ← hie, cutRL] at this)
              have hol : (ofP cutL (cs.map t9)).1.length ≤ 64 := ofGo_len _ _ _ _ _ _
              obtain ⟨L, hL⟩ : ∃ L, L = (ofP cutL (cs.map t9)).1 := ⟨_, rfl⟩
              obtain ⟨en, hen⟩ : ∃ en, en = (ofP cutL (cs.map t9)).2.1 := ⟨_, rfl⟩
              obtain ⟨pl, hpl⟩ : ∃ pl, pl = (ofP cutL (cs.map t9)).2.2 := ⟨_, rfl⟩
              have hLe : ofP cutL (cs.map t9) = (L, en, pl) := by rw [hL, hen, hpl]
              rw [hLe] at HLO HRO hol
              simp only at hol
              have hq1 : ((en : Int) == en) = true := by simp
              have hq2 : ((pl : Int) == pl) = true := by simp
              have HBE := hide (below_trans HB5.out hbel)
              clear hL hen hpl hLe hie hcl h900 HC HH HT HD2 hbel
              go_wp2_with (first
                | (go_at_call 14; refine (awake_any _ (HSg.out.below (below_drewN HB9.out nd))).mono ?_; rintro e w10 ⟨rfl, hb10⟩)
                | (go_at_call 20; refine (rsame_any A7 L c7 A8 L c8 _ HX7b.out HX8.out (by omega) (by omega)).mono ?_; rintro e w9 ⟨rfl, nd, rfl⟩)
                | (go_at_call 34; refine (HRO.out _ (HTS.out.below hb7)).mono ?_; rintro e w8 ⟨A8, c8, rfl, hown8, hb8⟩; have HX8 := hide (Fs.of_own rfl hown8); have HX7b := hide (HX7.out.below hb8); have HB9 := hide (below_trans HB7.out hb8))
                | (go_at_call 33; refine (HLO.out _ (HSg.out.below HBE.out) HRS.out).mono ?_; rintro e w7 ⟨A7, c7, rfl, hown7, hb7⟩; have HX7 := hide (Fs.of_own rfl hown7); have HB7 := hide (below_trans HBE.out hb7)))
              go_ret
              exact ⟨rfl, below_trans (below_drewN HB9.out nd) hb10⟩
end Go.Proofs.YtagdjoabpkmomaaDoor
