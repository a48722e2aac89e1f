/-
  Texts laid together, part 6 of 6: laws of a walk over data, contracts of functions, each whole by itself.
-/
import Derived.Test.YtopifabnobplcaaDoorMgb
import Derived.Test.YtopifabnobplcaaDoorMge
import Derived.Test.YtopifabnobplcaaDoorMgd
namespace Go.Proofs.YtopifabnobplcaaDoor
open Go.RowKit
set_option linter.unusedVariables false
set_option linter.unusedSimpArgs false
set_option maxRecDepth 100000
theorem keyB_max {k : Bytes} (h : k.length ≤ 60) : k.length ≤ maxLen := Nat.le_trans h (by decide)
theorem weight_le {l : List Item} (hl : leafB l = true) (hn : ∀ x ∈ l, NumOk x) (hk : ∀ x ∈ l, x.key.length ≤ 60) : weight l ≤ l.length * 160 := by
  have hv := ((leafB_iff l).1 hl).2.1
  clear hl
  unfold weight
  induction l with
  | nil => exact Nat.zero_le _
  | cons x r ih =>
    have h1 := ih (fun y hy => hn y (List.mem_cons_of_mem _ hy)) (fun y hy => hk y (List.mem_cons_of_mem _ hy)) (fun y hy => hv y (List.mem_cons_of_mem _ hy))
    have h2 := hk x (List.mem_cons_self ..)
    have h3 := hn x (List.mem_cons_self ..)
    have h4 := hv x (List.mem_cons_self ..)
    have h5 : valB x.kind x.i x.s = true := by
      unfold itemB at h4
      simp only [Bool.and_eq_true] at h4
      exact h4.1.1.1.2
    have h6 := encV_len h3.1 h3.2 h5
    simp only [List.map_cons, List.sum_cons, List.length_cons]
    omega
def Tr.In (t : Tr) : Prop := ∀ i, (t.leaf i).length ≤ maxLen ∧ (∀ x ∈ t.leaf i, NumOk x) ∧ (16 ≤ i → t.leaf i = [])
theorem few_ok {t : Tr} (h : t.In) : (fewT t 16).Ok := by
  intro i
  by_cases hi : i < 16
  · have e : (fewT t 16).leaf i = fewL (t.leaf i) := by simp [fewT, hi]
    have hlen : (fewL (t.leaf i)).length ≤ 66 := by simp [fewL]; omega
    have hx : ∀ x ∈ fewL (t.leaf i), x.key.length ≤ 60 ∧ NumOk x := by
      intro x hx
      simp only [fewL, List.mem_map] at hx
      obtain ⟨y, hy, rfl⟩ := hx
      exact ⟨by simp [Item.one]; omega, (h i).2.1 y (List.mem_of_mem_take hy)⟩
    rw [e]
    refine ⟨by omega, fun x hq => ⟨keyB_max (hx x hq).1, (hx x hq).2⟩, ?_⟩
    unfold weightP
    split
    · rename_i hl
      have := weight_le hl (fun x hq => (hx x hq).2) (fun x hq => (hx x hq).1)
      omega
    · omega
  · have e : (fewT t 16).leaf i = [] := by simp only [fewT, hi, if_false]; exact (h i).2.2 (by omega)
    rw [e]; exact nilOk
theorem Tr.In.len {t : Tr} (h : t.In) : ∀ i, (t.leaf i).length ≤ maxLen := fun i => (h i).1
theorem gok_sig {W : World} (h : Sig W) : GOk GG (SW W) := by
  intro g d hg j y hy
  simp only [GG, List.mem_singleton, Prod.mk.injEq] at hg
  obtain ⟨rfl, rfl⟩ := hg
  match j with
  | 0 => simp [cellsOf] at hy; subst hy; exact ⟨1, _, h.2.1, rfl, rfl, rfl⟩
  | 1 => simp [cellsOf] at hy; subst hy; exact ⟨1, _, h.2.2, rfl, rfl, rfl⟩
  | j + 2 => simp [cellsOf] at hy
theorem ofT_val {n : Nat} {ds : List AV} (h : ofT Tryd.prog n 66 ds) : ∃ (k i : Int) (s : Bytes), ds = [nA k, nA i, sA s] ∧ (-9223372036854775808 ≤ i ∧ i < 9223372036854775808) ∧ s.length ≤ maxLen := by
  obtain ⟨m, a1, b1, rfl, h1, a2, b2, rfl, h2, a3, b3, rfl, h3, rfl⟩ := ofT_struct Tryd.underlying66 h
  obtain ⟨k, rfl, _⟩ := ofT_i64 Tryd.underlying3 h1
  obtain ⟨i, rfl, hi⟩ := ofT_i64 Tryd.underlying2 h2
  obtain ⟨s, rfl, hs⟩ := ofT_str Tryd.underlying9 h3
  exact ⟨k, i, s, rfl, hi, hs⟩
theorem ofT_item {n : Nat} {ds : List AV} (h : ofT Tryd.prog n 68 ds) : ∃ x : Item, ds = x.cells.map (fun u => V u) ∧ ItemIn x := by
  obtain ⟨m, a1, b1, rfl, h1, a2, b2, rfl, h2, a3, b3, rfl, h3, rfl⟩ := ofT_struct Tryd.underlying68 h
  obtain ⟨k, rfl, hk⟩ := ofT_str Tryd.underlying9 h1
  obtain ⟨kd, i, s, rfl, hi, hs⟩ := ofT_val h2
  obtain ⟨v, rfl, _⟩ := ofT_i64 Tryd.underlying3 h3
  exact ⟨⟨k, kd, i, s, v⟩, rfl, hk, hs, hi⟩
theorem agg_item : aggT Tryd.prog 68 = true := by kernel_rfl
theorem ofT_items {n : Nat} {ds : List AV} (h : ofT Tryd.prog n 31 ds) : ∃ l : List Item, ds = [lA l] ∧ l.length ≤ maxLen ∧ ∀ x ∈ l, ItemIn x := by
  obtain ⟨m, es, rfl, hl, he⟩ := ofT_slice Tryd.underlying31 h
  obtain ⟨l, rfl, hi⟩ := list_of (f := flA Item.cells) (Q := ItemIn) fun x hx => by
    obtain ⟨q1, q2⟩ := he x hx
    obtain ⟨y, hy, hi⟩ := ofT_item q1
    exact ⟨y, by rw [cells_agg (q2.trans agg_item), hy]; rfl, hi⟩
  exact ⟨l, rfl, by simpa using hl, hi⟩
theorem flat_one {α β : Type} {f : β → α} {k : List β} : (k.map fun y => [f y]).flatten = k.map f := by
  induction k with
  | nil => rfl
  | cons x r ih => simp [ih]
theorem map_get {α β : Type} (f : α → β) (l : List α) (d : α) : l.map f = (List.range l.length).map fun i => f (l.getD i d) := by
  refine List.ext_getElem (by simp) fun i h1 h2 => ?_
  simp only [List.length_map] at h1
  simp [List.getElem_map, h1]
theorem ofT_trunk {n : Nat} {ds : List AV} (h : ofT Tryd.prog n 35 ds) : ∃ t : Tr, ds = tC t ∧ t.In := by
  obtain ⟨m, a1, b1, rfl, h1, a2, b2, rfl, h2, rfl⟩ := ofT_struct Tryd.underlying35 h
  obtain ⟨m1, ps, hp, rfl, hq⟩ := ofT_array Tryd.underlying32 h1
  obtain ⟨m2, qs, hp2, rfl, hq2⟩ := ofT_array Tryd.underlying33 h2
  obtain ⟨L, rfl, hL⟩ := list_of (f := fun l : List Item => [lA l]) (Q := fun l => l.length ≤ maxLen ∧ ∀ x ∈ l, ItemIn x) fun x hx => ofT_items (hq x hx)
  obtain ⟨Z, rfl, hZ⟩ := list_of (f := fun z : Int => [nA z]) (Q := fun _ => True) fun x hx => by
    obtain ⟨i, e, _⟩ := ofT_i64 Tryd.underlying3 (hq2 x hx)
    exact ⟨i, e, trivial⟩
  rw [List.length_map] at hp hp2
  refine ⟨⟨fun i => L.getD i [], fun i => Z.getD i 0⟩, ?_, fun i => ?_⟩
  · rw [List.append_nil, flat_one, flat_one, map_get lA L [], map_get nA Z 0, hp, hp2]
    rfl
  · dsimp only
    by_cases hi : i < L.length
    · have e : L.getD i [] = L[i] := by simp [hi]
      have hm := hL L[i] (List.getElem_mem hi)
      rw [e]
      exact ⟨hm.1, fun x hx => (hm.2 x hx).2.2, fun q => by omega⟩
    · have e : L.getD i [] = [] := by simp [List.getD, List.getElem?_eq_none (Nat.le_of_not_lt hi)]
      rw [e]
      exact ⟨Nat.zero_le _, (by intro x hx; cases hx), fun _ => rfl⟩
theorem ofT_store {n : Nat} {ds : List AV} (h : ofT Tryd.prog n 37 ds) : ∃ s : St, ds = stC s ∧ s.t.In := by
  obtain ⟨m, a1, b1, rfl, h1, a2, b2, rfl, h2, a3, b3, rfl, h3, a4, b4, rfl, h4, rfl⟩ := ofT_struct Tryd.underlying37 h
  obtain ⟨t, rfl, ht⟩ := ofT_trunk h1
  obtain ⟨v, rfl, _⟩ := ofT_i64 Tryd.underlying3 h2
  obtain ⟨b, rfl, _⟩ := ofT_i64 Tryd.underlying3 h3
  obtain ⟨k, rfl, _⟩ := ofT_i64 Tryd.underlying3 h4
  exact ⟨⟨t, v, b, k⟩, rfl, ht⟩
theorem ofT_snap {n : Nat} {ds : List AV} (h : ofT Tryd.prog n 40 ds) : ∃ x : Sn, ds = nA x.seq :: stC x.s ∧ x.s.t.In := by
  obtain ⟨m, a1, b1, rfl, h1, a2, b2, rfl, h2, rfl⟩ := ofT_struct Tryd.underlying40 h
  obtain ⟨q, rfl, _⟩ := ofT_i64 Tryd.underlying3 h1
  obtain ⟨s, rfl, hs⟩ := ofT_store h2
  exact ⟨⟨q, s⟩, by rw [List.append_nil]; rfl, hs⟩
theorem agg_snap : aggT Tryd.prog 40 = true := by kernel_rfl
theorem ofT_snaps {n : Nat} {ds : List AV} (h : ofT Tryd.prog n 22 ds) : ∃ l : List Sn, ds = [lS l] ∧ l.length ≤ maxLen ∧ ∀ x ∈ l, x.s.t.In := by
  obtain ⟨m, es, rfl, hl, he⟩ := ofT_slice Tryd.underlying22 h
  obtain ⟨l, rfl, hi⟩ := list_of (f := snE) (Q := fun x => x.s.t.In) fun x hx => by
    obtain ⟨q1, q2⟩ := he x hx
    obtain ⟨y, hy, hi⟩ := ofT_snap q1
    exact ⟨y, by rw [cells_agg (q2.trans agg_snap), hy]; rfl, hi⟩
  exact ⟨l, rfl, by simpa using hl, hi⟩
theorem mk_snaps {d : AV} : mkA Tryd.prog 22 [d] = d := by
  unfold mkA
  rw [if_neg (by rw [show aggT Tryd.prog 22 = false by kernel_rfl]; decide)]
  rfl
theorem mk_int {d : AV} : mkA Tryd.prog 3 [d] = d := by
  unfold mkA
  rw [if_neg (by rw [show aggT Tryd.prog 3 = false by kernel_rfl]; decide)]
  rfl
theorem arg_snaps {W : World} {v : Value} (h : Arg Tryd.prog W 22 v) : ∃ l : List Sn, (l.length ≤ maxLen ∧ ∀ x ∈ l, x.s.t.In) ∧ rep (SW W) [] (lS l) v := by
  obtain ⟨n, ds, h1, h2⟩ := h
  obtain ⟨t, rfl, ht⟩ := ofT_snaps h1
  rw [mk_snaps] at h2
  exact ⟨t, ht, h2⟩
theorem arg_int {W : World} {v : Value} (h : Arg Tryd.prog W 3 v) : ∃ i : Int, (-9223372036854775808 ≤ i ∧ i < 9223372036854775808) ∧ rep (SW W) [] (nA i) v := by
  obtain ⟨n, ds, h1, h2⟩ := h
  obtain ⟨t, rfl, ht⟩ := ofT_i64 Tryd.underlying3 h1
  rw [mk_int] at h2
  exact ⟨t, ht, h2⟩
theorem fewS_ok {l : List Sn} (h : ∀ x ∈ l, x.s.t.In) : ∀ x ∈ fewS l, x.s.t.Ok := by
  intro x hx
  unfold fewS at hx
  obtain ⟨y, hy, rfl⟩ := List.mem_map.1 hx
  exact few_ok (h y (List.mem_of_mem_take hy))
theorem reps3 {S : SS} {d0 d1 d2 : AV} {v0 v1 v2 : Value} (h0 : rep S [] d0 v0) (h1 : rep S [] d1 v1) (h2 : rep S [] d2 v2) : ∀ (j : Nat) (d : AV) (v : Value), [d0, d1, d2][j]? = some d → [v0, v1, v2][j]? = some v → rep S [] d v := by
  intro j d v hd hv
  match j with
  | 0 => simp at hd hv; subst hd hv; exact h0
  | 1 => simp at hd hv; subst hd hv; exact h1
  | 2 => simp at hd hv; subst hd hv; exact h2
  | j + 3 => simp at hd
end Go.Proofs.YtopifabnobplcaaDoor

namespace Go.Proofs.YtopifabnobplcaaDoor
open Go.RowKit
set_option linter.unusedVariables false
set_option maxRecDepth 100000
def zc_api_Trunk : List AV := [(V (.slice none 0 0)), (V (.slice none 0 0)), (V (.slice none 0 0)), (V (.slice none 0 0)), (V (.slice none 0 0)), (V (.slice none 0 0)), (V (.slice none 0 0)), (V (.slice none 0 0)), (V (.slice none 0 0)), (V (.slice none 0 0)), (V (.slice none 0 0)), (V (.slice none 0 0)), (V (.slice none 0 0)), (V (.slice none 0 0)), (V (.slice none 0 0)), (V (.slice none 0 0)), (V (.int .i64 0)), (V (.int .i64 0)), (V (.int .i64 0)), (V (.int .i64 0)), (V (.int .i64 0)), (V (.int .i64 0)), (V (.int .i64 0)), (V (.int .i64 0)), (V (.int .i64 0)), (V (.int .i64 0)), (V (.int .i64 0)), (V (.int .i64 0)), (V (.int .i64 0)), (V (.int .i64 0)), (V (.int .i64 0)), (V (.int .i64 0))]
noncomputable def plenumlaw14_SnapDrops_c : Code := (Tryd.f7.body).getD .skip
def plenumlaw14_SnapDrops_h : Hint := (.two .n (.two .n (.two .n (.two .n (.two (.two .n (.two (.two .n .n) .n)) (.join [0, 1, 2, 9, 10] (.join [0, 1, 2, 9, 10, 63] .n (.two (.two .n .n) .n)) (.two .n (.join [0, 9, 10, 11, 12] (.join [0, 9, 10, 11, 12, 75] .n (.two (.two .n .n) .n)) (.two .n (.join [9, 10, 13] (.two .n (.one (.lp [] [0, 9, 10, 11, 12, 13, 14] [6, 9, 10, 13] (.two (.two .n (.two .n .n)) (.join [0, 9, 10, 11, 12, 13, 14] (.one (.two .n (.join [0, 9, 10, 11, 12, 13, 14, 122] .n (.two (.join [0, 9, 10, 11, 12, 13, 14] (.join [0, 9, 10, 11, 12, 13, 14, 134] .n (.two (.two .n .n) .n)) .n) .n)))) .n))))) (.two .n .n)))))))))))
noncomputable def plenumlaw14_SnapDrops_env (m : Nat) : Env := [(8, .tell (plenumlaw14_Few_t m)), (21, .tell (snap_Drop_t m)), (22, .tell (snap_Changed_t m)), (18, .tell (plenumref14_Is_t m)), (11, .tell (plenumlaw14_awake_t m)), (23, .tell (plenumref14_Drop_t m)), (15, .tell (plenumref14_Same_t m)), (20, .tell (plenumref14_At_t m)), (24, .tell (plenumref09_Same_t m))]
noncomputable abbrev plenumlaw14_SnapDrops_fin : KO (AV × List AObj) := tellFK Tryd.prog [.tmp 6]
noncomputable def plenumlaw14_SnapDrops_r11 (m : Nat) (n0 : Nat) (kc : ASt → RO) (kx : KO (AV × List AObj)) (s : ASt) : RO := joinW Tryd.prog GG (plenumlaw14_SnapDrops_env m) m 148 (cdR (cdR (cdL (cdL (cdR (cdL (cdR (cdR (cdR (cdR (cdR (cdR (cdR (cdR (cdR plenumlaw14_SnapDrops_c))))))))))))))) plenumlaw14_SnapDrops_h.r.r.r.r.r.r.r.r.r.l.r.c.c.r.r s (backW n0 [0, 9, 10, 11, 12, 13, 14] [6, 9, 10, 13] kc kx)
noncomputable def plenumlaw14_SnapDrops_r10 (m : Nat) (n0 : Nat) (kc : ASt → RO) (kx : KO (AV × List AObj)) (s : ASt) : RO := joinW Tryd.prog GG (plenumlaw14_SnapDrops_env m) m 148 (cdR (cdR (cdL (cdL (cdR (cdL (cdR (cdR (cdR (cdR (cdR (cdR (cdR (cdR (cdR plenumlaw14_SnapDrops_c))))))))))))))) plenumlaw14_SnapDrops_h.r.r.r.r.r.r.r.r.r.l.r.c.c.r.r s (backW n0 [0, 9, 10, 11, 12, 13, 14] [6, 9, 10, 13] kc kx)
noncomputable def plenumlaw14_SnapDrops_r9 (m : Nat) (n0 : Nat) (kc : ASt → RO) (kx : KO (AV × List AObj)) (s : ASt) : RO := joinW Tryd.prog GG (plenumlaw14_SnapDrops_env m) m 148 (cdR (cdL (cdR (cdR (cdL (cdL (cdR (cdL (cdL (cdR (cdL (cdR (cdR (cdR (cdR (cdR (cdR (cdR (cdR (cdR plenumlaw14_SnapDrops_c)))))))))))))))))))) plenumlaw14_SnapDrops_h.r.r.r.r.r.r.r.r.r.l.r.c.c.r.l.c.r.r.l.r s (blockX 1 (seqX (fun s => plenumlaw14_SnapDrops_r11 m n0 kc kx ⟨s.H, [(0, gt s.T 0), (9, gt s.T 9), (10, gt s.T 10), (11, gt s.T 11), (12, gt s.T 12), (13, gt s.T 13), (14, gt s.T 14)]⟩) (backW n0 [0, 9, 10, 11, 12, 13, 14] [6, 9, 10, 13] kc kx)))
noncomputable def plenumlaw14_SnapDrops_r8 (m : Nat) (n0 : Nat) (kc : ASt → RO) (kx : KO (AV × List AObj)) (s : ASt) : RO := joinW Tryd.prog GG (plenumlaw14_SnapDrops_env m) m 148 (cdR (cdR (cdL (cdL (cdR (cdL (cdR (cdR (cdR (cdR (cdR (cdR (cdR (cdR (cdR plenumlaw14_SnapDrops_c))))))))))))))) plenumlaw14_SnapDrops_h.r.r.r.r.r.r.r.r.r.l.r.c.c.r.r s (backW n0 [0, 9, 10, 11, 12, 13, 14] [6, 9, 10, 13] kc kx)
noncomputable def plenumlaw14_SnapDrops_r7 (m : Nat) (n0 : Nat) (kc : ASt → RO) (kx : KO (AV × List AObj)) (s : ASt) : RO := joinW Tryd.prog GG (plenumlaw14_SnapDrops_env m) m 148 (cdR (cdL (cdL (cdR (cdR (cdL (cdL (cdR (cdL (cdL (cdR (cdL (cdR (cdR (cdR (cdR (cdR (cdR (cdR (cdR (cdR plenumlaw14_SnapDrops_c))))))))))))))))))))) plenumlaw14_SnapDrops_h.r.r.r.r.r.r.r.r.r.l.r.c.c.r.l.c.r.r.l.l.r s (seqX (fun s => plenumlaw14_SnapDrops_r9 m n0 kc kx ⟨s.H, [(0, gt s.T 0), (9, gt s.T 9), (10, gt s.T 10), (11, gt s.T 11), (12, gt s.T 12), (13, gt s.T 13), (14, gt s.T 14)]⟩) (blockX 1 (seqX (fun s => plenumlaw14_SnapDrops_r10 m n0 kc kx ⟨s.H, [(0, gt s.T 0), (9, gt s.T 9), (10, gt s.T 10), (11, gt s.T 11), (12, gt s.T 12), (13, gt s.T 13), (14, gt s.T 14)]⟩) (backW n0 [0, 9, 10, 11, 12, 13, 14] [6, 9, 10, 13] kc kx))))
noncomputable def plenumlaw14_SnapDrops_r6 (m : Nat) (n0 : Nat) (kc : ASt → RO) (kx : KO (AV × List AObj)) (s : ASt) : RO := joinW Tryd.prog GG (plenumlaw14_SnapDrops_env m) m 148 (cdR (cdR (cdL (cdL (cdR (cdL (cdL (cdR (cdL (cdR (cdR (cdR (cdR (cdR (cdR (cdR (cdR (cdR plenumlaw14_SnapDrops_c)))))))))))))))))) plenumlaw14_SnapDrops_h.r.r.r.r.r.r.r.r.r.l.r.c.c.r.l.c.r.r s (blockX 1 (seqX (fun s => plenumlaw14_SnapDrops_r8 m n0 kc kx ⟨s.H, [(0, gt s.T 0), (9, gt s.T 9), (10, gt s.T 10), (11, gt s.T 11), (12, gt s.T 12), (13, gt s.T 13), (14, gt s.T 14)]⟩) (backW n0 [0, 9, 10, 11, 12, 13, 14] [6, 9, 10, 13] kc kx)))
noncomputable def plenumlaw14_SnapDrops_r5 (m : Nat) (s : ASt) : RO := joinW Tryd.prog GG (plenumlaw14_SnapDrops_env m) m 148 (cdR (cdR (cdR (cdR (cdR (cdR (cdR (cdR (cdR (cdR plenumlaw14_SnapDrops_c)))))))))) plenumlaw14_SnapDrops_h.r.r.r.r.r.r.r.r.r.r s (plenumlaw14_SnapDrops_fin)
noncomputable def plenumlaw14_SnapDrops_b1 (m : Nat) (s : ASt) (kc : ASt → RO) (kx : KO (AV × List AObj)) : RO := bodyW Tryd.prog GG (plenumlaw14_SnapDrops_env m) m 148 (cdL (cdL (cdR (cdL (cdR (cdR (cdR (cdR (cdR (cdR (cdR (cdR (cdR plenumlaw14_SnapDrops_c))))))))))))) plenumlaw14_SnapDrops_h.r.r.r.r.r.r.r.r.r.l.r.c.c [0, 9, 10, 11, 12, 13, 14] [6, 9, 10, 13] s kc kx
noncomputable def plenumlaw14_SnapDrops_r4 (m : Nat) (s : ASt) : RO := joinW Tryd.prog GG (plenumlaw14_SnapDrops_env m) m 148 (cdR (cdR (cdR (cdR (cdR (cdR (cdR (cdR plenumlaw14_SnapDrops_c)))))))) plenumlaw14_SnapDrops_h.r.r.r.r.r.r.r.r s (plenumlaw14_SnapDrops_fin)
noncomputable def plenumlaw14_SnapDrops_r3 (m : Nat) (s : ASt) : RO := joinW Tryd.prog GG (plenumlaw14_SnapDrops_env m) m 148 (cdR (cdL (cdR (cdR (cdR (cdR (cdR (cdR (cdR plenumlaw14_SnapDrops_c))))))))) plenumlaw14_SnapDrops_h.r.r.r.r.r.r.r.l.r s (seqX (fun s => plenumlaw14_SnapDrops_r4 m ⟨s.H, [(0, gt s.T 0), (9, gt s.T 9), (10, gt s.T 10), (11, gt s.T 11), (12, gt s.T 12)]⟩) (plenumlaw14_SnapDrops_fin))
noncomputable def plenumlaw14_SnapDrops_r2 (m : Nat) (s : ASt) : RO := joinW Tryd.prog GG (plenumlaw14_SnapDrops_env m) m 148 (cdR (cdR (cdR (cdR (cdR (cdR plenumlaw14_SnapDrops_c)))))) plenumlaw14_SnapDrops_h.r.r.r.r.r.r s (plenumlaw14_SnapDrops_fin)
noncomputable def plenumlaw14_SnapDrops_r1 (m : Nat) (s : ASt) : RO := joinW Tryd.prog GG (plenumlaw14_SnapDrops_env m) m 148 (cdR (cdL (cdR (cdR (cdR (cdR (cdR plenumlaw14_SnapDrops_c))))))) plenumlaw14_SnapDrops_h.r.r.r.r.r.l.r s (seqX (fun s => plenumlaw14_SnapDrops_r2 m ⟨s.H, [(0, gt s.T 0), (1, gt s.T 1), (2, gt s.T 2), (9, gt s.T 9), (10, gt s.T 10)]⟩) (plenumlaw14_SnapDrops_fin))
noncomputable def plenumlaw14_SnapDrops (m : Nat) (t0 t1 t2 : AV) : RO := exec Tryd.prog GG (plenumlaw14_SnapDrops_env m) m 148 plenumlaw14_SnapDrops_c plenumlaw14_SnapDrops_h ⟨[], argsT 0 [t0, t1, t2]⟩ (plenumlaw14_SnapDrops_fin)
theorem plenumlaw14_SnapDrops_r11_eq (m : Nat) (n0 : Nat) (kc : ASt → RO) (kx : KO (AV × List AObj)) (H : List AObj) (t0 t9 t10 t11 t12 t13 t14 : AV) : plenumlaw14_SnapDrops_r11 m n0 kc kx ⟨H, [(0, t0), (9, t9), (10, t10), (11, t11), (12, t12), (13, t13), (14, t14)]⟩ =
  binE none false false .add t14 (V (.int .i64 1)) fun t89 =>
  backE n0 H [(0, t0), (9, t9), (10, t10), (11, t11), (12, t12), (13, t13), (14, t89)] kc := by
  refine (joinW_eq Tryd.prog GG (plenumlaw14_SnapDrops_env m) m 148 (cdR (cdR (cdL (cdL (cdR (cdL (cdR (cdR (cdR (cdR (cdR (cdR (cdR (cdR (cdR plenumlaw14_SnapDrops_c))))))))))))))) plenumlaw14_SnapDrops_h.r.r.r.r.r.r.r.r.r.l.r.c.c.r.r ⟨H, [(0, t0), (9, t9), (10, t10), (11, t11), (12, t12), (13, t13), (14, t14)]⟩ (backW n0 [0, 9, 10, 11, 12, 13, 14] [6, 9, 10, 13] kc kx)).trans ?_
  kernel_rfl
theorem plenumlaw14_SnapDrops_r10_eq (m : Nat) (n0 : Nat) (kc : ASt → RO) (kx : KO (AV × List AObj)) (H : List AObj) (t0 t9 t10 t11 t12 t13 t14 : AV) : plenumlaw14_SnapDrops_r10 m n0 kc kx ⟨H, [(0, t0), (9, t9), (10, t10), (11, t11), (12, t12), (13, t13), (14, t14)]⟩ =
  binE none false false .add t14 (V (.int .i64 1)) fun t89 =>
  backE n0 H [(0, t0), (9, t9), (10, t10), (11, t11), (12, t12), (13, t13), (14, t89)] kc := by
  refine (joinW_eq Tryd.prog GG (plenumlaw14_SnapDrops_env m) m 148 (cdR (cdR (cdL (cdL (cdR (cdL (cdR (cdR (cdR (cdR (cdR (cdR (cdR (cdR (cdR plenumlaw14_SnapDrops_c))))))))))))))) plenumlaw14_SnapDrops_h.r.r.r.r.r.r.r.r.r.l.r.c.c.r.r ⟨H, [(0, t0), (9, t9), (10, t10), (11, t11), (12, t12), (13, t13), (14, t14)]⟩ (backW n0 [0, 9, 10, 11, 12, 13, 14] [6, 9, 10, 13] kc kx)).trans ?_
  kernel_rfl
theorem plenumlaw14_SnapDrops_r9_eq (m : Nat) (n0 : Nat) (kc : ASt → RO) (kx : KO (AV × List AObj)) (H : List AObj) (t0 t9 t10 t11 t12 t13 t14 : AV) : plenumlaw14_SnapDrops_r9 m n0 kc kx ⟨H, [(0, t0), (9, t9), (10, t10), (11, t11), (12, t12), (13, t13), (14, t14)]⟩ =
  binE none false false .add t13 (V (.int .i64 1)) fun t136 =>
  plenumlaw14_SnapDrops_r11 m n0 kc kx ⟨H, [(0, t0), (9, t9), (10, t10), (11, t11), (12, t12), (13, t136), (14, t14)]⟩ := by
  refine (joinW_eq Tryd.prog GG (plenumlaw14_SnapDrops_env m) m 148 (cdR (cdL (cdR (cdR (cdL (cdL (cdR (cdL (cdL (cdR (cdL (cdR (cdR (cdR (cdR (cdR (cdR (cdR (cdR (cdR plenumlaw14_SnapDrops_c)))))))))))))))))))) plenumlaw14_SnapDrops_h.r.r.r.r.r.r.r.r.r.l.r.c.c.r.l.c.r.r.l.r ⟨H, [(0, t0), (9, t9), (10, t10), (11, t11), (12, t12), (13, t13), (14, t14)]⟩ (blockX 1 (seqX (fun s => plenumlaw14_SnapDrops_r11 m n0 kc kx ⟨s.H, [(0, gt s.T 0), (9, gt s.T 9), (10, gt s.T 10), (11, gt s.T 11), (12, gt s.T 12), (13, gt s.T 13), (14, gt s.T 14)]⟩) (backW n0 [0, 9, 10, 11, 12, 13, 14] [6, 9, 10, 13] kc kx)))).trans ?_
  kernel_rfl
theorem plenumlaw14_SnapDrops_r8_eq (m : Nat) (n0 : Nat) (kc : ASt → RO) (kx : KO (AV × List AObj)) (H : List AObj) (t0 t9 t10 t11 t12 t13 t14 : AV) : plenumlaw14_SnapDrops_r8 m n0 kc kx ⟨H, [(0, t0), (9, t9), (10, t10), (11, t11), (12, t12), (13, t13), (14, t14)]⟩ =
  binE none false false .add t14 (V (.int .i64 1)) fun t89 =>
  backE n0 H [(0, t0), (9, t9), (10, t10), (11, t11), (12, t12), (13, t13), (14, t89)] kc := by
  refine (joinW_eq Tryd.prog GG (plenumlaw14_SnapDrops_env m) m 148 (cdR (cdR (cdL (cdL (cdR (cdL (cdR (cdR (cdR (cdR (cdR (cdR (cdR (cdR (cdR plenumlaw14_SnapDrops_c))))))))))))))) plenumlaw14_SnapDrops_h.r.r.r.r.r.r.r.r.r.l.r.c.c.r.r ⟨H, [(0, t0), (9, t9), (10, t10), (11, t11), (12, t12), (13, t13), (14, t14)]⟩ (backW n0 [0, 9, 10, 11, 12, 13, 14] [6, 9, 10, 13] kc kx)).trans ?_
  kernel_rfl
theorem plenumlaw14_SnapDrops_r7_eq (m : Nat) (n0 : Nat) (kc : ASt → RO) (kx : KO (AV × List AObj)) (H : List AObj) (t0 t9 t10 t11 t12 t13 t14 t134 : AV) : plenumlaw14_SnapDrops_r7 m n0 kc kx ⟨H, [(0, t0), (9, t9), (10, t10), (11, t11), (12, t12), (13, t13), (14, t14), (134, t134)]⟩ =
  condE t134 (
   kx .ret ⟨H, [(6, (V (.bool false))), (9, t9), (10, t10), (13, t13)]⟩) (
   plenumlaw14_SnapDrops_r9 m n0 kc kx ⟨H, [(0, t0), (9, t9), (10, t10), (11, t11), (12, t12), (13, t13), (14, t14)]⟩) := by
  refine (joinW_eq Tryd.prog GG (plenumlaw14_SnapDrops_env m) m 148 (cdR (cdL (cdL (cdR (cdR (cdL (cdL (cdR (cdL (cdL (cdR (cdL (cdR (cdR (cdR (cdR (cdR (cdR (cdR (cdR (cdR plenumlaw14_SnapDrops_c))))))))))))))))))))) plenumlaw14_SnapDrops_h.r.r.r.r.r.r.r.r.r.l.r.c.c.r.l.c.r.r.l.l.r ⟨H, [(0, t0), (9, t9), (10, t10), (11, t11), (12, t12), (13, t13), (14, t14), (134, t134)]⟩ (seqX (fun s => plenumlaw14_SnapDrops_r9 m n0 kc kx ⟨s.H, [(0, gt s.T 0), (9, gt s.T 9), (10, gt s.T 10), (11, gt s.T 11), (12, gt s.T 12), (13, gt s.T 13), (14, gt s.T 14)]⟩) (blockX 1 (seqX (fun s => plenumlaw14_SnapDrops_r10 m n0 kc kx ⟨s.H, [(0, gt s.T 0), (9, gt s.T 9), (10, gt s.T 10), (11, gt s.T 11), (12, gt s.T 12), (13, gt s.T 13), (14, gt s.T 14)]⟩) (backW n0 [0, 9, 10, 11, 12, 13, 14] [6, 9, 10, 13] kc kx))))).trans ?_
  kernel_rfl
theorem plenumlaw14_SnapDrops_r6_eq (m : Nat) (n0 : Nat) (kc : ASt → RO) (kx : KO (AV × List AObj)) (H : List AObj) (t0 t9 t10 t11 t12 t13 t14 t122 : AV) : plenumlaw14_SnapDrops_r6 m n0 kc kx ⟨H, [(0, t0), (9, t9), (10, t10), (11, t11), (12, t12), (13, t13), (14, t14), (122, t122)]⟩ =
  condE t122 (
   lenE false true H t9 fun t125 =>
   binE none false false .geq t13 t125 fun t126 =>
   condE t126 (
    plenumlaw14_SnapDrops_r7 m n0 kc kx ⟨H, [(0, t0), (9, t9), (10, t10), (11, t11), (12, t12), (13, t13), (14, t14), (134, (V (.bool true)))]⟩) (
    idxSE 1 H t9 t13 fun t130 =>
    loadE 1 H t130 fun t131 =>
    binE none false false .neq t131 t14 fun t133 =>
    plenumlaw14_SnapDrops_r7 m n0 kc kx ⟨H, [(0, t0), (9, t9), (10, t10), (11, t11), (12, t12), (13, t13), (14, t14), (134, t133)]⟩)) (
   plenumlaw14_SnapDrops_r8 m n0 kc kx ⟨H, [(0, t0), (9, t9), (10, t10), (11, t11), (12, t12), (13, t13), (14, t14)]⟩) := by
  refine (joinW_eq Tryd.prog GG (plenumlaw14_SnapDrops_env m) m 148 (cdR (cdR (cdL (cdL (cdR (cdL (cdL (cdR (cdL (cdR (cdR (cdR (cdR (cdR (cdR (cdR (cdR (cdR plenumlaw14_SnapDrops_c)))))))))))))))))) plenumlaw14_SnapDrops_h.r.r.r.r.r.r.r.r.r.l.r.c.c.r.l.c.r.r ⟨H, [(0, t0), (9, t9), (10, t10), (11, t11), (12, t12), (13, t13), (14, t14), (122, t122)]⟩ (blockX 1 (seqX (fun s => plenumlaw14_SnapDrops_r8 m n0 kc kx ⟨s.H, [(0, gt s.T 0), (9, gt s.T 9), (10, gt s.T 10), (11, gt s.T 11), (12, gt s.T 12), (13, gt s.T 13), (14, gt s.T 14)]⟩) (backW n0 [0, 9, 10, 11, 12, 13, 14] [6, 9, 10, 13] kc kx)))).trans ?_
  kernel_rfl
theorem plenumlaw14_SnapDrops_r5_eq (m : Nat) (H : List AObj) (t9 t10 t13 : AV) : plenumlaw14_SnapDrops_r5 m ⟨H, [(9, t9), (10, t10), (13, t13)]⟩ =
  lenE false true H t9 fun t139 =>
  binE none false false .eql t13 t139 fun t140 =>
  condE t140 (
   binE none false false .eql t10 (V (.int .i64 0)) fun t143 =>
   condE t143 (
   tellE (plenumlaw14_awake m) [] fun t146 =>
   tellK H (ro H t146)) (
   tellK H (ro H (V (.bool false))))) (
   tellK H (ro H (V (.bool false)))) := by
  refine (joinW_eq Tryd.prog GG (plenumlaw14_SnapDrops_env m) m 148 (cdR (cdR (cdR (cdR (cdR (cdR (cdR (cdR (cdR (cdR plenumlaw14_SnapDrops_c)))))))))) plenumlaw14_SnapDrops_h.r.r.r.r.r.r.r.r.r.r ⟨H, [(9, t9), (10, t10), (13, t13)]⟩ (plenumlaw14_SnapDrops_fin)).trans ?_
  kernel_rfl
theorem plenumlaw14_SnapDrops_b1_eq (m : Nat) (H : List AObj) (t0 t9 t10 t11 t12 t13 t14 : AV) (kc : ASt → RO) (kx : KO (AV × List AObj)) : plenumlaw14_SnapDrops_b1 m ⟨H, [(0, t0), (9, t9), (10, t10), (11, t11), (12, t12), (13, t13), (14, t14)]⟩ kc kx =
  binE none false false .lss t14 (V (.int .i64 16)) fun t87 =>
  condE t87 (
   idxSE 38 H t0 t11 fun t92 =>
   fieldE (some (1, 37)) t92 fun t93 =>
   fieldE (some (0, 34)) t93 fun t94 =>
   loadE 34 H t94 fun t95 =>
   idxSE 38 [] t0 t12 fun t98 =>
   fieldE (some (1, 37)) t98 fun t99 =>
   fieldE (some (0, 34)) t99 fun t100 =>
   loadE 34 [] t100 fun t101 =>
   allocE (some zc_api_Trunk) ty_api_Trunk H fun t15 H2 =>
   allocE (some zc_api_Trunk) ty_api_Trunk H2 fun t16 H3 =>
   storeE 34 H3 t15 t95 fun H4 =>
   storeE 34 H4 t16 t101 fun H5 =>
   fieldE (some (16, 18)) t15 fun t103 =>
   idxPE 16 1 t103 t14 fun t104 =>
   loadE 1 H5 t104 fun t105 =>
   fieldE (some (16, 18)) t16 fun t107 =>
   idxPE 16 1 t107 t14 fun t108 =>
   loadE 1 H5 t108 fun t109 =>
   binE none false false .neq t105 t109 fun t110 =>
   condE t110 (
    plenumlaw14_SnapDrops_r6 m H.length kc kx ⟨H5, [(0, t0), (9, t9), (10, t10), (11, t11), (12, t12), (13, t13), (14, t14), (122, (V (.bool true)))]⟩) (
    fieldE (some (0, 18)) t15 fun t113 =>
    idxPE 16 1 t113 t14 fun t114 =>
    loadE 1 H5 t114 fun t115 =>
    fieldE (some (0, 18)) t16 fun t117 =>
    idxPE 16 1 t117 t14 fun t118 =>
    loadE 1 H5 t118 fun t119 =>
    tellE (plenumref09_Same_t m [(ro H5 t115), (ro H5 t119)]) [(ro H5 t115), (ro H5 t119)] fun t120 =>
    unE .not t120 fun t121 =>
    plenumlaw14_SnapDrops_r6 m H.length kc kx ⟨H5, [(0, t0), (9, t9), (10, t10), (11, t11), (12, t12), (13, t13), (14, t14), (122, t121)]⟩)) (
   kx (.exit 0) ⟨H, [(6, .nil), (9, t9), (10, t10), (13, t13)]⟩) := by
  refine (bodyW_eq Tryd.prog GG (plenumlaw14_SnapDrops_env m) m 148 (cdL (cdL (cdR (cdL (cdR (cdR (cdR (cdR (cdR (cdR (cdR (cdR (cdR plenumlaw14_SnapDrops_c))))))))))))) plenumlaw14_SnapDrops_h.r.r.r.r.r.r.r.r.r.l.r.c.c [0, 9, 10, 11, 12, 13, 14] [6, 9, 10, 13] ⟨H, [(0, t0), (9, t9), (10, t10), (11, t11), (12, t12), (13, t13), (14, t14)]⟩ kc kx).trans ?_
  kernel_rfl
theorem plenumlaw14_SnapDrops_r4_eq (m : Nat) (H : List AObj) (t0 t9 t10 t11 t12 : AV) : plenumlaw14_SnapDrops_r4 m ⟨H, [(0, t0), (9, t9), (10, t10), (11, t11), (12, t12)]⟩ =
  iterC m (plenumlaw14_SnapDrops_b1 m) ⟨H, [(0, t0), (9, t9), (10, t10), (11, t11), (12, t12), (13, (V (.int .i64 0))), (14, (V (.int .i64 0)))]⟩ (blockX 0 (seqX (fun s => plenumlaw14_SnapDrops_r5 m ⟨s.H, [(9, gt s.T 9), (10, gt s.T 10), (13, gt s.T 13)]⟩) (plenumlaw14_SnapDrops_fin))) := by
  refine (joinW_eq Tryd.prog GG (plenumlaw14_SnapDrops_env m) m 148 (cdR (cdR (cdR (cdR (cdR (cdR (cdR (cdR plenumlaw14_SnapDrops_c)))))))) plenumlaw14_SnapDrops_h.r.r.r.r.r.r.r.r ⟨H, [(0, t0), (9, t9), (10, t10), (11, t11), (12, t12)]⟩ (plenumlaw14_SnapDrops_fin)).trans ?_
  kernel_rfl
theorem plenumlaw14_SnapDrops_r3_eq (m : Nat) (H : List AObj) (t0 t9 t10 t11 t12 t75 : AV) : plenumlaw14_SnapDrops_r3 m ⟨H, [(0, t0), (9, t9), (10, t10), (11, t11), (12, t12), (75, t75)]⟩ =
  condE t75 (
   lenE false true H t9 fun t77 =>
   binE none false false .eql t77 (V (.int .i64 0)) fun t78 =>
   condE t78 (
    binE none false false .eql t10 (V (.int .i64 6)) fun t81 =>
    condE t81 (
    tellE (plenumlaw14_awake m) [] fun t84 =>
    tellK H (ro H t84)) (
    tellK H (ro H (V (.bool false))))) (
    tellK H (ro H (V (.bool false))))) (
   plenumlaw14_SnapDrops_r4 m ⟨H, [(0, t0), (9, t9), (10, t10), (11, t11), (12, t12)]⟩) := by
  refine (joinW_eq Tryd.prog GG (plenumlaw14_SnapDrops_env m) m 148 (cdR (cdL (cdR (cdR (cdR (cdR (cdR (cdR (cdR plenumlaw14_SnapDrops_c))))))))) plenumlaw14_SnapDrops_h.r.r.r.r.r.r.r.l.r ⟨H, [(0, t0), (9, t9), (10, t10), (11, t11), (12, t12), (75, t75)]⟩ (seqX (fun s => plenumlaw14_SnapDrops_r4 m ⟨s.H, [(0, gt s.T 0), (9, gt s.T 9), (10, gt s.T 10), (11, gt s.T 11), (12, gt s.T 12)]⟩) (plenumlaw14_SnapDrops_fin))).trans ?_
  kernel_rfl
theorem plenumlaw14_SnapDrops_r2_eq (m : Nat) (H : List AObj) (t0 t1 t2 t9 t10 : AV) : plenumlaw14_SnapDrops_r2 m ⟨H, [(0, t0), (1, t1), (2, t2), (9, t9), (10, t10)]⟩ =
  tellE (plenumref14_At m (ro H t0) (ro H t1)) [(ro H t0), (ro H t1)] fun t66 =>
  tellE (plenumref14_At m (ro H t0) (ro H t2)) [(ro H t0), (ro H t2)] fun t69 =>
  binE none false false .lss t66 (V (.int .i64 0)) fun t71 =>
  condE t71 (
   plenumlaw14_SnapDrops_r3 m ⟨H, [(0, t0), (9, t9), (10, t10), (11, t66), (12, t69), (75, (V (.bool true)))]⟩) (
   binE none false false .lss t69 (V (.int .i64 0)) fun t74 =>
   plenumlaw14_SnapDrops_r3 m ⟨H, [(0, t0), (9, t9), (10, t10), (11, t66), (12, t69), (75, t74)]⟩) := by
  refine (joinW_eq Tryd.prog GG (plenumlaw14_SnapDrops_env m) m 148 (cdR (cdR (cdR (cdR (cdR (cdR plenumlaw14_SnapDrops_c)))))) plenumlaw14_SnapDrops_h.r.r.r.r.r.r ⟨H, [(0, t0), (1, t1), (2, t2), (9, t9), (10, t10)]⟩ (plenumlaw14_SnapDrops_fin)).trans ?_
  kernel_rfl
theorem plenumlaw14_SnapDrops_r1_eq (m : Nat) (H : List AObj) (t0 t1 t2 t9 t10 t63 : AV) : plenumlaw14_SnapDrops_r1 m ⟨H, [(0, t0), (1, t1), (2, t2), (9, t9), (10, t10), (63, t63)]⟩ =
  condE t63 (
   tellK H (ro H (V (.bool false)))) (
   plenumlaw14_SnapDrops_r2 m ⟨H, [(0, t0), (1, t1), (2, t2), (9, t9), (10, t10)]⟩) := by
  refine (joinW_eq Tryd.prog GG (plenumlaw14_SnapDrops_env m) m 148 (cdR (cdL (cdR (cdR (cdR (cdR (cdR plenumlaw14_SnapDrops_c))))))) plenumlaw14_SnapDrops_h.r.r.r.r.r.l.r ⟨H, [(0, t0), (1, t1), (2, t2), (9, t9), (10, t10), (63, t63)]⟩ (seqX (fun s => plenumlaw14_SnapDrops_r2 m ⟨s.H, [(0, gt s.T 0), (1, gt s.T 1), (2, gt s.T 2), (9, gt s.T 9), (10, gt s.T 10)]⟩) (plenumlaw14_SnapDrops_fin))).trans ?_
  kernel_rfl
theorem plenumlaw14_SnapDrops_eq (m : Nat) (t0 t1 t2 : AV) : plenumlaw14_SnapDrops m t0 t1 t2 =
  tellE (plenumlaw14_Few m (ro [] t0)) [(ro [] t0)] fun t18 =>
  tellE (snap_Drop m (ro [] t18) (ro [] t1)) [(ro [] t18), (ro [] t1)] fun t22 =>
  extE t22 0 fun t23 =>
  extE t22 1 fun t24 =>
  tellE (snap_Changed m (ro [] t18) (ro [] t1) (ro [] t2)) [(ro [] t18), (ro [] t1), (ro [] t2)] fun t29 =>
  extE t29 0 fun t30 =>
  extE t29 1 fun t31 =>
  tellE (plenumref14_Is m (ro [] t18)) [(ro [] t18)] fun t33 =>
  unE .not t33 fun t34 =>
  condE t34 (
   lenE false true [] t23 fun t36 =>
   binE none false false .eql t36 (V (.int .i64 0)) fun t37 =>
   condE t37 (
    binE none false false .eql t24 (V (.int .i64 1)) fun t40 =>
    condE t40 (
    lenE false true [] t30 fun t44 =>
    binE none false false .eql t44 (V (.int .i64 0)) fun t45 =>
    condE t45 (
    binE none false false .eql t31 (V (.int .i64 1)) fun t49 =>
    condE t49 (
    tellE (plenumlaw14_awake m) [] fun t52 =>
    tellK [] (ro [] t52)) (
    tellK [] (ro [] (V (.bool false))))) (
    tellK [] (ro [] (V (.bool false))))) (
    tellK [] (ro [] (V (.bool false))))) (
    tellK [] (ro [] (V (.bool false))))) (
   tellE (plenumref14_Drop m (ro [] t18) (ro [] t1)) [(ro [] t18), (ro [] t1)] fun t57 =>
   tellE (plenumref14_Same m (ro [] t23) (ro [] t57)) [(ro [] t23), (ro [] t57)] fun t58 =>
   unE .not t58 fun t59 =>
   condE t59 (
    plenumlaw14_SnapDrops_r1 m ⟨[], [(0, t18), (1, t1), (2, t2), (9, t30), (10, t31), (63, (V (.bool true)))]⟩) (
    binE none false false .neq t24 (V (.int .i64 0)) fun t62 =>
    plenumlaw14_SnapDrops_r1 m ⟨[], [(0, t18), (1, t1), (2, t2), (9, t30), (10, t31), (63, t62)]⟩)) := by
  refine (tellX Tryd.prog GG (plenumlaw14_SnapDrops_env m) m 148 plenumlaw14_SnapDrops_c plenumlaw14_SnapDrops_h ⟨[], argsT 0 [t0, t1, t2]⟩ [.tmp 6]).trans ?_
  kernel_rfl
noncomputable def plenumlaw14_SnapDrops_t (m : Nat) : List AV → RO | [t0, t1, t2] => plenumlaw14_SnapDrops m t0 t1 t2 | _ => none
theorem plenumlaw14_SnapDrops_ok (m : Nat) : ∀ args X H', plenumlaw14_SnapDrops_t m args = some (X, H') → ACp Tryd.prog GG 7 args X := by
  intro args X H' h
  unfold plenumlaw14_SnapDrops_t at h
  split at h
  · exact tell_okK MIX (by
    intro f e h
    simp only [plenumlaw14_SnapDrops_env, Prod.mk.injEq, List.mem_cons, List.not_mem_nil, or_false] at h
    rcases h with ⟨rfl, rfl⟩ | ⟨rfl, rfl⟩ | ⟨rfl, rfl⟩ | ⟨rfl, rfl⟩ | ⟨rfl, rfl⟩ | ⟨rfl, rfl⟩ | ⟨rfl, rfl⟩ | ⟨rfl, rfl⟩ | ⟨rfl, rfl⟩
    · exact plenumlaw14_Few_ok m
    · exact snap_Drop_ok m
    · exact snap_Changed_ok m
    · exact plenumref14_Is_ok m
    · exact plenumlaw14_awake_ok m
    · exact plenumref14_Drop_ok m
    · exact plenumref14_Same_ok m
    · exact plenumref14_At_ok m
    · exact plenumref09_Same_ok m) (f := 7) (c := plenumlaw14_SnapDrops_c) Tryd.func7 rfl (by kernel_rfl) _ rfl Tryd.ntmps7 (Nat.le_of_ble_eq_true rfl) plenumlaw14_SnapDrops_h h
  · cases h
end Go.Proofs.YtopifabnobplcaaDoor

namespace Go.Proofs.YtopifabnobplcaaDoor
open Go.RowKit
set_option linter.unusedVariables false
set_option maxRecDepth 100000
end Go.Proofs.YtopifabnobplcaaDoor

namespace Go.Proofs.YtopifabnobplcaaDoor
open Go.RowKit
set_option linter.unusedVariables false
set_option maxRecDepth 100000
end Go.Proofs.YtopifabnobplcaaDoor

namespace Go.Proofs.YtopifabnobplcaaDoor
open Go.RowKit
set_option linter.unusedVariables false
set_option linter.unusedSimpArgs false
set_option maxRecDepth 20000
def atL (l : List Sn) (q : Int) : St × Int := if isL l then (match l[fromL l q]? with
  | none => (St.zero, 6)
  | some x => if x.seq = q then (x.s, 0) else (St.zero, 6)) else (St.zero, 1)
theorem at_s (m : Nat) (l : List Sn) (q : Int) (hm : 16000000 < m) (h : ∀ x ∈ l, x.s.t.Ok) : snap_At m (lS l) (nA q) = some (TU [stA (atL l q).1, nA (atL l q).2], []) := by
  have hI := sis_s m l hm h
  rw [lS_def] at hI ⊢
  rw [snap_At_eq]
  unfold atL
  cases hi : isL l with
  | false =>
    rw [hi] at hI
    simp (config := {maxSteps := 4000000, implicitDefEqProofs := false}) (disch := omega) only [go_sem, ↓reduceIte, Nat.reduceAdd, Nat.reduceSub, Nat.reduceMul, Nat.reduceLeDiff, Nat.reduceLT, Int.reduceEq, Int.reduceNe, Int.reduceLT, Int.reduceLE, Int.reduceAdd, Int.reduceSub, Int.reduceMul, Int.reduceNeg, Nat.zero_add, Nat.add_zero, Nat.mul_one, Int.toNat_natCast, Int.natCast_zero, Int.cast_ofNat_Int, or_false, false_or, or_true, true_or, Int.reduceToNat, Nat.sub_zero, Int.natCast_nonneg, Int.toNat_zero, Bool.true_and, Bool.and_true, Bool.false_and, Bool.and_false, Bool.true_or, Bool.or_true, Bool.false_or, Bool.or_false, Bool.not_true, Bool.not_false, Bool.not_not, true_and, and_true, false_and, and_false, not_true_eq_false, not_false_eq_true, eq_self, decide_true, decide_false, ne_eq, implies_true, forall_const, true_implies, false_implies, Bool.true_eq_false, Bool.false_eq_true, reduceCtorEq, List.map_cons, List.map_nil, List.all_cons, List.all_nil, List.length_cons, List.length_nil, List.length_map, List.length_append, List.nil_append, List.cons_append, List.set_cons_zero, List.set_cons_succ, List.set_nil, List.drop_zero, List.drop_succ_cons, List.drop_nil, List.take_zero, List.take_succ_cons, List.take_nil, Option.map_some, Option.map_none, Option.isSome_some, Nat.reduceEqDiff, Nat.reduceBEq, Nat.reduceGT, List.all_append, List.all_map, Function.comp_def, decide_eq_true_eq, Bool.and_eq_true, beq_self_eq_true, or_self, and_self, ite_true, ite_false, Nat.le_refl, Bool.not_eq_true, decide_not, Bool.not_eq_true', decide_eq_false_iff_not, Bool.not_eq_false, Bool.or_eq_true, if_true, if_false, ite_self, hI, sn_it, sn_allA, zcS_eq, zS_len, zS_sure, zS_ltA, zS_lt1, zS_all1, zS_ro, zS_take, ss_zz, u_bS0, stA_def]
  | true =>
    rw [hi] at hI
    have h8 := isL_len hi
    have hF := from_s m l q (by omega) (by omega) (isL_inc hi)
    rw [lS_def] at hF
    have hfl := fromL_le l q
    generalize fromL l q = p at hF hfl
    by_cases hp : p = l.length
    · subst hp
      rw [List.getElem?_eq_none (Nat.le_refl _)]
      simp (config := {maxSteps := 4000000, implicitDefEqProofs := false}) (disch := omega) only [go_sem, ↓reduceIte, Nat.reduceAdd, Nat.reduceSub, Nat.reduceMul, Nat.reduceLeDiff, Nat.reduceLT, Int.reduceEq, Int.reduceNe, Int.reduceLT, Int.reduceLE, Int.reduceAdd, Int.reduceSub, Int.reduceMul, Int.reduceNeg, Nat.zero_add, Nat.add_zero, Nat.mul_one, Int.toNat_natCast, Int.natCast_zero, Int.cast_ofNat_Int, or_false, false_or, or_true, true_or, Int.reduceToNat, Nat.sub_zero, Int.natCast_nonneg, Int.toNat_zero, Bool.true_and, Bool.and_true, Bool.false_and, Bool.and_false, Bool.true_or, Bool.or_true, Bool.false_or, Bool.or_false, Bool.not_true, Bool.not_false, Bool.not_not, true_and, and_true, false_and, and_false, not_true_eq_false, not_false_eq_true, eq_self, decide_true, decide_false, ne_eq, implies_true, forall_const, true_implies, false_implies, Bool.true_eq_false, Bool.false_eq_true, reduceCtorEq, List.map_cons, List.map_nil, List.all_cons, List.all_nil, List.length_cons, List.length_nil, List.length_map, List.length_append, List.nil_append, List.cons_append, List.set_cons_zero, List.set_cons_succ, List.set_nil, List.drop_zero, List.drop_succ_cons, List.drop_nil, List.take_zero, List.take_succ_cons, List.take_nil, Option.map_some, Option.map_none, Option.isSome_some, Nat.reduceEqDiff, Nat.reduceBEq, Nat.reduceGT, List.all_append, List.all_map, Function.comp_def, decide_eq_true_eq, Bool.and_eq_true, beq_self_eq_true, or_self, and_self, ite_true, ite_false, Nat.le_refl, Bool.not_eq_true, decide_not, Bool.not_eq_true', decide_eq_false_iff_not, Bool.not_eq_false, Bool.or_eq_true, if_true, if_false, ite_self, hI, hF, sn_it, sn_allA, zcS_eq, zS_len, zS_sure, zS_ltA, zS_lt1, zS_all1, zS_ro, zS_take, ss_zz, u_bS0, stA_def, snap_At_r1_eq]
    · have hlt : p < l.length := by omega
      have hp' : ¬ (p : Int) = (l.length : Int) := by omega
      have hlt' : (p : Int) < (l.length : Int) := by omega
      rw [List.getElem?_eq_getElem hlt]
      by_cases hq : l[p].seq = q
      · simp (config := {maxSteps := 4000000, implicitDefEqProofs := false}) (disch := omega) only [go_sem, ↓reduceIte, Nat.reduceAdd, Nat.reduceSub, Nat.reduceMul, Nat.reduceLeDiff, Nat.reduceLT, Int.reduceEq, Int.reduceNe, Int.reduceLT, Int.reduceLE, Int.reduceAdd, Int.reduceSub, Int.reduceMul, Int.reduceNeg, Nat.zero_add, Nat.add_zero, Nat.mul_one, Int.toNat_natCast, Int.natCast_zero, Int.cast_ofNat_Int, or_false, false_or, or_true, true_or, Int.reduceToNat, Nat.sub_zero, Int.natCast_nonneg, Int.toNat_zero, Bool.true_and, Bool.and_true, Bool.false_and, Bool.and_false, Bool.true_or, Bool.or_true, Bool.false_or, Bool.or_false, Bool.not_true, Bool.not_false, Bool.not_not, true_and, and_true, false_and, and_false, not_true_eq_false, not_false_eq_true, eq_self, decide_true, decide_false, ne_eq, implies_true, forall_const, true_implies, false_implies, Bool.true_eq_false, Bool.false_eq_true, reduceCtorEq, List.map_cons, List.map_nil, List.all_cons, List.all_nil, List.length_cons, List.length_nil, List.length_map, List.length_append, List.nil_append, List.cons_append, List.set_cons_zero, List.set_cons_succ, List.set_nil, List.drop_zero, List.drop_succ_cons, List.drop_nil, List.take_zero, List.take_succ_cons, List.take_nil, Option.map_some, Option.map_none, Option.isSome_some, Nat.reduceEqDiff, Nat.reduceBEq, Nat.reduceGT, List.all_append, List.all_map, Function.comp_def, decide_eq_true_eq, Bool.and_eq_true, beq_self_eq_true, or_self, and_self, ite_true, ite_false, Nat.le_refl, Bool.not_eq_true, decide_not, Bool.not_eq_true', decide_eq_false_iff_not, Bool.not_eq_false, Bool.or_eq_true, if_true, if_false, ite_self, hI, hF, hp', hlt', natInt, u_nthM, sn_it, sn_allA, zcS_eq, zS_len, zS_lt1, ss_zs, stC_len, st_ltA, st_sure, st_lt1, st_all1, st_ro, st_take35, stA_def, hq, snap_At_r1_eq, snap_At_r2_eq]
      · simp (config := {maxSteps := 4000000, implicitDefEqProofs := false}) (disch := omega) only [go_sem, ↓reduceIte, Nat.reduceAdd, Nat.reduceSub, Nat.reduceMul, Nat.reduceLeDiff, Nat.reduceLT, Int.reduceEq, Int.reduceNe, Int.reduceLT, Int.reduceLE, Int.reduceAdd, Int.reduceSub, Int.reduceMul, Int.reduceNeg, Nat.zero_add, Nat.add_zero, Nat.mul_one, Int.toNat_natCast, Int.natCast_zero, Int.cast_ofNat_Int, or_false, false_or, or_true, true_or, Int.reduceToNat, Nat.sub_zero, Int.natCast_nonneg, Int.toNat_zero, Bool.true_and, Bool.and_true, Bool.false_and, Bool.and_false, Bool.true_or, Bool.or_true, Bool.false_or, Bool.or_false, Bool.not_true, Bool.not_false, Bool.not_not, true_and, and_true, false_and, and_false, not_true_eq_false, not_false_eq_true, eq_self, decide_true, decide_false, ne_eq, implies_true, forall_const, true_implies, false_implies, Bool.true_eq_false, Bool.false_eq_true, reduceCtorEq, List.map_cons, List.map_nil, List.all_cons, List.all_nil, List.length_cons, List.length_nil, List.length_map, List.length_append, List.nil_append, List.cons_append, List.set_cons_zero, List.set_cons_succ, List.set_nil, List.drop_zero, List.drop_succ_cons, List.drop_nil, List.take_zero, List.take_succ_cons, List.take_nil, Option.map_some, Option.map_none, Option.isSome_some, Nat.reduceEqDiff, Nat.reduceBEq, Nat.reduceGT, List.all_append, List.all_map, Function.comp_def, decide_eq_true_eq, Bool.and_eq_true, beq_self_eq_true, or_self, and_self, ite_true, ite_false, Nat.le_refl, Bool.not_eq_true, decide_not, Bool.not_eq_true', decide_eq_false_iff_not, Bool.not_eq_false, Bool.or_eq_true, if_true, if_false, ite_self, hI, hF, hp', hlt', natInt, u_nthM, sn_it, sn_allA, zcS_eq, zS_len, zS_sure, zS_ltA, zS_lt1, zS_all1, zS_ro, zS_take, ss_zz, u_bS0, stA_def, stC_len, st_ltA, hq, snap_At_r1_eq]
def ratL (l : List Sn) (q : Int) : Int := match l.findIdx? fun x => decide (x.seq = q) with
  | none => -1
  | some i => i
theorem rat14_s (m : Nat) (l : List Sn) (q : Int) (hm : l.length < m) (hl : l.length ≤ 100) : plenumref14_At m (lS l) (nA q) = some (nA (ratL l q), []) := by
  rw [plenumref14_At_eq, lS_def]
  refine iter_go (ι := {k : Nat // k ≤ l.length ∧ ∀ x ∈ l.take k, x.seq ≠ q}) (fun k => ⟨[], [(0, SL (l.map snE)), (1, nA q), (5, nA k.1)]⟩) (fun k => l.length - k.1) (fun _ => some (nA (ratL l q), [])) ?_ ⟨0, Nat.zero_le _, by simp⟩ (by dsimp only; omega)
  rintro kx hkx ⟨k, hk, hall⟩ kc hkc
  dsimp only at hkc ⊢
  rw [plenumref14_At_b1_eq]
  by_cases hlt : k < l.length
  · have hlt' : (k : Int) < (l.length : Int) := by omega
    by_cases hq : l[k].seq = q
    · have hr : ratL l q = k := by
        unfold ratL
        rw [List.findIdx?_eq_some_iff_getElem.2 ⟨hlt, by simp [hq], fun j hj => by
          have := hall l[j] (List.mem_take_iff_getElem.2 ⟨j, by omega, rfl⟩)
          simp [this]⟩]
      rw [hr]
      simp (config := {maxSteps := 4000000, implicitDefEqProofs := false}) (disch := omega) only [go_sem, ↓reduceIte, Nat.reduceAdd, Nat.reduceSub, Nat.reduceMul, Nat.reduceLeDiff, Nat.reduceLT, Int.reduceEq, Int.reduceNe, Int.reduceLT, Int.reduceLE, Int.reduceAdd, Int.reduceSub, Int.reduceMul, Int.reduceNeg, Nat.zero_add, Nat.add_zero, Nat.mul_one, Int.toNat_natCast, Int.natCast_zero, Int.cast_ofNat_Int, or_false, false_or, or_true, true_or, Int.reduceToNat, Nat.sub_zero, Int.natCast_nonneg, Int.toNat_zero, Bool.true_and, Bool.and_true, Bool.false_and, Bool.and_false, Bool.true_or, Bool.or_true, Bool.false_or, Bool.or_false, Bool.not_true, Bool.not_false, Bool.not_not, true_and, and_true, false_and, and_false, not_true_eq_false, not_false_eq_true, eq_self, decide_true, decide_false, ne_eq, implies_true, forall_const, true_implies, false_implies, Bool.true_eq_false, Bool.false_eq_true, reduceCtorEq, List.map_cons, List.map_nil, List.all_cons, List.all_nil, List.length_cons, List.length_nil, List.length_map, List.length_append, List.nil_append, List.cons_append, List.set_cons_zero, List.set_cons_succ, List.set_nil, List.drop_zero, List.drop_succ_cons, List.drop_nil, List.take_zero, List.take_succ_cons, List.take_nil, Option.map_some, Option.map_none, Option.isSome_some, Nat.reduceEqDiff, Nat.reduceBEq, Nat.reduceGT, List.all_append, List.all_map, Function.comp_def, decide_eq_true_eq, Bool.and_eq_true, beq_self_eq_true, or_self, and_self, ite_true, ite_false, Nat.le_refl, Bool.not_eq_true, decide_not, Bool.not_eq_true', decide_eq_false_iff_not, Bool.not_eq_false, Bool.or_eq_true, if_true, if_false, ite_self, hkx, hlt', natInt, u_nthM, sn_it, stC_len, hq]
    · have step := hkc ⟨k + 1, by omega, fun x hx => by
        rw [List.take_succ_eq_append_getElem hlt] at hx
        rcases List.mem_append.1 hx with e | e
        · exact hall x e
        · rw [List.mem_singleton.1 e]; exact hq⟩ (by dsimp only; omega)
      simp (config := {maxSteps := 4000000, implicitDefEqProofs := false}) (disch := omega) only [go_sem, ↓reduceIte, Nat.reduceAdd, Nat.reduceSub, Nat.reduceMul, Nat.reduceLeDiff, Nat.reduceLT, Int.reduceEq, Int.reduceNe, Int.reduceLT, Int.reduceLE, Int.reduceAdd, Int.reduceSub, Int.reduceMul, Int.reduceNeg, Nat.zero_add, Nat.add_zero, Nat.mul_one, Int.toNat_natCast, Int.natCast_zero, Int.cast_ofNat_Int, or_false, false_or, or_true, true_or, Int.reduceToNat, Nat.sub_zero, Int.natCast_nonneg, Int.toNat_zero, Bool.true_and, Bool.and_true, Bool.false_and, Bool.and_false, Bool.true_or, Bool.or_true, Bool.false_or, Bool.or_false, Bool.not_true, Bool.not_false, Bool.not_not, true_and, and_true, false_and, and_false, not_true_eq_false, not_false_eq_true, eq_self, decide_true, decide_false, ne_eq, implies_true, forall_const, true_implies, false_implies, Bool.true_eq_false, Bool.false_eq_true, reduceCtorEq, List.map_cons, List.map_nil, List.all_cons, List.all_nil, List.length_cons, List.length_nil, List.length_map, List.length_append, List.nil_append, List.cons_append, List.set_cons_zero, List.set_cons_succ, List.set_nil, List.drop_zero, List.drop_succ_cons, List.drop_nil, List.take_zero, List.take_succ_cons, List.take_nil, Option.map_some, Option.map_none, Option.isSome_some, Nat.reduceEqDiff, Nat.reduceBEq, Nat.reduceGT, List.all_append, List.all_map, Function.comp_def, decide_eq_true_eq, Bool.and_eq_true, beq_self_eq_true, or_self, and_self, ite_true, ite_false, Nat.le_refl, Bool.not_eq_true, decide_not, Bool.not_eq_true', decide_eq_false_iff_not, Bool.not_eq_false, Bool.or_eq_true, if_true, if_false, ite_self, hlt', natInt, u_nthM, sn_it, stC_len, hq, w_i64, sn_allA, st_ltA, all_tt]
      exact step
  · have hlt' : ¬ (k : Int) < (l.length : Int) := by omega
    have : k = l.length := by omega
    subst this
    have hr : ratL l q = -1 := by
      unfold ratL
      rw [List.findIdx?_eq_none_iff.2 (fun x hx => by have := hall x (by rw [List.take_length]; exact hx); simp [this])]
    rw [hr]
    simp (config := {maxSteps := 4000000, implicitDefEqProofs := false}) (disch := omega) only [go_sem, ↓reduceIte, Nat.reduceAdd, Nat.reduceSub, Nat.reduceMul, Nat.reduceLeDiff, Nat.reduceLT, Int.reduceEq, Int.reduceNe, Int.reduceLT, Int.reduceLE, Int.reduceAdd, Int.reduceSub, Int.reduceMul, Int.reduceNeg, Nat.zero_add, Nat.add_zero, Nat.mul_one, Int.toNat_natCast, Int.natCast_zero, Int.cast_ofNat_Int, or_false, false_or, or_true, true_or, Int.reduceToNat, Nat.sub_zero, Int.natCast_nonneg, Int.toNat_zero, Bool.true_and, Bool.and_true, Bool.false_and, Bool.and_false, Bool.true_or, Bool.or_true, Bool.false_or, Bool.or_false, Bool.not_true, Bool.not_false, Bool.not_not, true_and, and_true, false_and, and_false, not_true_eq_false, not_false_eq_true, eq_self, decide_true, decide_false, ne_eq, implies_true, forall_const, true_implies, false_implies, Bool.true_eq_false, Bool.false_eq_true, reduceCtorEq, List.map_cons, List.map_nil, List.all_cons, List.all_nil, List.length_cons, List.length_nil, List.length_map, List.length_append, List.nil_append, List.cons_append, List.set_cons_zero, List.set_cons_succ, List.set_nil, List.drop_zero, List.drop_succ_cons, List.drop_nil, List.take_zero, List.take_succ_cons, List.take_nil, Option.map_some, Option.map_none, Option.isSome_some, Nat.reduceEqDiff, Nat.reduceBEq, Nat.reduceGT, List.all_append, List.all_map, Function.comp_def, decide_eq_true_eq, Bool.and_eq_true, beq_self_eq_true, or_self, and_self, ite_true, ite_false, Nat.le_refl, Bool.not_eq_true, decide_not, Bool.not_eq_true', decide_eq_false_iff_not, Bool.not_eq_false, Bool.or_eq_true, if_true, if_false, ite_self, hkx, hlt', plenumref14_At_r1_eq]
end Go.Proofs.YtopifabnobplcaaDoor

namespace Go.Proofs.YtopifabnobplcaaDoor
open Go.RowKit
set_option linter.unusedVariables false
set_option linter.unusedSimpArgs false
set_option maxRecDepth 20000
theorem sameS_refl (s : St) : sameS s s = true := by
  have : sameT s.t s.t = true := sameT_iff.2 fun i hi => ⟨rfl, rfl⟩
  unfold sameS
  simp [this]
theorem from_lo {l : List Sn} {q : Int} {i : Nat} (hi : i < l.length) (h : i < fromL l q) : l[i].seq < q := by
  have := List.not_of_lt_findIdx h
  simp at this
  omega
theorem from_hi {l : List Sn} {q : Int} (h : fromL l q < l.length) : q ≤ l[fromL l q].seq := by
  have := List.findIdx_getElem (p := fun x : Sn => decide (q ≤ x.seq)) (xs := l) (w := h)
  exact of_decide_eq_true this
theorem at_rat {l : List Sn} {q : Int} (hi : isL l = true) : (ratL l q = -1 ∧ atL l q = (St.zero, 6)) ∨ ∃ (i : Nat) (h : i < l.length), ratL l q = i ∧ atL l q = (l[i].s, 0) := by
  have hinc := isL_inc hi
  have hfl := fromL_le l q
  have h1 := fun (i : Nat) (hi : i < l.length) (h : i < fromL l q) => from_lo hi h
  have h2 := fun (h : fromL l q < l.length) => from_hi h
  unfold atL
  rw [if_pos hi]
  generalize fromL l q = p at hfl h1 h2 ⊢
  rcases Nat.lt_or_ge p l.length with hlt | hge
  · rw [List.getElem?_eq_getElem hlt]
    dsimp only
    by_cases hq : l[p].seq = q
    · right
      refine ⟨p, hlt, ?_, by rw [if_pos hq]⟩
      unfold ratL
      rw [List.findIdx?_eq_some_iff_getElem.2 ⟨hlt, by simp [hq], fun j hj => by
        have := h1 j (by omega) hj
        have : l[j].seq ≠ q := by omega
        simp [this]⟩]
    · left
      refine ⟨?_, by rw [if_neg hq]⟩
      unfold ratL
      rw [List.findIdx?_eq_none_iff.2 (fun x hx => by
        obtain ⟨i, hi', rfl⟩ := List.getElem_of_mem hx
        have : l[i].seq ≠ q := by
          rcases Nat.lt_trichotomy i p with e | e | e
          · have := h1 i hi' e; omega
          · subst e; exact hq
          · have := hinc p i hi' e; have := h2 hlt; omega
        simp [this])]
  · rw [List.getElem?_eq_none hge]
    left
    refine ⟨?_, rfl⟩
    unfold ratL
    rw [List.findIdx?_eq_none_iff.2 (fun x hx => by
      obtain ⟨i, hi', rfl⟩ := List.getElem_of_mem hx
      have := h1 i hi' (by omega)
      have : l[i].seq ≠ q := by omega
      simp [this])]
theorem Tr.Ok.len' {t : Tr} (h : t.Ok) (i : Nat) : (t.leaf i).length ≤ 34359738368 := Nat.le_trans (h i).1 (by omega)
end Go.Proofs.YtopifabnobplcaaDoor

namespace Go.Proofs.YtopifabnobplcaaDoor
open Go.RowKit
set_option linter.unusedVariables false
set_option linter.unusedSimpArgs false
set_option maxRecDepth 20000
def eqSn (x y : Sn) : Bool := decide (x.seq = y.seq) && sameS x.s y.s
def sameL : List Sn → List Sn → Bool
  | [], [] => true
  | x :: a, y :: b => eqSn x y && sameL a b
  | _, _ => false
theorem sameL_refl : ∀ l : List Sn, sameL l l = true
  | [] => rfl
  | x :: r => by simp [sameL, eqSn, sameS_refl, sameL_refl r]
theorem sameL_len : ∀ {a b : List Sn}, a.length ≠ b.length → sameL a b = false
  | [], [], h => absurd rfl h
  | [], y :: b, _ => rfl
  | x :: a, [], _ => rfl
  | x :: a, y :: b, h => by
    simp only [List.length_cons] at h
    simp [sameL, sameL_len (a := a) (b := b) (by omega)]
theorem sameL_drop {a b : List Sn} {k : Nat} (ha : k < a.length) (hb : k < b.length) : sameL (a.drop k) (b.drop k) = (eqSn a[k] b[k] && sameL (a.drop (k + 1)) (b.drop (k + 1))) := by
  rw [List.drop_eq_getElem_cons ha, List.drop_eq_getElem_cons hb]
  rfl
theorem rsame14_s (m : Nat) (a b : List Sn) (hm : 100 < m) (hl : a.length ≤ 64) (ha : ∀ x ∈ a, x.s.t.Ok) (hb : ∀ x ∈ b, x.s.t.Ok) : plenumref14_Same m (lS a) (lS b) = some (bA (sameL a b), []) := by
  rw [plenumref14_Same_eq, lS_def, lS_def]
  by_cases hlen : a.length = b.length
  · have hlen' : (a.length : Int) = (b.length : Int) := by omega
    simp (config := {maxSteps := 4000000, implicitDefEqProofs := false}) (disch := omega) only [go_sem, ↓reduceIte, Nat.reduceAdd, Nat.reduceSub, Nat.reduceMul, Nat.reduceLeDiff, Nat.reduceLT, Int.reduceEq, Int.reduceNe, Int.reduceLT, Int.reduceLE, Int.reduceAdd, Int.reduceSub, Int.reduceMul, Int.reduceNeg, Nat.zero_add, Nat.add_zero, Nat.mul_one, Int.toNat_natCast, Int.natCast_zero, Int.cast_ofNat_Int, or_false, false_or, or_true, true_or, Int.reduceToNat, Nat.sub_zero, Int.natCast_nonneg, Int.toNat_zero, Bool.true_and, Bool.and_true, Bool.false_and, Bool.and_false, Bool.true_or, Bool.or_true, Bool.false_or, Bool.or_false, Bool.not_true, Bool.not_false, Bool.not_not, true_and, and_true, false_and, and_false, not_true_eq_false, not_false_eq_true, eq_self, decide_true, decide_false, ne_eq, implies_true, forall_const, true_implies, false_implies, Bool.true_eq_false, Bool.false_eq_true, reduceCtorEq, List.map_cons, List.map_nil, List.all_cons, List.all_nil, List.length_cons, List.length_nil, List.length_map, List.length_append, List.nil_append, List.cons_append, List.set_cons_zero, List.set_cons_succ, List.set_nil, List.drop_zero, List.drop_succ_cons, List.drop_nil, List.take_zero, List.take_succ_cons, List.take_nil, Option.map_some, Option.map_none, Option.isSome_some, Nat.reduceEqDiff, Nat.reduceBEq, Nat.reduceGT, List.all_append, List.all_map, Function.comp_def, decide_eq_true_eq, Bool.and_eq_true, beq_self_eq_true, or_self, and_self, ite_true, ite_false, Nat.le_refl, Bool.not_eq_true, decide_not, Bool.not_eq_true', decide_eq_false_iff_not, Bool.not_eq_false, Bool.or_eq_true, if_true, if_false, ite_self, hlen, hlen']
    generalize hR : sameL a b = R
    refine iter_go (ι := {k : Nat // k ≤ a.length ∧ sameL (a.drop k) (b.drop k) = R}) (fun k => ⟨[], [(0, SL (a.map snE)), (1, SL (b.map snE)), (5, nA k.1)]⟩) (fun k => a.length - k.1) (fun _ => some (bA R, [])) ?_ ⟨0, Nat.zero_le _, hR⟩ (by dsimp only; omega)
    rintro kx hkx ⟨k, hk, hinv⟩ kc hkc
    dsimp only at hkc ⊢
    rw [plenumref14_Same_b1_eq]
    by_cases hlt : k < a.length
    · have hltb : k < b.length := by omega
      have hlt' : (k : Int) < (a.length : Int) := by omega
      have hltb' : (k : Int) < (b.length : Int) := by omega
      rw [sameL_drop hlt hltb] at hinv
      have hx := ha _ (List.getElem_mem hlt)
      have hy := hb _ (List.getElem_mem hltb)
      have hS := rsameS_s m a[k].s b[k].s (by omega) hx.len' hy.len'
      rw [stA_def, stA_def] at hS
      by_cases hq : a[k].seq = b[k].seq
      · cases hs : sameS a[k].s b[k].s with
        | false =>
          rw [hs] at hS
          have : R = false := by rw [← hinv, eqSn, hs]; simp
          rw [this]
          simp (config := {maxSteps := 4000000, implicitDefEqProofs := false}) (disch := omega) only [go_sem, ↓reduceIte, Nat.reduceAdd, Nat.reduceSub, Nat.reduceMul, Nat.reduceLeDiff, Nat.reduceLT, Int.reduceEq, Int.reduceNe, Int.reduceLT, Int.reduceLE, Int.reduceAdd, Int.reduceSub, Int.reduceMul, Int.reduceNeg, Nat.zero_add, Nat.add_zero, Nat.mul_one, Int.toNat_natCast, Int.natCast_zero, Int.cast_ofNat_Int, or_false, false_or, or_true, true_or, Int.reduceToNat, Nat.sub_zero, Int.natCast_nonneg, Int.toNat_zero, Bool.true_and, Bool.and_true, Bool.false_and, Bool.and_false, Bool.true_or, Bool.or_true, Bool.false_or, Bool.or_false, Bool.not_true, Bool.not_false, Bool.not_not, true_and, and_true, false_and, and_false, not_true_eq_false, not_false_eq_true, eq_self, decide_true, decide_false, ne_eq, implies_true, forall_const, true_implies, false_implies, Bool.true_eq_false, Bool.false_eq_true, reduceCtorEq, List.map_cons, List.map_nil, List.all_cons, List.all_nil, List.length_cons, List.length_nil, List.length_map, List.length_append, List.nil_append, List.cons_append, List.set_cons_zero, List.set_cons_succ, List.set_nil, List.drop_zero, List.drop_succ_cons, List.drop_nil, List.take_zero, List.take_succ_cons, List.take_nil, Option.map_some, Option.map_none, Option.isSome_some, Nat.reduceEqDiff, Nat.reduceBEq, Nat.reduceGT, List.all_append, List.all_map, Function.comp_def, decide_eq_true_eq, Bool.and_eq_true, beq_self_eq_true, or_self, and_self, ite_true, ite_false, Nat.le_refl, Bool.not_eq_true, decide_not, Bool.not_eq_true', decide_eq_false_iff_not, Bool.not_eq_false, Bool.or_eq_true, if_true, if_false, ite_self, hkx, hlt', hltb', natInt, u_nthM, sn_it, stC_len, hq, hS, st_take35, st_ltA, st_sure, st_lt1, st_ro]
        | true =>
          rw [hs] at hS
          have step := hkc ⟨k + 1, by omega, by rw [← hinv, eqSn, hs]; simp [hq]⟩ (by dsimp only; omega)
          simp (config := {maxSteps := 4000000, implicitDefEqProofs := false}) (disch := omega) only [go_sem, ↓reduceIte, Nat.reduceAdd, Nat.reduceSub, Nat.reduceMul, Nat.reduceLeDiff, Nat.reduceLT, Int.reduceEq, Int.reduceNe, Int.reduceLT, Int.reduceLE, Int.reduceAdd, Int.reduceSub, Int.reduceMul, Int.reduceNeg, Nat.zero_add, Nat.add_zero, Nat.mul_one, Int.toNat_natCast, Int.natCast_zero, Int.cast_ofNat_Int, or_false, false_or, or_true, true_or, Int.reduceToNat, Nat.sub_zero, Int.natCast_nonneg, Int.toNat_zero, Bool.true_and, Bool.and_true, Bool.false_and, Bool.and_false, Bool.true_or, Bool.or_true, Bool.false_or, Bool.or_false, Bool.not_true, Bool.not_false, Bool.not_not, true_and, and_true, false_and, and_false, not_true_eq_false, not_false_eq_true, eq_self, decide_true, decide_false, ne_eq, implies_true, forall_const, true_implies, false_implies, Bool.true_eq_false, Bool.false_eq_true, reduceCtorEq, List.map_cons, List.map_nil, List.all_cons, List.all_nil, List.length_cons, List.length_nil, List.length_map, List.length_append, List.nil_append, List.cons_append, List.set_cons_zero, List.set_cons_succ, List.set_nil, List.drop_zero, List.drop_succ_cons, List.drop_nil, List.take_zero, List.take_succ_cons, List.take_nil, Option.map_some, Option.map_none, Option.isSome_some, Nat.reduceEqDiff, Nat.reduceBEq, Nat.reduceGT, List.all_append, List.all_map, Function.comp_def, decide_eq_true_eq, Bool.and_eq_true, beq_self_eq_true, or_self, and_self, ite_true, ite_false, Nat.le_refl, Bool.not_eq_true, decide_not, Bool.not_eq_true', decide_eq_false_iff_not, Bool.not_eq_false, Bool.or_eq_true, if_true, if_false, ite_self, hkx, hlt', hltb', natInt, u_nthM, sn_it, stC_len, hq, hS, st_take35, st_ltA, st_sure, st_lt1, st_ro, w_i64, sn_allA, all_tt]
          exact step
      · have : R = false := by rw [← hinv, eqSn]; simp [hq]
        rw [this]
        simp (config := {maxSteps := 4000000, implicitDefEqProofs := false}) (disch := omega) only [go_sem, ↓reduceIte, Nat.reduceAdd, Nat.reduceSub, Nat.reduceMul, Nat.reduceLeDiff, Nat.reduceLT, Int.reduceEq, Int.reduceNe, Int.reduceLT, Int.reduceLE, Int.reduceAdd, Int.reduceSub, Int.reduceMul, Int.reduceNeg, Nat.zero_add, Nat.add_zero, Nat.mul_one, Int.toNat_natCast, Int.natCast_zero, Int.cast_ofNat_Int, or_false, false_or, or_true, true_or, Int.reduceToNat, Nat.sub_zero, Int.natCast_nonneg, Int.toNat_zero, Bool.true_and, Bool.and_true, Bool.false_and, Bool.and_false, Bool.true_or, Bool.or_true, Bool.false_or, Bool.or_false, Bool.not_true, Bool.not_false, Bool.not_not, true_and, and_true, false_and, and_false, not_true_eq_false, not_false_eq_true, eq_self, decide_true, decide_false, ne_eq, implies_true, forall_const, true_implies, false_implies, Bool.true_eq_false, Bool.false_eq_true, reduceCtorEq, List.map_cons, List.map_nil, List.all_cons, List.all_nil, List.length_cons, List.length_nil, List.length_map, List.length_append, List.nil_append, List.cons_append, List.set_cons_zero, List.set_cons_succ, List.set_nil, List.drop_zero, List.drop_succ_cons, List.drop_nil, List.take_zero, List.take_succ_cons, List.take_nil, Option.map_some, Option.map_none, Option.isSome_some, Nat.reduceEqDiff, Nat.reduceBEq, Nat.reduceGT, List.all_append, List.all_map, Function.comp_def, decide_eq_true_eq, Bool.and_eq_true, beq_self_eq_true, or_self, and_self, ite_true, ite_false, Nat.le_refl, Bool.not_eq_true, decide_not, Bool.not_eq_true', decide_eq_false_iff_not, Bool.not_eq_false, Bool.or_eq_true, if_true, if_false, ite_self, hkx, hlt', hltb', natInt, u_nthM, sn_it, stC_len, hq]
    · have hlt' : ¬ (k : Int) < (a.length : Int) := by omega
      have : R = true := by
        rw [← hinv, List.drop_of_length_le (by omega), List.drop_of_length_le (by omega)]
        rfl
      rw [this]
      simp (config := {maxSteps := 4000000, implicitDefEqProofs := false}) (disch := omega) only [go_sem, ↓reduceIte, Nat.reduceAdd, Nat.reduceSub, Nat.reduceMul, Nat.reduceLeDiff, Nat.reduceLT, Int.reduceEq, Int.reduceNe, Int.reduceLT, Int.reduceLE, Int.reduceAdd, Int.reduceSub, Int.reduceMul, Int.reduceNeg, Nat.zero_add, Nat.add_zero, Nat.mul_one, Int.toNat_natCast, Int.natCast_zero, Int.cast_ofNat_Int, or_false, false_or, or_true, true_or, Int.reduceToNat, Nat.sub_zero, Int.natCast_nonneg, Int.toNat_zero, Bool.true_and, Bool.and_true, Bool.false_and, Bool.and_false, Bool.true_or, Bool.or_true, Bool.false_or, Bool.or_false, Bool.not_true, Bool.not_false, Bool.not_not, true_and, and_true, false_and, and_false, not_true_eq_false, not_false_eq_true, eq_self, decide_true, decide_false, ne_eq, implies_true, forall_const, true_implies, false_implies, Bool.true_eq_false, Bool.false_eq_true, reduceCtorEq, List.map_cons, List.map_nil, List.all_cons, List.all_nil, List.length_cons, List.length_nil, List.length_map, List.length_append, List.nil_append, List.cons_append, List.set_cons_zero, List.set_cons_succ, List.set_nil, List.drop_zero, List.drop_succ_cons, List.drop_nil, List.take_zero, List.take_succ_cons, List.take_nil, Option.map_some, Option.map_none, Option.isSome_some, Nat.reduceEqDiff, Nat.reduceBEq, Nat.reduceGT, List.all_append, List.all_map, Function.comp_def, decide_eq_true_eq, Bool.and_eq_true, beq_self_eq_true, or_self, and_self, ite_true, ite_false, Nat.le_refl, Bool.not_eq_true, decide_not, Bool.not_eq_true', decide_eq_false_iff_not, Bool.not_eq_false, Bool.or_eq_true, if_true, if_false, ite_self, hkx, hlt', plenumref14_Same_r1_eq]
  · have hlen' : ¬ (a.length : Int) = (b.length : Int) := by omega
    rw [sameL_len hlen]
    simp (config := {maxSteps := 4000000, implicitDefEqProofs := false}) (disch := omega) only [go_sem, ↓reduceIte, Nat.reduceAdd, Nat.reduceSub, Nat.reduceMul, Nat.reduceLeDiff, Nat.reduceLT, Int.reduceEq, Int.reduceNe, Int.reduceLT, Int.reduceLE, Int.reduceAdd, Int.reduceSub, Int.reduceMul, Int.reduceNeg, Nat.zero_add, Nat.add_zero, Nat.mul_one, Int.toNat_natCast, Int.natCast_zero, Int.cast_ofNat_Int, or_false, false_or, or_true, true_or, Int.reduceToNat, Nat.sub_zero, Int.natCast_nonneg, Int.toNat_zero, Bool.true_and, Bool.and_true, Bool.false_and, Bool.and_false, Bool.true_or, Bool.or_true, Bool.false_or, Bool.or_false, Bool.not_true, Bool.not_false, Bool.not_not, true_and, and_true, false_and, and_false, not_true_eq_false, not_false_eq_true, eq_self, decide_true, decide_false, ne_eq, implies_true, forall_const, true_implies, false_implies, Bool.true_eq_false, Bool.false_eq_true, reduceCtorEq, List.map_cons, List.map_nil, List.all_cons, List.all_nil, List.length_cons, List.length_nil, List.length_map, List.length_append, List.nil_append, List.cons_append, List.set_cons_zero, List.set_cons_succ, List.set_nil, List.drop_zero, List.drop_succ_cons, List.drop_nil, List.take_zero, List.take_succ_cons, List.take_nil, Option.map_some, Option.map_none, Option.isSome_some, Nat.reduceEqDiff, Nat.reduceBEq, Nat.reduceGT, List.all_append, List.all_map, Function.comp_def, decide_eq_true_eq, Bool.and_eq_true, beq_self_eq_true, or_self, and_self, ite_true, ite_false, Nat.le_refl, Bool.not_eq_true, decide_not, Bool.not_eq_true', decide_eq_false_iff_not, Bool.not_eq_false, Bool.or_eq_true, if_true, if_false, ite_self, hlen, hlen']
def rdG (l : List Sn) (q : Int) : Nat → List Sn
  | 0 => []
  | k + 1 => match l[k]? with
    | none => rdG l q k
    | some x => if q ≤ x.seq ∨ k + 1 = l.length then rdG l q k ++ [x] else rdG l q k
theorem rdG_len (l : List Sn) (q : Int) : ∀ k, (rdG l q k).length ≤ k
  | 0 => Nat.le_refl _
  | k + 1 => by
    have := rdG_len l q k
    unfold rdG
    split
    · omega
    · split
      · rw [List.length_append, List.length_singleton]; omega
      · omega
theorem rdrop_s (m : Nat) (l : List Sn) (q : Int) (hm : 100 < m) (hl : l.length ≤ 64) : plenumref14_Drop m (lS l) (nA q) = some (lS (rdG l q l.length), []) := by
  rw [plenumref14_Drop_eq, lS_def, lS_def]
  simp (config := {maxSteps := 4000000, implicitDefEqProofs := false}) (disch := omega) only [go_sem, ↓reduceIte, Nat.reduceAdd, Nat.reduceSub, Nat.reduceMul, Nat.reduceLeDiff, Nat.reduceLT, Int.reduceEq, Int.reduceNe, Int.reduceLT, Int.reduceLE, Int.reduceAdd, Int.reduceSub, Int.reduceMul, Int.reduceNeg, Nat.zero_add, Nat.add_zero, Nat.mul_one, Int.toNat_natCast, Int.natCast_zero, Int.cast_ofNat_Int, or_false, false_or, or_true, true_or, Int.reduceToNat, Nat.sub_zero, Int.natCast_nonneg, Int.toNat_zero, Bool.true_and, Bool.and_true, Bool.false_and, Bool.and_false, Bool.true_or, Bool.or_true, Bool.false_or, Bool.or_false, Bool.not_true, Bool.not_false, Bool.not_not, true_and, and_true, false_and, and_false, not_true_eq_false, not_false_eq_true, eq_self, decide_true, decide_false, ne_eq, implies_true, forall_const, true_implies, false_implies, Bool.true_eq_false, Bool.false_eq_true, reduceCtorEq, List.map_cons, List.map_nil, List.all_cons, List.all_nil, List.length_cons, List.length_nil, List.length_map, List.length_append, List.nil_append, List.cons_append, List.set_cons_zero, List.set_cons_succ, List.set_nil, List.drop_zero, List.drop_succ_cons, List.drop_nil, List.take_zero, List.take_succ_cons, List.take_nil, Option.map_some, Option.map_none, Option.isSome_some, Nat.reduceEqDiff, Nat.reduceBEq, Nat.reduceGT, List.all_append, List.all_map, Function.comp_def, decide_eq_true_eq, Bool.and_eq_true, beq_self_eq_true, or_self, and_self, ite_true, ite_false, Nat.le_refl, Bool.not_eq_true, decide_not, Bool.not_eq_true', decide_eq_false_iff_not, Bool.not_eq_false, Bool.or_eq_true, if_true, if_false, ite_self, hl]
  refine iter_go (ι := {k : Nat // k ≤ l.length}) (fun k => ⟨[⟨2, ty_api_Snap, 36, (rdG l q k.1).map snE⟩], [(0, SL (l.map snE)), (1, nA q), (5, OW 0 (rdG l q k.1).length), (6, nA k.1)]⟩) (fun k => l.length - k.1) (fun _ => some (SL ((rdG l q l.length).map snE), [])) ?_ ⟨0, Nat.zero_le _⟩ (by dsimp only; omega)
  rintro kx hkx ⟨k, hk⟩ kc hkc
  dsimp only at hkc ⊢
  rw [plenumref14_Drop_b1_eq]
  by_cases hlt : k < l.length
  · have hlt' : (k : Int) < (l.length : Int) := by omega
    have step := hkc ⟨k + 1, by omega⟩ (by dsimp only; omega)
    dsimp only at step
    have hg := rdG_len l q k
    have hg1 : (rdG l q k).length + 1 ≤ 34359738368 := by omega
    have he : rdG l q (k + 1) = if q ≤ l[k].seq ∨ k + 1 = l.length then rdG l q k ++ [l[k]] else rdG l q k := by
      show (match l[k]? with | none => _ | some x => _) = _
      rw [List.getElem?_eq_getElem hlt]
    rw [he] at step
    by_cases hq : q ≤ l[k].seq
    · rw [if_pos (.inl hq), List.map_append, List.length_append] at step
      simp (config := {maxSteps := 4000000, implicitDefEqProofs := false}) (disch := omega) only [go_sem, ↓reduceIte, Nat.reduceAdd, Nat.reduceSub, Nat.reduceMul, Nat.reduceLeDiff, Nat.reduceLT, Int.reduceEq, Int.reduceNe, Int.reduceLT, Int.reduceLE, Int.reduceAdd, Int.reduceSub, Int.reduceMul, Int.reduceNeg, Nat.zero_add, Nat.add_zero, Nat.mul_one, Int.toNat_natCast, Int.natCast_zero, Int.cast_ofNat_Int, or_false, false_or, or_true, true_or, Int.reduceToNat, Nat.sub_zero, Int.natCast_nonneg, Int.toNat_zero, Bool.true_and, Bool.and_true, Bool.false_and, Bool.and_false, Bool.true_or, Bool.or_true, Bool.false_or, Bool.or_false, Bool.not_true, Bool.not_false, Bool.not_not, true_and, and_true, false_and, and_false, not_true_eq_false, not_false_eq_true, eq_self, decide_true, decide_false, ne_eq, implies_true, forall_const, true_implies, false_implies, Bool.true_eq_false, Bool.false_eq_true, reduceCtorEq, List.map_cons, List.map_nil, List.all_cons, List.all_nil, List.length_cons, List.length_nil, List.length_map, List.length_append, List.nil_append, List.cons_append, List.set_cons_zero, List.set_cons_succ, List.set_nil, List.drop_zero, List.drop_succ_cons, List.drop_nil, List.take_zero, List.take_succ_cons, List.take_nil, Option.map_some, Option.map_none, Option.isSome_some, Nat.reduceEqDiff, Nat.reduceBEq, Nat.reduceGT, List.all_append, List.all_map, Function.comp_def, decide_eq_true_eq, Bool.and_eq_true, beq_self_eq_true, or_self, and_self, ite_true, ite_false, Nat.le_refl, Bool.not_eq_true, decide_not, Bool.not_eq_true', decide_eq_false_iff_not, Bool.not_eq_false, Bool.or_eq_true, if_true, if_false, ite_self, hlt', natInt, u_nthM, sn_it, stC_len, hq, w_i64, hg1, sn_take, st_ltA, st_sure, st_lt1, st_sl, st_take35, all_tt, plenumref14_Drop_r2_eq, plenumref14_Drop_r3_eq]
      exact step
    · by_cases hz : k + 1 = l.length
      · have hz' : (l.length : Int) - 1 = (k : Int) := by omega
        rw [if_pos (.inr hz), List.map_append, List.length_append] at step
        simp (config := {maxSteps := 4000000, implicitDefEqProofs := false}) (disch := omega) only [go_sem, ↓reduceIte, Nat.reduceAdd, Nat.reduceSub, Nat.reduceMul, Nat.reduceLeDiff, Nat.reduceLT, Int.reduceEq, Int.reduceNe, Int.reduceLT, Int.reduceLE, Int.reduceAdd, Int.reduceSub, Int.reduceMul, Int.reduceNeg, Nat.zero_add, Nat.add_zero, Nat.mul_one, Int.toNat_natCast, Int.natCast_zero, Int.cast_ofNat_Int, or_false, false_or, or_true, true_or, Int.reduceToNat, Nat.sub_zero, Int.natCast_nonneg, Int.toNat_zero, Bool.true_and, Bool.and_true, Bool.false_and, Bool.and_false, Bool.true_or, Bool.or_true, Bool.false_or, Bool.or_false, Bool.not_true, Bool.not_false, Bool.not_not, true_and, and_true, false_and, and_false, not_true_eq_false, not_false_eq_true, eq_self, decide_true, decide_false, ne_eq, implies_true, forall_const, true_implies, false_implies, Bool.true_eq_false, Bool.false_eq_true, reduceCtorEq, List.map_cons, List.map_nil, List.all_cons, List.all_nil, List.length_cons, List.length_nil, List.length_map, List.length_append, List.nil_append, List.cons_append, List.set_cons_zero, List.set_cons_succ, List.set_nil, List.drop_zero, List.drop_succ_cons, List.drop_nil, List.take_zero, List.take_succ_cons, List.take_nil, Option.map_some, Option.map_none, Option.isSome_some, Nat.reduceEqDiff, Nat.reduceBEq, Nat.reduceGT, List.all_append, List.all_map, Function.comp_def, decide_eq_true_eq, Bool.and_eq_true, beq_self_eq_true, or_self, and_self, ite_true, ite_false, Nat.le_refl, Bool.not_eq_true, decide_not, Bool.not_eq_true', decide_eq_false_iff_not, Bool.not_eq_false, Bool.or_eq_true, if_true, if_false, ite_self, hlt', natInt, u_nthM, sn_it, stC_len, hq, hz', w_i64, hg1, sn_take, st_ltA, st_sure, st_lt1, st_sl, st_take35, all_tt, plenumref14_Drop_r2_eq, plenumref14_Drop_r3_eq]
        exact step
      · have hz' : ¬ (k : Int) = (l.length : Int) - 1 := by omega
        rw [if_neg (by rintro (e | e); exact hq e; exact hz e)] at step
        simp (config := {maxSteps := 4000000, implicitDefEqProofs := false}) (disch := omega) only [go_sem, ↓reduceIte, Nat.reduceAdd, Nat.reduceSub, Nat.reduceMul, Nat.reduceLeDiff, Nat.reduceLT, Int.reduceEq, Int.reduceNe, Int.reduceLT, Int.reduceLE, Int.reduceAdd, Int.reduceSub, Int.reduceMul, Int.reduceNeg, Nat.zero_add, Nat.add_zero, Nat.mul_one, Int.toNat_natCast, Int.natCast_zero, Int.cast_ofNat_Int, or_false, false_or, or_true, true_or, Int.reduceToNat, Nat.sub_zero, Int.natCast_nonneg, Int.toNat_zero, Bool.true_and, Bool.and_true, Bool.false_and, Bool.and_false, Bool.true_or, Bool.or_true, Bool.false_or, Bool.or_false, Bool.not_true, Bool.not_false, Bool.not_not, true_and, and_true, false_and, and_false, not_true_eq_false, not_false_eq_true, eq_self, decide_true, decide_false, ne_eq, implies_true, forall_const, true_implies, false_implies, Bool.true_eq_false, Bool.false_eq_true, reduceCtorEq, List.map_cons, List.map_nil, List.all_cons, List.all_nil, List.length_cons, List.length_nil, List.length_map, List.length_append, List.nil_append, List.cons_append, List.set_cons_zero, List.set_cons_succ, List.set_nil, List.drop_zero, List.drop_succ_cons, List.drop_nil, List.take_zero, List.take_succ_cons, List.take_nil, Option.map_some, Option.map_none, Option.isSome_some, Nat.reduceEqDiff, Nat.reduceBEq, Nat.reduceGT, List.all_append, List.all_map, Function.comp_def, decide_eq_true_eq, Bool.and_eq_true, beq_self_eq_true, or_self, and_self, ite_true, ite_false, Nat.le_refl, Bool.not_eq_true, decide_not, Bool.not_eq_true', decide_eq_false_iff_not, Bool.not_eq_false, Bool.or_eq_true, if_true, if_false, ite_self, hlt', natInt, u_nthM, sn_it, stC_len, hq, hz', w_i64, hg1, sn_take, st_ltA, st_sure, st_lt1, st_sl, st_take35, all_tt, plenumref14_Drop_r2_eq, plenumref14_Drop_r3_eq]
        exact step
  · have hlt' : ¬ (k : Int) < (l.length : Int) := by omega
    have : k = l.length := by omega
    subst this
    simp (config := {maxSteps := 4000000, implicitDefEqProofs := false}) (disch := omega) only [go_sem, ↓reduceIte, Nat.reduceAdd, Nat.reduceSub, Nat.reduceMul, Nat.reduceLeDiff, Nat.reduceLT, Int.reduceEq, Int.reduceNe, Int.reduceLT, Int.reduceLE, Int.reduceAdd, Int.reduceSub, Int.reduceMul, Int.reduceNeg, Nat.zero_add, Nat.add_zero, Nat.mul_one, Int.toNat_natCast, Int.natCast_zero, Int.cast_ofNat_Int, or_false, false_or, or_true, true_or, Int.reduceToNat, Nat.sub_zero, Int.natCast_nonneg, Int.toNat_zero, Bool.true_and, Bool.and_true, Bool.false_and, Bool.and_false, Bool.true_or, Bool.or_true, Bool.false_or, Bool.or_false, Bool.not_true, Bool.not_false, Bool.not_not, true_and, and_true, false_and, and_false, not_true_eq_false, not_false_eq_true, eq_self, decide_true, decide_false, ne_eq, implies_true, forall_const, true_implies, false_implies, Bool.true_eq_false, Bool.false_eq_true, reduceCtorEq, List.map_cons, List.map_nil, List.all_cons, List.all_nil, List.length_cons, List.length_nil, List.length_map, List.length_append, List.nil_append, List.cons_append, List.set_cons_zero, List.set_cons_succ, List.set_nil, List.drop_zero, List.drop_succ_cons, List.drop_nil, List.take_zero, List.take_succ_cons, List.take_nil, Option.map_some, Option.map_none, Option.isSome_some, Nat.reduceEqDiff, Nat.reduceBEq, Nat.reduceGT, List.all_append, List.all_map, Function.comp_def, decide_eq_true_eq, Bool.and_eq_true, beq_self_eq_true, or_self, and_self, ite_true, ite_false, Nat.le_refl, Bool.not_eq_true, decide_not, Bool.not_eq_true', decide_eq_false_iff_not, Bool.not_eq_false, Bool.or_eq_true, if_true, if_false, ite_self, hkx, hlt', sn_it, sn_allA, st_ltA, stC_len, all_tt, plenumref14_Drop_r3_eq, plenumref14_Drop_r2_eq, plenumref14_Drop_r1_eq]
end Go.Proofs.YtopifabnobplcaaDoor

namespace Go.Proofs.YtopifabnobplcaaDoor
open Go.RowKit
set_option linter.unusedVariables false
set_option linter.unusedSimpArgs false
set_option maxRecDepth 20000
end Go.Proofs.YtopifabnobplcaaDoor

namespace Go.Proofs.YtopifabnobplcaaDoor
open Go.RowKit
set_option linter.unusedVariables false
set_option linter.unusedSimpArgs false
set_option maxRecDepth 20000
end Go.Proofs.YtopifabnobplcaaDoor

namespace Go.Proofs.YtopifabnobplcaaDoor
open Go.RowKit
set_option linter.unusedVariables false
set_option linter.unusedSimpArgs false
set_option maxRecDepth 20000
theorem sameI (x y : Item) : sameKs x.cells y.cells = decide (x = y) := by
  obtain ⟨a1, a2, a3, a4, a5⟩ := x
  obtain ⟨b1, b2, b3, b4, b5⟩ := y
  rw [Bool.eq_iff_iff]
  show (decide (a1 = b1) && (decide (a2 = b2) && (decide (a3 = b3) && (decide (a4 = b4) && (decide (a5 = b5) && true))))) = true ↔ _
  simp
section
variable {R : Type} {isB sl : Bool} {x y : Item} {K1 : AV → Option R}
theorem u_neI : binE (some [.s, .i .i64, .i .i64, .s, .i .i64]) isB sl .neq (.agg [V (.string ⟨x.key.toArray⟩), V (.int .i64 x.kind), V (.int .i64 x.i), V (.string ⟨x.s.toArray⟩), V (.int .i64 x.ver)]) (.agg [V (.string ⟨y.key.toArray⟩), V (.int .i64 y.kind), V (.int .i64 y.i), V (.string ⟨y.s.toArray⟩), V (.int .i64 y.ver)]) K1 = K1 (bA (!decide (x = y))) := by
  rw [← sameI]; rfl
end
theorem eqIt_s (m : Nat) (a b : List Item) (hm : a.length < m) (hl : a.length ≤ 1000000) (hlb : b.length ≤ 1000000) : slices_Equal_Item m (lA a) (lA b) = some (bA (decide (a = b)), []) := by
  rw [slices_Equal_Item_eq, lA_def, lA_def]
  by_cases hlen : a.length = b.length
  · have hlen' : (a.length : Int) = (b.length : Int) := by omega
    simp (config := {maxSteps := 4000000, implicitDefEqProofs := false}) (disch := omega) only [go_sem, ↓reduceIte, Nat.reduceAdd, Nat.reduceSub, Nat.reduceMul, Nat.reduceLeDiff, Nat.reduceLT, Int.reduceEq, Int.reduceNe, Int.reduceLT, Int.reduceLE, Int.reduceAdd, Int.reduceSub, Int.reduceMul, Int.reduceNeg, Nat.zero_add, Nat.add_zero, Nat.mul_one, Int.toNat_natCast, Int.natCast_zero, Int.cast_ofNat_Int, or_false, false_or, or_true, true_or, Int.reduceToNat, Nat.sub_zero, Int.natCast_nonneg, Int.toNat_zero, Bool.true_and, Bool.and_true, Bool.false_and, Bool.and_false, Bool.true_or, Bool.or_true, Bool.false_or, Bool.or_false, Bool.not_true, Bool.not_false, Bool.not_not, true_and, and_true, false_and, and_false, not_true_eq_false, not_false_eq_true, eq_self, decide_true, decide_false, ne_eq, implies_true, forall_const, true_implies, false_implies, Bool.true_eq_false, Bool.false_eq_true, reduceCtorEq, List.map_cons, List.map_nil, List.all_cons, List.all_nil, List.length_cons, List.length_nil, List.length_map, List.length_append, List.nil_append, List.cons_append, List.set_cons_zero, List.set_cons_succ, List.set_nil, List.drop_zero, List.drop_succ_cons, List.drop_nil, List.take_zero, List.take_succ_cons, List.take_nil, Option.map_some, Option.map_none, Option.isSome_some, Nat.reduceEqDiff, Nat.reduceBEq, Nat.reduceGT, List.all_append, List.all_map, Function.comp_def, decide_eq_true_eq, Bool.and_eq_true, beq_self_eq_true, or_self, and_self, ite_true, ite_false, Nat.le_refl, Bool.not_eq_true, decide_not, Bool.not_eq_true', decide_eq_false_iff_not, Bool.not_eq_false, Bool.or_eq_true, if_true, if_false, ite_self, hlen, hlen']
    refine iter_go (ι := {k : Nat // k ≤ a.length ∧ a.take k = b.take k}) (fun k => ⟨[], [(0, SL (a.map (flA Item.cells))), (1, SL (b.map (flA Item.cells))), (12, nA b.length), (13, nA k.1)]⟩) (fun k => a.length - k.1) (fun _ => some (bA (decide (a = b)), [])) ?_ ⟨0, Nat.zero_le _, rfl⟩ (by dsimp only; omega)
    rintro kx hkx ⟨k, hk, hinv⟩ kc hkc
    dsimp only at hkc ⊢
    rw [slices_Equal_Item_b1_eq]
    by_cases hlt : k < a.length
    · have hltb : k < b.length := by omega
      have hlt' : (k : Int) < (a.length : Int) := by omega
      have hltb' : (k : Int) < (b.length : Int) := by omega
      by_cases hq : a[k] = b[k]
      · have step := hkc ⟨k + 1, by omega, by rw [List.take_succ_eq_append_getElem hlt, List.take_succ_eq_append_getElem hltb, hinv, hq]⟩ (by dsimp only; omega)
        simp (config := {maxSteps := 4000000, implicitDefEqProofs := false}) (disch := omega) only [go_sem, ↓reduceIte, Nat.reduceAdd, Nat.reduceSub, Nat.reduceMul, Nat.reduceLeDiff, Nat.reduceLT, Int.reduceEq, Int.reduceNe, Int.reduceLT, Int.reduceLE, Int.reduceAdd, Int.reduceSub, Int.reduceMul, Int.reduceNeg, Nat.zero_add, Nat.add_zero, Nat.mul_one, Int.toNat_natCast, Int.natCast_zero, Int.cast_ofNat_Int, or_false, false_or, or_true, true_or, Int.reduceToNat, Nat.sub_zero, Int.natCast_nonneg, Int.toNat_zero, Bool.true_and, Bool.and_true, Bool.false_and, Bool.and_false, Bool.true_or, Bool.or_true, Bool.false_or, Bool.or_false, Bool.not_true, Bool.not_false, Bool.not_not, true_and, and_true, false_and, and_false, not_true_eq_false, not_false_eq_true, eq_self, decide_true, decide_false, ne_eq, implies_true, forall_const, true_implies, false_implies, Bool.true_eq_false, Bool.false_eq_true, reduceCtorEq, List.map_cons, List.map_nil, List.all_cons, List.all_nil, List.length_cons, List.length_nil, List.length_map, List.length_append, List.nil_append, List.cons_append, List.set_cons_zero, List.set_cons_succ, List.set_nil, List.drop_zero, List.drop_succ_cons, List.drop_nil, List.take_zero, List.take_succ_cons, List.take_nil, Option.map_some, Option.map_none, Option.isSome_some, Nat.reduceEqDiff, Nat.reduceBEq, Nat.reduceGT, List.all_append, List.all_map, Function.comp_def, decide_eq_true_eq, Bool.and_eq_true, beq_self_eq_true, or_self, and_self, ite_true, ite_false, Nat.le_refl, Bool.not_eq_true, decide_not, Bool.not_eq_true', decide_eq_false_iff_not, Bool.not_eq_false, Bool.or_eq_true, if_true, if_false, ite_self, hlt', hltb', natInt, u_nthM, fl_it, u_neI, hq, w_i64, fl_allA]
        exact step
      · have hne : a ≠ b := fun e => hq (by subst e; rfl)
        simp (config := {maxSteps := 4000000, implicitDefEqProofs := false}) (disch := omega) only [go_sem, ↓reduceIte, Nat.reduceAdd, Nat.reduceSub, Nat.reduceMul, Nat.reduceLeDiff, Nat.reduceLT, Int.reduceEq, Int.reduceNe, Int.reduceLT, Int.reduceLE, Int.reduceAdd, Int.reduceSub, Int.reduceMul, Int.reduceNeg, Nat.zero_add, Nat.add_zero, Nat.mul_one, Int.toNat_natCast, Int.natCast_zero, Int.cast_ofNat_Int, or_false, false_or, or_true, true_or, Int.reduceToNat, Nat.sub_zero, Int.natCast_nonneg, Int.toNat_zero, Bool.true_and, Bool.and_true, Bool.false_and, Bool.and_false, Bool.true_or, Bool.or_true, Bool.false_or, Bool.or_false, Bool.not_true, Bool.not_false, Bool.not_not, true_and, and_true, false_and, and_false, not_true_eq_false, not_false_eq_true, eq_self, decide_true, decide_false, ne_eq, implies_true, forall_const, true_implies, false_implies, Bool.true_eq_false, Bool.false_eq_true, reduceCtorEq, List.map_cons, List.map_nil, List.all_cons, List.all_nil, List.length_cons, List.length_nil, List.length_map, List.length_append, List.nil_append, List.cons_append, List.set_cons_zero, List.set_cons_succ, List.set_nil, List.drop_zero, List.drop_succ_cons, List.drop_nil, List.take_zero, List.take_succ_cons, List.take_nil, Option.map_some, Option.map_none, Option.isSome_some, Nat.reduceEqDiff, Nat.reduceBEq, Nat.reduceGT, List.all_append, List.all_map, Function.comp_def, decide_eq_true_eq, Bool.and_eq_true, beq_self_eq_true, or_self, and_self, ite_true, ite_false, Nat.le_refl, Bool.not_eq_true, decide_not, Bool.not_eq_true', decide_eq_false_iff_not, Bool.not_eq_false, Bool.or_eq_true, if_true, if_false, ite_self, hkx, hlt', hltb', natInt, u_nthM, fl_it, u_neI, hq, hne]
    · have hlt' : ¬ (k : Int) < (b.length : Int) := by omega
      have he : a = b := by rw [← List.take_of_length_le (l := a) (i := k) (by omega), ← List.take_of_length_le (l := b) (i := k) (by omega)]; exact hinv
      simp (config := {maxSteps := 4000000, implicitDefEqProofs := false}) (disch := omega) only [go_sem, ↓reduceIte, Nat.reduceAdd, Nat.reduceSub, Nat.reduceMul, Nat.reduceLeDiff, Nat.reduceLT, Int.reduceEq, Int.reduceNe, Int.reduceLT, Int.reduceLE, Int.reduceAdd, Int.reduceSub, Int.reduceMul, Int.reduceNeg, Nat.zero_add, Nat.add_zero, Nat.mul_one, Int.toNat_natCast, Int.natCast_zero, Int.cast_ofNat_Int, or_false, false_or, or_true, true_or, Int.reduceToNat, Nat.sub_zero, Int.natCast_nonneg, Int.toNat_zero, Bool.true_and, Bool.and_true, Bool.false_and, Bool.and_false, Bool.true_or, Bool.or_true, Bool.false_or, Bool.or_false, Bool.not_true, Bool.not_false, Bool.not_not, true_and, and_true, false_and, and_false, not_true_eq_false, not_false_eq_true, eq_self, decide_true, decide_false, ne_eq, implies_true, forall_const, true_implies, false_implies, Bool.true_eq_false, Bool.false_eq_true, reduceCtorEq, List.map_cons, List.map_nil, List.all_cons, List.all_nil, List.length_cons, List.length_nil, List.length_map, List.length_append, List.nil_append, List.cons_append, List.set_cons_zero, List.set_cons_succ, List.set_nil, List.drop_zero, List.drop_succ_cons, List.drop_nil, List.take_zero, List.take_succ_cons, List.take_nil, Option.map_some, Option.map_none, Option.isSome_some, Nat.reduceEqDiff, Nat.reduceBEq, Nat.reduceGT, List.all_append, List.all_map, Function.comp_def, decide_eq_true_eq, Bool.and_eq_true, beq_self_eq_true, or_self, and_self, ite_true, ite_false, Nat.le_refl, Bool.not_eq_true, decide_not, Bool.not_eq_true', decide_eq_false_iff_not, Bool.not_eq_false, Bool.or_eq_true, if_true, if_false, ite_self, hkx, hlt', he, slices_Equal_Item_r1_eq]
  · have hlen' : ¬ (a.length : Int) = (b.length : Int) := by omega
    have hne : a ≠ b := fun e => hlen (by rw [e])
    simp (config := {maxSteps := 4000000, implicitDefEqProofs := false}) (disch := omega) only [go_sem, ↓reduceIte, Nat.reduceAdd, Nat.reduceSub, Nat.reduceMul, Nat.reduceLeDiff, Nat.reduceLT, Int.reduceEq, Int.reduceNe, Int.reduceLT, Int.reduceLE, Int.reduceAdd, Int.reduceSub, Int.reduceMul, Int.reduceNeg, Nat.zero_add, Nat.add_zero, Nat.mul_one, Int.toNat_natCast, Int.natCast_zero, Int.cast_ofNat_Int, or_false, false_or, or_true, true_or, Int.reduceToNat, Nat.sub_zero, Int.natCast_nonneg, Int.toNat_zero, Bool.true_and, Bool.and_true, Bool.false_and, Bool.and_false, Bool.true_or, Bool.or_true, Bool.false_or, Bool.or_false, Bool.not_true, Bool.not_false, Bool.not_not, true_and, and_true, false_and, and_false, not_true_eq_false, not_false_eq_true, eq_self, decide_true, decide_false, ne_eq, implies_true, forall_const, true_implies, false_implies, Bool.true_eq_false, Bool.false_eq_true, reduceCtorEq, List.map_cons, List.map_nil, List.all_cons, List.all_nil, List.length_cons, List.length_nil, List.length_map, List.length_append, List.nil_append, List.cons_append, List.set_cons_zero, List.set_cons_succ, List.set_nil, List.drop_zero, List.drop_succ_cons, List.drop_nil, List.take_zero, List.take_succ_cons, List.take_nil, Option.map_some, Option.map_none, Option.isSome_some, Nat.reduceEqDiff, Nat.reduceBEq, Nat.reduceGT, List.all_append, List.all_map, Function.comp_def, decide_eq_true_eq, Bool.and_eq_true, beq_self_eq_true, or_self, and_self, ite_true, ite_false, Nat.le_refl, Bool.not_eq_true, decide_not, Bool.not_eq_true', decide_eq_false_iff_not, Bool.not_eq_false, Bool.or_eq_true, if_true, if_false, ite_self, hlen, hlen', hne]
end Go.Proofs.YtopifabnobplcaaDoor

namespace Go.Proofs.YtopifabnobplcaaDoor
open Go.RowKit
set_option linter.unusedVariables false
set_option linter.unusedSimpArgs false
set_option maxRecDepth 20000
theorem nLs_ltA {l : List Nat} {n : Nat} : (nLs l).all (ltA n) = true := by unfold nLs; rw [List.all_map]; exact List.all_eq_true.2 fun _ _ => rfl
theorem unlike_s (m : Nat) (a b : Tr) (hm : 1000000 < m) (ha : a.Ok) (hb : b.Ok) : trunk_Unlike m (tA a) (tA b) = some (TU [SL (nLs (unlikeT a b).1), nA (unlikeT a b).2], []) := by
  have h1 := trunk_May_e m a ha
  have h2 := trunk_May_e m b hb
  rw [tA_def] at h1 h2
  rw [trunk_Unlike_eq, tA_def, tA_def]
  unfold unlikeT
  cases hA : mayT a with
  | false =>
    rw [hA] at h1
    simp (config := {maxSteps := 4000000, implicitDefEqProofs := false}) (disch := omega) only [go_sem, ↓reduceIte, Nat.reduceAdd, Nat.reduceSub, Nat.reduceMul, Nat.reduceLeDiff, Nat.reduceLT, Int.reduceEq, Int.reduceNe, Int.reduceLT, Int.reduceLE, Int.reduceAdd, Int.reduceSub, Int.reduceMul, Int.reduceNeg, Nat.zero_add, Nat.add_zero, Nat.mul_one, Int.toNat_natCast, Int.natCast_zero, Int.cast_ofNat_Int, or_false, false_or, or_true, true_or, Int.reduceToNat, Nat.sub_zero, Int.natCast_nonneg, Int.toNat_zero, Bool.true_and, Bool.and_true, Bool.false_and, Bool.and_false, Bool.true_or, Bool.or_true, Bool.false_or, Bool.or_false, Bool.not_true, Bool.not_false, Bool.not_not, true_and, and_true, false_and, and_false, not_true_eq_false, not_false_eq_true, eq_self, decide_true, decide_false, ne_eq, implies_true, forall_const, true_implies, false_implies, Bool.true_eq_false, Bool.false_eq_true, reduceCtorEq, List.map_cons, List.map_nil, List.all_cons, List.all_nil, List.length_cons, List.length_nil, List.length_map, List.length_append, List.nil_append, List.cons_append, List.set_cons_zero, List.set_cons_succ, List.set_nil, List.drop_zero, List.drop_succ_cons, List.drop_nil, List.take_zero, List.take_succ_cons, List.take_nil, Option.map_some, Option.map_none, Option.isSome_some, Nat.reduceEqDiff, Nat.reduceBEq, Nat.reduceGT, List.all_append, List.all_map, Function.comp_def, decide_eq_true_eq, Bool.and_eq_true, beq_self_eq_true, or_self, and_self, ite_true, ite_false, Nat.le_refl, Bool.not_eq_true, decide_not, Bool.not_eq_true', decide_eq_false_iff_not, Bool.not_eq_false, Bool.or_eq_true, if_true, if_false, ite_self, tC_len, tC_sure, tC_ltA, tC_lt1, tC_ro, tC_take, tC_all1, zC_len, zC_ltA, zC_lt1, zC_sure, zC_ro, zC_take, set_tl, set_tv, sc_tt, sc_zt, sc_tz, sc_zz, add16, tA_def, lA_def, natInt, u_tl, u_tv, h1]
    rfl
  | true =>
  cases hB : mayT b with
  | false =>
    rw [hA] at h1
    rw [hB] at h2
    simp (config := {maxSteps := 4000000, implicitDefEqProofs := false}) (disch := omega) only [go_sem, ↓reduceIte, Nat.reduceAdd, Nat.reduceSub, Nat.reduceMul, Nat.reduceLeDiff, Nat.reduceLT, Int.reduceEq, Int.reduceNe, Int.reduceLT, Int.reduceLE, Int.reduceAdd, Int.reduceSub, Int.reduceMul, Int.reduceNeg, Nat.zero_add, Nat.add_zero, Nat.mul_one, Int.toNat_natCast, Int.natCast_zero, Int.cast_ofNat_Int, or_false, false_or, or_true, true_or, Int.reduceToNat, Nat.sub_zero, Int.natCast_nonneg, Int.toNat_zero, Bool.true_and, Bool.and_true, Bool.false_and, Bool.and_false, Bool.true_or, Bool.or_true, Bool.false_or, Bool.or_false, Bool.not_true, Bool.not_false, Bool.not_not, true_and, and_true, false_and, and_false, not_true_eq_false, not_false_eq_true, eq_self, decide_true, decide_false, ne_eq, implies_true, forall_const, true_implies, false_implies, Bool.true_eq_false, Bool.false_eq_true, reduceCtorEq, List.map_cons, List.map_nil, List.all_cons, List.all_nil, List.length_cons, List.length_nil, List.length_map, List.length_append, List.nil_append, List.cons_append, List.set_cons_zero, List.set_cons_succ, List.set_nil, List.drop_zero, List.drop_succ_cons, List.drop_nil, List.take_zero, List.take_succ_cons, List.take_nil, Option.map_some, Option.map_none, Option.isSome_some, Nat.reduceEqDiff, Nat.reduceBEq, Nat.reduceGT, List.all_append, List.all_map, Function.comp_def, decide_eq_true_eq, Bool.and_eq_true, beq_self_eq_true, or_self, and_self, ite_true, ite_false, Nat.le_refl, Bool.not_eq_true, decide_not, Bool.not_eq_true', decide_eq_false_iff_not, Bool.not_eq_false, Bool.or_eq_true, if_true, if_false, ite_self, tC_len, tC_sure, tC_ltA, tC_lt1, tC_ro, tC_take, tC_all1, zC_len, zC_ltA, zC_lt1, zC_sure, zC_ro, zC_take, set_tl, set_tv, sc_tt, sc_zt, sc_tz, sc_zz, add16, tA_def, lA_def, natInt, u_tl, u_tv, h1, h2]
    rfl
  | true =>
    rw [hA] at h1
    rw [hB] at h2
    simp (config := {maxSteps := 4000000, implicitDefEqProofs := false}) (disch := omega) only [go_sem, ↓reduceIte, Nat.reduceAdd, Nat.reduceSub, Nat.reduceMul, Nat.reduceLeDiff, Nat.reduceLT, Int.reduceEq, Int.reduceNe, Int.reduceLT, Int.reduceLE, Int.reduceAdd, Int.reduceSub, Int.reduceMul, Int.reduceNeg, Nat.zero_add, Nat.add_zero, Nat.mul_one, Int.toNat_natCast, Int.natCast_zero, Int.cast_ofNat_Int, or_false, false_or, or_true, true_or, Int.reduceToNat, Nat.sub_zero, Int.natCast_nonneg, Int.toNat_zero, Bool.true_and, Bool.and_true, Bool.false_and, Bool.and_false, Bool.true_or, Bool.or_true, Bool.false_or, Bool.or_false, Bool.not_true, Bool.not_false, Bool.not_not, true_and, and_true, false_and, and_false, not_true_eq_false, not_false_eq_true, eq_self, decide_true, decide_false, ne_eq, implies_true, forall_const, true_implies, false_implies, Bool.true_eq_false, Bool.false_eq_true, reduceCtorEq, List.map_cons, List.map_nil, List.all_cons, List.all_nil, List.length_cons, List.length_nil, List.length_map, List.length_append, List.nil_append, List.cons_append, List.set_cons_zero, List.set_cons_succ, List.set_nil, List.drop_zero, List.drop_succ_cons, List.drop_nil, List.take_zero, List.take_succ_cons, List.take_nil, Option.map_some, Option.map_none, Option.isSome_some, Nat.reduceEqDiff, Nat.reduceBEq, Nat.reduceGT, List.all_append, List.all_map, Function.comp_def, decide_eq_true_eq, Bool.and_eq_true, beq_self_eq_true, or_self, and_self, ite_true, ite_false, Nat.le_refl, Bool.not_eq_true, decide_not, Bool.not_eq_true', decide_eq_false_iff_not, Bool.not_eq_false, Bool.or_eq_true, if_true, if_false, ite_self, tC_len, tC_sure, tC_ltA, tC_lt1, tC_ro, tC_take, tC_all1, zC_len, zC_ltA, zC_lt1, zC_sure, zC_ro, zC_take, set_tl, set_tv, sc_tt, sc_zt, sc_tz, sc_zz, add16, tA_def, lA_def, natInt, u_tl, u_tv, h1, h2, trunk_Unlike_r1_eq]
    refine iter_go (ι := {k : Nat // k ≤ 16}) (fun k => ⟨[⟨1, ty_api_Trunk, 0, tC a⟩, ⟨1, ty_api_Trunk, 0, tC b⟩, ⟨2, ty_int, 1, nLs (unlikeL a b k.1)⟩], [(2, OP 0 0), (3, OP 1 0), (6, OW 2 (unlikeL a b k.1).length), (16, nA k.1)]⟩) (fun k => 16 - k.1) (fun _ => some (TU [SL (nLs (unlikeL a b 16)), nA 0], [])) ?_ ⟨0, Nat.zero_le _⟩ (by dsimp only; omega)
    rintro kx hkx ⟨k, hk⟩ kc hkc
    dsimp only at hkc ⊢
    rw [trunk_Unlike_b1_eq]
    by_cases hlt : k < 16
    · have hlt' : (k : Int) < 16 := by omega
      have step := hkc ⟨k + 1, by omega⟩ (by dsimp only; omega)
      have hE := eqIt_s m (a.leaf k) (b.leaf k) (by have := (ha k).1; omega) (ha k).1 (hb k).1
      rw [lA_def, lA_def] at hE
      have hg : (unlikeL a b k).length ≤ k := by
        unfold unlikeL
        exact Nat.le_trans (List.length_filter_le ..) (by rw [List.length_range]; exact Nat.le_refl _)
      have hg1 : (unlikeL a b k).length + 1 ≤ 34359738368 := by omega
      dsimp only at step
      by_cases hu : unlikeAt a b k = true
      · rw [u_yes hu, nLs_app, List.length_append] at step
        by_cases hv : a.ver k = b.ver k
        · have hl : ¬ a.leaf k = b.leaf k := fun e => by unfold unlikeAt at hu; simp [hv, e] at hu
          simp (config := {maxSteps := 4000000, implicitDefEqProofs := false}) (disch := omega) only [go_sem, ↓reduceIte, Nat.reduceAdd, Nat.reduceSub, Nat.reduceMul, Nat.reduceLeDiff, Nat.reduceLT, Int.reduceEq, Int.reduceNe, Int.reduceLT, Int.reduceLE, Int.reduceAdd, Int.reduceSub, Int.reduceMul, Int.reduceNeg, Nat.zero_add, Nat.add_zero, Nat.mul_one, Int.toNat_natCast, Int.natCast_zero, Int.cast_ofNat_Int, or_false, false_or, or_true, true_or, Int.reduceToNat, Nat.sub_zero, Int.natCast_nonneg, Int.toNat_zero, Bool.true_and, Bool.and_true, Bool.false_and, Bool.and_false, Bool.true_or, Bool.or_true, Bool.false_or, Bool.or_false, Bool.not_true, Bool.not_false, Bool.not_not, true_and, and_true, false_and, and_false, not_true_eq_false, not_false_eq_true, eq_self, decide_true, decide_false, ne_eq, implies_true, forall_const, true_implies, false_implies, Bool.true_eq_false, Bool.false_eq_true, reduceCtorEq, List.map_cons, List.map_nil, List.all_cons, List.all_nil, List.length_cons, List.length_nil, List.length_map, List.length_append, List.nil_append, List.cons_append, List.set_cons_zero, List.set_cons_succ, List.set_nil, List.drop_zero, List.drop_succ_cons, List.drop_nil, List.take_zero, List.take_succ_cons, List.take_nil, Option.map_some, Option.map_none, Option.isSome_some, Nat.reduceEqDiff, Nat.reduceBEq, Nat.reduceGT, List.all_append, List.all_map, Function.comp_def, decide_eq_true_eq, Bool.and_eq_true, beq_self_eq_true, or_self, and_self, ite_true, ite_false, Nat.le_refl, Bool.not_eq_true, decide_not, Bool.not_eq_true', decide_eq_false_iff_not, Bool.not_eq_false, Bool.or_eq_true, if_true, if_false, ite_self, tC_len, tC_sure, tC_ltA, tC_lt1, tC_ro, tC_take, tC_all1, zC_len, zC_ltA, zC_lt1, zC_sure, zC_ro, zC_take, set_tl, set_tv, sc_tt, sc_zt, sc_tz, sc_zz, add16, tA_def, lA_def, natInt, u_tl, u_tv, hlt', Nat.add_sub_cancel_left, hv, hl, hE, w_i64, hg1, nLs_len, nLs_ltA, trunk_Unlike_r3_eq, trunk_Unlike_r4_eq]
          exact step
        · simp (config := {maxSteps := 4000000, implicitDefEqProofs := false}) (disch := omega) only [go_sem, ↓reduceIte, Nat.reduceAdd, Nat.reduceSub, Nat.reduceMul, Nat.reduceLeDiff, Nat.reduceLT, Int.reduceEq, Int.reduceNe, Int.reduceLT, Int.reduceLE, Int.reduceAdd, Int.reduceSub, Int.reduceMul, Int.reduceNeg, Nat.zero_add, Nat.add_zero, Nat.mul_one, Int.toNat_natCast, Int.natCast_zero, Int.cast_ofNat_Int, or_false, false_or, or_true, true_or, Int.reduceToNat, Nat.sub_zero, Int.natCast_nonneg, Int.toNat_zero, Bool.true_and, Bool.and_true, Bool.false_and, Bool.and_false, Bool.true_or, Bool.or_true, Bool.false_or, Bool.or_false, Bool.not_true, Bool.not_false, Bool.not_not, true_and, and_true, false_and, and_false, not_true_eq_false, not_false_eq_true, eq_self, decide_true, decide_false, ne_eq, implies_true, forall_const, true_implies, false_implies, Bool.true_eq_false, Bool.false_eq_true, reduceCtorEq, List.map_cons, List.map_nil, List.all_cons, List.all_nil, List.length_cons, List.length_nil, List.length_map, List.length_append, List.nil_append, List.cons_append, List.set_cons_zero, List.set_cons_succ, List.set_nil, List.drop_zero, List.drop_succ_cons, List.drop_nil, List.take_zero, List.take_succ_cons, List.take_nil, Option.map_some, Option.map_none, Option.isSome_some, Nat.reduceEqDiff, Nat.reduceBEq, Nat.reduceGT, List.all_append, List.all_map, Function.comp_def, decide_eq_true_eq, Bool.and_eq_true, beq_self_eq_true, or_self, and_self, ite_true, ite_false, Nat.le_refl, Bool.not_eq_true, decide_not, Bool.not_eq_true', decide_eq_false_iff_not, Bool.not_eq_false, Bool.or_eq_true, if_true, if_false, ite_self, tC_len, tC_sure, tC_ltA, tC_lt1, tC_ro, tC_take, tC_all1, zC_len, zC_ltA, zC_lt1, zC_sure, zC_ro, zC_take, set_tl, set_tv, sc_tt, sc_zt, sc_tz, sc_zz, add16, tA_def, lA_def, natInt, u_tl, u_tv, hlt', Nat.add_sub_cancel_left, hv, hE, w_i64, hg1, nLs_len, nLs_ltA, trunk_Unlike_r3_eq, trunk_Unlike_r4_eq]
          exact step
      · have hu : unlikeAt a b k = false := by simpa using hu
        rw [u_no hu] at step
        have hv : a.ver k = b.ver k := by unfold unlikeAt at hu; simp at hu; exact hu.1
        have hl : a.leaf k = b.leaf k := by unfold unlikeAt at hu; simp at hu; exact hu.2
        rw [hl] at hE
        have hgg : (unlikeL a b k).length ≤ 34359738367 := by omega
        simp (config := {maxSteps := 4000000, implicitDefEqProofs := false}) (disch := omega) only [go_sem, ↓reduceIte, Nat.reduceAdd, Nat.reduceSub, Nat.reduceMul, Nat.reduceLeDiff, Nat.reduceLT, Int.reduceEq, Int.reduceNe, Int.reduceLT, Int.reduceLE, Int.reduceAdd, Int.reduceSub, Int.reduceMul, Int.reduceNeg, Nat.zero_add, Nat.add_zero, Nat.mul_one, Int.toNat_natCast, Int.natCast_zero, Int.cast_ofNat_Int, or_false, false_or, or_true, true_or, Int.reduceToNat, Nat.sub_zero, Int.natCast_nonneg, Int.toNat_zero, Bool.true_and, Bool.and_true, Bool.false_and, Bool.and_false, Bool.true_or, Bool.or_true, Bool.false_or, Bool.or_false, Bool.not_true, Bool.not_false, Bool.not_not, true_and, and_true, false_and, and_false, not_true_eq_false, not_false_eq_true, eq_self, decide_true, decide_false, ne_eq, implies_true, forall_const, true_implies, false_implies, Bool.true_eq_false, Bool.false_eq_true, reduceCtorEq, List.map_cons, List.map_nil, List.all_cons, List.all_nil, List.length_cons, List.length_nil, List.length_map, List.length_append, List.nil_append, List.cons_append, List.set_cons_zero, List.set_cons_succ, List.set_nil, List.drop_zero, List.drop_succ_cons, List.drop_nil, List.take_zero, List.take_succ_cons, List.take_nil, Option.map_some, Option.map_none, Option.isSome_some, Nat.reduceEqDiff, Nat.reduceBEq, Nat.reduceGT, List.all_append, List.all_map, Function.comp_def, decide_eq_true_eq, Bool.and_eq_true, beq_self_eq_true, or_self, and_self, ite_true, ite_false, Nat.le_refl, Bool.not_eq_true, decide_not, Bool.not_eq_true', decide_eq_false_iff_not, Bool.not_eq_false, Bool.or_eq_true, if_true, if_false, ite_self, tC_len, tC_sure, tC_ltA, tC_lt1, tC_ro, tC_take, tC_all1, zC_len, zC_ltA, zC_lt1, zC_sure, zC_ro, zC_take, set_tl, set_tv, sc_tt, sc_zt, sc_tz, sc_zz, add16, tA_def, lA_def, natInt, u_tl, u_tv, hlt', Nat.add_sub_cancel_left, hv, hl, hE, w_i64, nLs_len, nLs_ltA, hgg, trunk_Unlike_r3_eq, trunk_Unlike_r4_eq]
        exact step
    · have hlt' : ¬ (k : Int) < 16 := by omega
      have : k = 16 := by omega
      subst this
      simp (config := {maxSteps := 4000000, implicitDefEqProofs := false}) (disch := omega) only [go_sem, ↓reduceIte, Nat.reduceAdd, Nat.reduceSub, Nat.reduceMul, Nat.reduceLeDiff, Nat.reduceLT, Int.reduceEq, Int.reduceNe, Int.reduceLT, Int.reduceLE, Int.reduceAdd, Int.reduceSub, Int.reduceMul, Int.reduceNeg, Nat.zero_add, Nat.add_zero, Nat.mul_one, Int.toNat_natCast, Int.natCast_zero, Int.cast_ofNat_Int, or_false, false_or, or_true, true_or, Int.reduceToNat, Nat.sub_zero, Int.natCast_nonneg, Int.toNat_zero, Bool.true_and, Bool.and_true, Bool.false_and, Bool.and_false, Bool.true_or, Bool.or_true, Bool.false_or, Bool.or_false, Bool.not_true, Bool.not_false, Bool.not_not, true_and, and_true, false_and, and_false, not_true_eq_false, not_false_eq_true, eq_self, decide_true, decide_false, ne_eq, implies_true, forall_const, true_implies, false_implies, Bool.true_eq_false, Bool.false_eq_true, reduceCtorEq, List.map_cons, List.map_nil, List.all_cons, List.all_nil, List.length_cons, List.length_nil, List.length_map, List.length_append, List.nil_append, List.cons_append, List.set_cons_zero, List.set_cons_succ, List.set_nil, List.drop_zero, List.drop_succ_cons, List.drop_nil, List.take_zero, List.take_succ_cons, List.take_nil, Option.map_some, Option.map_none, Option.isSome_some, Nat.reduceEqDiff, Nat.reduceBEq, Nat.reduceGT, List.all_append, List.all_map, Function.comp_def, decide_eq_true_eq, Bool.and_eq_true, beq_self_eq_true, or_self, and_self, ite_true, ite_false, Nat.le_refl, Bool.not_eq_true, decide_not, Bool.not_eq_true', decide_eq_false_iff_not, Bool.not_eq_false, Bool.or_eq_true, if_true, if_false, ite_self, tC_len, tC_sure, tC_ltA, tC_lt1, tC_ro, tC_take, tC_all1, zC_len, zC_ltA, zC_lt1, zC_sure, zC_ro, zC_take, set_tl, set_tv, sc_tt, sc_zt, sc_tz, sc_zz, add16, tA_def, lA_def, natInt, u_tl, u_tv, hkx, hlt', nLs_len, nLs_ltA, trunk_Unlike_r4_eq, trunk_Unlike_r3_eq, trunk_Unlike_r2_eq, trunk_Unlike_r1_eq]
end Go.Proofs.YtopifabnobplcaaDoor

namespace Go.Proofs.YtopifabnobplcaaDoor
open Go.RowKit
set_option linter.unusedVariables false
set_option linter.unusedSimpArgs false
set_option maxRecDepth 20000
def changedL (l : List Sn) (a b : Int) : List Nat × Int := if (atL l a).2 = 0 then (if (atL l b).2 = 0 then ((unlikeT (atL l a).1.t (atL l b).1.t).1, ((unlikeT (atL l a).1.t (atL l b).1.t).2 : Int)) else ([], (atL l b).2)) else ([], (atL l a).2)
theorem atL_ok {l : List Sn} {q : Int} (h : ∀ x ∈ l, x.s.t.Ok) : (atL l q).1.t.Ok := by
  unfold atL
  split
  · split
    · exact ok_zero
    · rename_i x hx
      split
      · exact h x (List.mem_of_getElem? hx)
      · exact ok_zero
  · exact ok_zero
theorem changed_s (m : Nat) (l : List Sn) (a b : Int) (hm : 16000000 < m) (h : ∀ x ∈ l, x.s.t.Ok) : snap_Changed m (lS l) (nA a) (nA b) = some (TU [SL (nLs (changedL l a b).1), nA (changedL l a b).2], []) := by
  have h1 := at_s m l a hm h
  have h2 := at_s m l b hm h
  have k1 := atL_ok (q := a) h
  have k2 := atL_ok (q := b) h
  unfold changedL
  generalize atL l a = x at h1 k1 ⊢
  generalize atL l b = y at h2 k2 ⊢
  obtain ⟨x1, x2⟩ := x
  obtain ⟨y1, y2⟩ := y
  dsimp only at h1 h2 k1 k2 ⊢
  have h3 := unlike_s m x1.t y1.t (by omega) k1 k2
  rw [tA_def, tA_def] at h3
  rw [lS_def, stA_def] at h1 h2
  rw [snap_Changed_eq, lS_def]
  by_cases e1 : x2 = 0
  · by_cases e2 : y2 = 0
    · simp (config := {maxSteps := 4000000, implicitDefEqProofs := false}) (disch := omega) only [go_sem, ↓reduceIte, Nat.reduceAdd, Nat.reduceSub, Nat.reduceMul, Nat.reduceLeDiff, Nat.reduceLT, Int.reduceEq, Int.reduceNe, Int.reduceLT, Int.reduceLE, Int.reduceAdd, Int.reduceSub, Int.reduceMul, Int.reduceNeg, Nat.zero_add, Nat.add_zero, Nat.mul_one, Int.toNat_natCast, Int.natCast_zero, Int.cast_ofNat_Int, or_false, false_or, or_true, true_or, Int.reduceToNat, Nat.sub_zero, Int.natCast_nonneg, Int.toNat_zero, Bool.true_and, Bool.and_true, Bool.false_and, Bool.and_false, Bool.true_or, Bool.or_true, Bool.false_or, Bool.or_false, Bool.not_true, Bool.not_false, Bool.not_not, true_and, and_true, false_and, and_false, not_true_eq_false, not_false_eq_true, eq_self, decide_true, decide_false, ne_eq, implies_true, forall_const, true_implies, false_implies, Bool.true_eq_false, Bool.false_eq_true, reduceCtorEq, List.map_cons, List.map_nil, List.all_cons, List.all_nil, List.length_cons, List.length_nil, List.length_map, List.length_append, List.nil_append, List.cons_append, List.set_cons_zero, List.set_cons_succ, List.set_nil, List.drop_zero, List.drop_succ_cons, List.drop_nil, List.take_zero, List.take_succ_cons, List.take_nil, Option.map_some, Option.map_none, Option.isSome_some, Nat.reduceEqDiff, Nat.reduceBEq, Nat.reduceGT, List.all_append, List.all_map, Function.comp_def, decide_eq_true_eq, Bool.and_eq_true, beq_self_eq_true, or_self, and_self, ite_true, ite_false, Nat.le_refl, Bool.not_eq_true, decide_not, Bool.not_eq_true', decide_eq_false_iff_not, Bool.not_eq_false, Bool.or_eq_true, if_true, if_false, ite_self, tC_len, tC_sure, tC_ltA, tC_lt1, tC_ro, tC_take, tC_all1, zC_len, zC_ltA, zC_lt1, zC_sure, zC_ro, zC_take, set_tl, set_tv, sc_tt, sc_zt, sc_tz, sc_zz, add16, tA_def, lA_def, natInt, u_tl, u_tv, h1, h2, h3, e1, e2, zcS_eq, zS_len, ss_zs, stC_len, st_ltA, st_sure, st_take, st_take35, st_lt1, st_all1, st_ro, sn_it, sn_allA, nLs_ltA]
    · simp (config := {maxSteps := 4000000, implicitDefEqProofs := false}) (disch := omega) only [go_sem, ↓reduceIte, Nat.reduceAdd, Nat.reduceSub, Nat.reduceMul, Nat.reduceLeDiff, Nat.reduceLT, Int.reduceEq, Int.reduceNe, Int.reduceLT, Int.reduceLE, Int.reduceAdd, Int.reduceSub, Int.reduceMul, Int.reduceNeg, Nat.zero_add, Nat.add_zero, Nat.mul_one, Int.toNat_natCast, Int.natCast_zero, Int.cast_ofNat_Int, or_false, false_or, or_true, true_or, Int.reduceToNat, Nat.sub_zero, Int.natCast_nonneg, Int.toNat_zero, Bool.true_and, Bool.and_true, Bool.false_and, Bool.and_false, Bool.true_or, Bool.or_true, Bool.false_or, Bool.or_false, Bool.not_true, Bool.not_false, Bool.not_not, true_and, and_true, false_and, and_false, not_true_eq_false, not_false_eq_true, eq_self, decide_true, decide_false, ne_eq, implies_true, forall_const, true_implies, false_implies, Bool.true_eq_false, Bool.false_eq_true, reduceCtorEq, List.map_cons, List.map_nil, List.all_cons, List.all_nil, List.length_cons, List.length_nil, List.length_map, List.length_append, List.nil_append, List.cons_append, List.set_cons_zero, List.set_cons_succ, List.set_nil, List.drop_zero, List.drop_succ_cons, List.drop_nil, List.take_zero, List.take_succ_cons, List.take_nil, Option.map_some, Option.map_none, Option.isSome_some, Nat.reduceEqDiff, Nat.reduceBEq, Nat.reduceGT, List.all_append, List.all_map, Function.comp_def, decide_eq_true_eq, Bool.and_eq_true, beq_self_eq_true, or_self, and_self, ite_true, ite_false, Nat.le_refl, Bool.not_eq_true, decide_not, Bool.not_eq_true', decide_eq_false_iff_not, Bool.not_eq_false, Bool.or_eq_true, if_true, if_false, ite_self, tC_len, tC_sure, tC_ltA, tC_lt1, tC_ro, tC_take, tC_all1, zC_len, zC_ltA, zC_lt1, zC_sure, zC_ro, zC_take, set_tl, set_tv, sc_tt, sc_zt, sc_tz, sc_zz, add16, tA_def, lA_def, natInt, u_tl, u_tv, h1, h2, h3, e1, e2, zcS_eq, zS_len, ss_zs, stC_len, st_ltA, st_sure, st_take, st_take35, st_lt1, st_all1, st_ro, sn_it, sn_allA, nLs_ltA]
      try rfl
  · simp (config := {maxSteps := 4000000, implicitDefEqProofs := false}) (disch := omega) only [go_sem, ↓reduceIte, Nat.reduceAdd, Nat.reduceSub, Nat.reduceMul, Nat.reduceLeDiff, Nat.reduceLT, Int.reduceEq, Int.reduceNe, Int.reduceLT, Int.reduceLE, Int.reduceAdd, Int.reduceSub, Int.reduceMul, Int.reduceNeg, Nat.zero_add, Nat.add_zero, Nat.mul_one, Int.toNat_natCast, Int.natCast_zero, Int.cast_ofNat_Int, or_false, false_or, or_true, true_or, Int.reduceToNat, Nat.sub_zero, Int.natCast_nonneg, Int.toNat_zero, Bool.true_and, Bool.and_true, Bool.false_and, Bool.and_false, Bool.true_or, Bool.or_true, Bool.false_or, Bool.or_false, Bool.not_true, Bool.not_false, Bool.not_not, true_and, and_true, false_and, and_false, not_true_eq_false, not_false_eq_true, eq_self, decide_true, decide_false, ne_eq, implies_true, forall_const, true_implies, false_implies, Bool.true_eq_false, Bool.false_eq_true, reduceCtorEq, List.map_cons, List.map_nil, List.all_cons, List.all_nil, List.length_cons, List.length_nil, List.length_map, List.length_append, List.nil_append, List.cons_append, List.set_cons_zero, List.set_cons_succ, List.set_nil, List.drop_zero, List.drop_succ_cons, List.drop_nil, List.take_zero, List.take_succ_cons, List.take_nil, Option.map_some, Option.map_none, Option.isSome_some, Nat.reduceEqDiff, Nat.reduceBEq, Nat.reduceGT, List.all_append, List.all_map, Function.comp_def, decide_eq_true_eq, Bool.and_eq_true, beq_self_eq_true, or_self, and_self, ite_true, ite_false, Nat.le_refl, Bool.not_eq_true, decide_not, Bool.not_eq_true', decide_eq_false_iff_not, Bool.not_eq_false, Bool.or_eq_true, if_true, if_false, ite_self, tC_len, tC_sure, tC_ltA, tC_lt1, tC_ro, tC_take, tC_all1, zC_len, zC_ltA, zC_lt1, zC_sure, zC_ro, zC_take, set_tl, set_tv, sc_tt, sc_zt, sc_tz, sc_zz, add16, tA_def, lA_def, natInt, u_tl, u_tv, h1, h2, h3, e1, zcS_eq, zS_len, ss_zs, stC_len, st_ltA, st_sure, st_take, st_take35, st_lt1, st_all1, st_ro, sn_it, sn_allA, nLs_ltA]
    try rfl
end Go.Proofs.YtopifabnobplcaaDoor

namespace Go.Proofs.YtopifabnobplcaaDoor
open Go.RowKit
set_option linter.unusedVariables false
set_option linter.unusedSimpArgs false
set_option maxRecDepth 20000
theorem nLs_nil : nLs [] = [] := _root_.id rfl
theorem zcT14 : zc_api_Trunk = zC := _root_.id rfl
theorem dropN_iff {l : List Sn} {q : Int} (hinc : Inc l) {i : Nat} (hi : i < l.length) : dropN l q ≤ i ↔ (q ≤ l[i].seq ∨ i + 1 = l.length) := by
  have hfl := fromL_le l q
  unfold dropN
  constructor
  · intro h
    rcases Nat.lt_or_ge i (fromL l q) with h1 | h1
    · right; omega
    · left
      have h2 : fromL l q < l.length := by omega
      have h3 := from_hi h2
      rcases Nat.lt_or_ge (fromL l q) i with h4 | h4
      · have := hinc _ _ hi h4; omega
      · have : fromL l q = i := by omega
        simp only [this] at h3; exact h3
  · rintro (h | h)
    · rcases Nat.lt_or_ge i (fromL l q) with h1 | h1
      · have := from_lo hi h1; omega
      · omega
    · omega
theorem rdG_take {l : List Sn} {q : Int} (hinc : Inc l) : ∀ k, k ≤ l.length → rdG l q k = (l.take k).drop (dropN l q)
  | 0, _ => by simp [rdG]
  | k + 1, hk => by
    have hlt : k < l.length := by omega
    have ih := rdG_take (q := q) hinc k (by omega)
    have he : rdG l q (k + 1) = if q ≤ l[k].seq ∨ k + 1 = l.length then rdG l q k ++ [l[k]] else rdG l q k := by
      show (match l[k]? with | none => _ | some x => _) = _
      rw [List.getElem?_eq_getElem hlt]
    rw [he, ih, List.take_succ_eq_append_getElem hlt]
    by_cases hd : dropN l q ≤ k
    · rw [if_pos ((dropN_iff hinc hlt).1 hd), List.drop_append_of_le_length (by rw [List.length_take]; omega)]
    · rw [if_neg fun h => hd ((dropN_iff hinc hlt).2 h), List.drop_of_length_le (by rw [List.length_take]; omega), List.drop_of_length_le (by rw [List.length_append, List.length_take, List.length_singleton]; omega)]
theorem rdG_drop {l : List Sn} {q : Int} (hi : isL l = true) : rdG l q l.length = l.drop (dropN l q) := by
  rw [rdG_take (isL_inc hi) _ (Nat.le_refl _), List.take_length]
theorem unl_pre (a b : Tr) (k : Nat) : ∀ d, ∃ r, unlikeL a b (k + d) = unlikeL a b k ++ r
  | 0 => ⟨[], by simp⟩
  | d + 1 => by
    obtain ⟨r, hr⟩ := unl_pre a b k d
    exact ⟨r ++ (if unlikeAt a b (k + d) then [k + d] else []), by rw [← Nat.add_assoc, unlikeL_succ, hr, List.append_assoc]⟩
theorem unl_at {a b : Tr} {k : Nat} (hk : k < 16) (h : unlikeAt a b k = true) : ∃ hl : (unlikeL a b k).length < (unlikeL a b 16).length, (unlikeL a b 16)[(unlikeL a b k).length] = k := by
  obtain ⟨r, hr⟩ := unl_pre a b (k + 1) (15 - k)
  rw [show k + 1 + (15 - k) = 16 by omega, u_yes h, List.append_assoc] at hr
  refine ⟨by rw [hr, List.length_append, List.length_append]; simp; omega, ?_⟩
  simp only [hr]
  simp
theorem nth_nLs {R : Type} {K1 : AV → Option R} {l : List Nat} {k : Nat} (h : k < l.length) : nthE (nLs l) k K1 = K1 (nA ((l[k] : Nat) : Int)) := by
  unfold nthE nLs
  rw [List.getElem?_map, List.getElem?_eq_getElem h]
  rfl
theorem mayS_t {s : St} (h : mayS s = true) : mayT s.t = true := by
  unfold mayS at h
  simp only [Bool.and_eq_true] at h
  exact h.1.1.1.1.1.1
theorem drops4_s (m : Nat) (l : List Sn) (i j : Nat) (hi : i < l.length) (hj : j < l.length) (hm : 16000000 < m) (h : ∀ x ∈ l, x.s.t.Ok) : plenumlaw14_SnapDrops_r4 m ⟨[], [(0, SL (l.map snE)), (9, SL (nLs (unlikeL l[i].s.t l[j].s.t 16))), (10, nA 0), (11, nA i), (12, nA j)]⟩ = some (bA true, []) := by
  have hA := awake14_s m hm
  have ha := h _ (List.getElem_mem hi)
  have hb := h _ (List.getElem_mem hj)
  have hi' : (i : Int) < (l.length : Int) := by omega
  have hj' : (j : Int) < (l.length : Int) := by omega
  rw [plenumlaw14_SnapDrops_r4_eq]
  refine iter_go (ι := {k : Nat // k ≤ 16}) (fun k => ⟨[], [(0, SL (l.map snE)), (9, SL (nLs (unlikeL l[i].s.t l[j].s.t 16))), (10, nA 0), (11, nA i), (12, nA j), (13, nA (unlikeL l[i].s.t l[j].s.t k.1).length), (14, nA k.1)]⟩) (fun k => 16 - k.1) (fun _ => some (bA true, [])) ?_ ⟨0, Nat.zero_le _⟩ (by dsimp only; omega)
  rintro kx hkx ⟨k, hk⟩ kc hkc
  dsimp only at hkc ⊢
  rw [plenumlaw14_SnapDrops_b1_eq]
  by_cases hlt : k < 16
  · have hlt' : (k : Int) < 16 := by omega
    have step := hkc ⟨k + 1, by omega⟩ (by dsimp only; omega)
    dsimp only at step
    have hS := plenumref09_Same_e m (l[i].s.t.leaf k) (l[j].s.t.leaf k) ⟨ha.len' k, hb.len' k⟩
    rw [lA_def, lA_def] at hS
    have hg := unlikeL_le l[i].s.t l[j].s.t k
    by_cases hu : unlikeAt l[i].s.t l[j].s.t k = true
    · obtain ⟨hl, hx⟩ := unl_at hlt hu
      rw [u_yes hu, List.length_append] at step
      have hl1 : ((unlikeL l[i].s.t l[j].s.t k).length : Int) < ((unlikeL l[i].s.t l[j].s.t 16).length : Int) := by omega
      have hl2 : ¬ ((unlikeL l[i].s.t l[j].s.t 16).length : Int) ≤ ((unlikeL l[i].s.t l[j].s.t k).length : Int) := by omega
      have hn : ∀ {R : Type} {K1 : AV → Option R}, nthE (nLs (unlikeL l[i].s.t l[j].s.t 16)) (unlikeL l[i].s.t l[j].s.t k).length K1 = K1 (nA (k : Int)) := fun {R} {K1} => by rw [nth_nLs hl, hx]
      have hg1 : ((unlikeL l[i].s.t l[j].s.t k).length : Int) + 1 ≤ 100 := by omega
      by_cases hv : l[i].s.t.ver k = l[j].s.t.ver k
      · have hll : ¬ l[i].s.t.leaf k = l[j].s.t.leaf k := fun e => by unfold unlikeAt at hu; simp [hv, e] at hu
        simp (config := {maxSteps := 4000000, implicitDefEqProofs := false}) (disch := omega) only [go_sem, ↓reduceIte, Nat.reduceAdd, Nat.reduceSub, Nat.reduceMul, Nat.reduceLeDiff, Nat.reduceLT, Int.reduceEq, Int.reduceNe, Int.reduceLT, Int.reduceLE, Int.reduceAdd, Int.reduceSub, Int.reduceMul, Int.reduceNeg, Nat.zero_add, Nat.add_zero, Nat.mul_one, Int.toNat_natCast, Int.natCast_zero, Int.cast_ofNat_Int, or_false, false_or, or_true, true_or, Int.reduceToNat, Nat.sub_zero, Int.natCast_nonneg, Int.toNat_zero, Bool.true_and, Bool.and_true, Bool.false_and, Bool.and_false, Bool.true_or, Bool.or_true, Bool.false_or, Bool.or_false, Bool.not_true, Bool.not_false, Bool.not_not, true_and, and_true, false_and, and_false, not_true_eq_false, not_false_eq_true, eq_self, decide_true, decide_false, ne_eq, implies_true, forall_const, true_implies, false_implies, Bool.true_eq_false, Bool.false_eq_true, reduceCtorEq, List.map_cons, List.map_nil, List.all_cons, List.all_nil, List.length_cons, List.length_nil, List.length_map, List.length_append, List.nil_append, List.cons_append, List.set_cons_zero, List.set_cons_succ, List.set_nil, List.drop_zero, List.drop_succ_cons, List.drop_nil, List.take_zero, List.take_succ_cons, List.take_nil, Option.map_some, Option.map_none, Option.isSome_some, Nat.reduceEqDiff, Nat.reduceBEq, Nat.reduceGT, List.all_append, List.all_map, Function.comp_def, decide_eq_true_eq, Bool.and_eq_true, beq_self_eq_true, or_self, and_self, ite_true, ite_false, Nat.le_refl, Bool.not_eq_true, decide_not, Bool.not_eq_true', decide_eq_false_iff_not, Bool.not_eq_false, Bool.or_eq_true, if_true, if_false, ite_self, tC_len, tC_sure, tC_ltA, tC_lt1, tC_ro, tC_take, tC_all1, zC_len, zC_ltA, zC_lt1, zC_sure, zC_ro, zC_take, set_tl, set_tv, sc_tt, sc_zt, sc_tz, sc_zz, add16, tA_def, lA_def, natInt, u_tl, u_tv, hlt', hi', hj', u_nthM, sn_it, stC_len, st_take, st_take35, st_ltA, st_sure, st_lt1, st_all1, st_ro, sn_allA, all_tt, zcT14, Nat.add_sub_cancel_left, hS, w_i64, nLs_len, nLs_ltA, plenumlaw14_SnapDrops_r6_eq, plenumlaw14_SnapDrops_r7_eq, plenumlaw14_SnapDrops_r8_eq, plenumlaw14_SnapDrops_r9_eq, plenumlaw14_SnapDrops_r10_eq, plenumlaw14_SnapDrops_r11_eq, hv, hll, hl1, hl2, hn]
        exact step
      · simp (config := {maxSteps := 4000000, implicitDefEqProofs := false}) (disch := omega) only [go_sem, ↓reduceIte, Nat.reduceAdd, Nat.reduceSub, Nat.reduceMul, Nat.reduceLeDiff, Nat.reduceLT, Int.reduceEq, Int.reduceNe, Int.reduceLT, Int.reduceLE, Int.reduceAdd, Int.reduceSub, Int.reduceMul, Int.reduceNeg, Nat.zero_add, Nat.add_zero, Nat.mul_one, Int.toNat_natCast, Int.natCast_zero, Int.cast_ofNat_Int, or_false, false_or, or_true, true_or, Int.reduceToNat, Nat.sub_zero, Int.natCast_nonneg, Int.toNat_zero, Bool.true_and, Bool.and_true, Bool.false_and, Bool.and_false, Bool.true_or, Bool.or_true, Bool.false_or, Bool.or_false, Bool.not_true, Bool.not_false, Bool.not_not, true_and, and_true, false_and, and_false, not_true_eq_false, not_false_eq_true, eq_self, decide_true, decide_false, ne_eq, implies_true, forall_const, true_implies, false_implies, Bool.true_eq_false, Bool.false_eq_true, reduceCtorEq, List.map_cons, List.map_nil, List.all_cons, List.all_nil, List.length_cons, List.length_nil, List.length_map, List.length_append, List.nil_append, List.cons_append, List.set_cons_zero, List.set_cons_succ, List.set_nil, List.drop_zero, List.drop_succ_cons, List.drop_nil, List.take_zero, List.take_succ_cons, List.take_nil, Option.map_some, Option.map_none, Option.isSome_some, Nat.reduceEqDiff, Nat.reduceBEq, Nat.reduceGT, List.all_append, List.all_map, Function.comp_def, decide_eq_true_eq, Bool.and_eq_true, beq_self_eq_true, or_self, and_self, ite_true, ite_false, Nat.le_refl, Bool.not_eq_true, decide_not, Bool.not_eq_true', decide_eq_false_iff_not, Bool.not_eq_false, Bool.or_eq_true, if_true, if_false, ite_self, tC_len, tC_sure, tC_ltA, tC_lt1, tC_ro, tC_take, tC_all1, zC_len, zC_ltA, zC_lt1, zC_sure, zC_ro, zC_take, set_tl, set_tv, sc_tt, sc_zt, sc_tz, sc_zz, add16, tA_def, lA_def, natInt, u_tl, u_tv, hlt', hi', hj', u_nthM, sn_it, stC_len, st_take, st_take35, st_ltA, st_sure, st_lt1, st_all1, st_ro, sn_allA, all_tt, zcT14, Nat.add_sub_cancel_left, hS, w_i64, nLs_len, nLs_ltA, plenumlaw14_SnapDrops_r6_eq, plenumlaw14_SnapDrops_r7_eq, plenumlaw14_SnapDrops_r8_eq, plenumlaw14_SnapDrops_r9_eq, plenumlaw14_SnapDrops_r10_eq, plenumlaw14_SnapDrops_r11_eq, hv, hl1, hl2, hn]
        exact step
    · have hu : unlikeAt l[i].s.t l[j].s.t k = false := by simpa using hu
      rw [u_no hu] at step
      have hv : l[i].s.t.ver k = l[j].s.t.ver k := by unfold unlikeAt at hu; simp at hu; exact hu.1
      have hl : l[i].s.t.leaf k = l[j].s.t.leaf k := by unfold unlikeAt at hu; simp at hu; exact hu.2
      rw [hl] at hS
      simp (config := {maxSteps := 4000000, implicitDefEqProofs := false}) (disch := omega) only [go_sem, ↓reduceIte, Nat.reduceAdd, Nat.reduceSub, Nat.reduceMul, Nat.reduceLeDiff, Nat.reduceLT, Int.reduceEq, Int.reduceNe, Int.reduceLT, Int.reduceLE, Int.reduceAdd, Int.reduceSub, Int.reduceMul, Int.reduceNeg, Nat.zero_add, Nat.add_zero, Nat.mul_one, Int.toNat_natCast, Int.natCast_zero, Int.cast_ofNat_Int, or_false, false_or, or_true, true_or, Int.reduceToNat, Nat.sub_zero, Int.natCast_nonneg, Int.toNat_zero, Bool.true_and, Bool.and_true, Bool.false_and, Bool.and_false, Bool.true_or, Bool.or_true, Bool.false_or, Bool.or_false, Bool.not_true, Bool.not_false, Bool.not_not, true_and, and_true, false_and, and_false, not_true_eq_false, not_false_eq_true, eq_self, decide_true, decide_false, ne_eq, implies_true, forall_const, true_implies, false_implies, Bool.true_eq_false, Bool.false_eq_true, reduceCtorEq, List.map_cons, List.map_nil, List.all_cons, List.all_nil, List.length_cons, List.length_nil, List.length_map, List.length_append, List.nil_append, List.cons_append, List.set_cons_zero, List.set_cons_succ, List.set_nil, List.drop_zero, List.drop_succ_cons, List.drop_nil, List.take_zero, List.take_succ_cons, List.take_nil, Option.map_some, Option.map_none, Option.isSome_some, Nat.reduceEqDiff, Nat.reduceBEq, Nat.reduceGT, List.all_append, List.all_map, Function.comp_def, decide_eq_true_eq, Bool.and_eq_true, beq_self_eq_true, or_self, and_self, ite_true, ite_false, Nat.le_refl, Bool.not_eq_true, decide_not, Bool.not_eq_true', decide_eq_false_iff_not, Bool.not_eq_false, Bool.or_eq_true, if_true, if_false, ite_self, tC_len, tC_sure, tC_ltA, tC_lt1, tC_ro, tC_take, tC_all1, zC_len, zC_ltA, zC_lt1, zC_sure, zC_ro, zC_take, set_tl, set_tv, sc_tt, sc_zt, sc_tz, sc_zz, add16, tA_def, lA_def, natInt, u_tl, u_tv, hlt', hi', hj', u_nthM, sn_it, stC_len, st_take, st_take35, st_ltA, st_sure, st_lt1, st_all1, st_ro, sn_allA, all_tt, zcT14, Nat.add_sub_cancel_left, hS, w_i64, nLs_len, nLs_ltA, plenumlaw14_SnapDrops_r6_eq, plenumlaw14_SnapDrops_r7_eq, plenumlaw14_SnapDrops_r8_eq, plenumlaw14_SnapDrops_r9_eq, plenumlaw14_SnapDrops_r10_eq, plenumlaw14_SnapDrops_r11_eq, hv, hl]
      exact step
  · have hlt' : ¬ (k : Int) < 16 := by omega
    obtain rfl : k = 16 := by omega
    simp (config := {maxSteps := 4000000, implicitDefEqProofs := false}) (disch := omega) only [go_sem, ↓reduceIte, Nat.reduceAdd, Nat.reduceSub, Nat.reduceMul, Nat.reduceLeDiff, Nat.reduceLT, Int.reduceEq, Int.reduceNe, Int.reduceLT, Int.reduceLE, Int.reduceAdd, Int.reduceSub, Int.reduceMul, Int.reduceNeg, Nat.zero_add, Nat.add_zero, Nat.mul_one, Int.toNat_natCast, Int.natCast_zero, Int.cast_ofNat_Int, or_false, false_or, or_true, true_or, Int.reduceToNat, Nat.sub_zero, Int.natCast_nonneg, Int.toNat_zero, Bool.true_and, Bool.and_true, Bool.false_and, Bool.and_false, Bool.true_or, Bool.or_true, Bool.false_or, Bool.or_false, Bool.not_true, Bool.not_false, Bool.not_not, true_and, and_true, false_and, and_false, not_true_eq_false, not_false_eq_true, eq_self, decide_true, decide_false, ne_eq, implies_true, forall_const, true_implies, false_implies, Bool.true_eq_false, Bool.false_eq_true, reduceCtorEq, List.map_cons, List.map_nil, List.all_cons, List.all_nil, List.length_cons, List.length_nil, List.length_map, List.length_append, List.nil_append, List.cons_append, List.set_cons_zero, List.set_cons_succ, List.set_nil, List.drop_zero, List.drop_succ_cons, List.drop_nil, List.take_zero, List.take_succ_cons, List.take_nil, Option.map_some, Option.map_none, Option.isSome_some, Nat.reduceEqDiff, Nat.reduceBEq, Nat.reduceGT, List.all_append, List.all_map, Function.comp_def, decide_eq_true_eq, Bool.and_eq_true, beq_self_eq_true, or_self, and_self, ite_true, ite_false, Nat.le_refl, Bool.not_eq_true, decide_not, Bool.not_eq_true', decide_eq_false_iff_not, Bool.not_eq_false, Bool.or_eq_true, if_true, if_false, ite_self, hkx, hlt', hA, nLs_len, plenumlaw14_SnapDrops_r11_eq, plenumlaw14_SnapDrops_r10_eq, plenumlaw14_SnapDrops_r9_eq, plenumlaw14_SnapDrops_r8_eq, plenumlaw14_SnapDrops_r7_eq, plenumlaw14_SnapDrops_r6_eq, plenumlaw14_SnapDrops_r5_eq, plenumlaw14_SnapDrops_r4_eq, plenumlaw14_SnapDrops_r3_eq, plenumlaw14_SnapDrops_r2_eq, plenumlaw14_SnapDrops_r1_eq]
theorem drops_s (m : Nat) (l : List Sn) (a b : Int) (hm : 16000000 < m) (hl : l.length ≤ maxLen) (h : ∀ x ∈ l, ∀ i, (x.s.t.leaf i).length ≤ maxLen) (hok : ∀ x ∈ fewS l, x.s.t.Ok) : plenumlaw14_SnapDrops m (lS l) (nA a) (nA b) = some (bA true, []) := by
  have hF := few14_s m l (by omega) hl h
  have h9 : (fewS l).length ≤ 10 := by unfold fewS; rw [List.length_map, List.length_take]; omega
  generalize fewS l = f at hF hok h9
  have h1 := drop_s m f a hm hok
  have h2 := changed_s m f a b hm hok
  have h3 := ris_s m f hm hok
  have hA := awake14_s m hm
  rw [lS_def, lS_def] at hF
  rw [lS_def] at h1 h2 h3
  rw [plenumlaw14_SnapDrops_eq, lS_def]
  cases hi : isL f with
  | false =>
    have e1 : dropL f a = ([], 1) := by unfold dropL; rw [hi]; rfl
    have e2 : changedL f a b = ([], 1) := by unfold changedL atL; rw [hi]; rfl
    rw [e1, lS_def] at h1
    rw [e2] at h2
    rw [hi] at h3
    simp (config := {maxSteps := 4000000, implicitDefEqProofs := false}) (disch := omega) only [go_sem, ↓reduceIte, Nat.reduceAdd, Nat.reduceSub, Nat.reduceMul, Nat.reduceLeDiff, Nat.reduceLT, Int.reduceEq, Int.reduceNe, Int.reduceLT, Int.reduceLE, Int.reduceAdd, Int.reduceSub, Int.reduceMul, Int.reduceNeg, Nat.zero_add, Nat.add_zero, Nat.mul_one, Int.toNat_natCast, Int.natCast_zero, Int.cast_ofNat_Int, or_false, false_or, or_true, true_or, Int.reduceToNat, Nat.sub_zero, Int.natCast_nonneg, Int.toNat_zero, Bool.true_and, Bool.and_true, Bool.false_and, Bool.and_false, Bool.true_or, Bool.or_true, Bool.false_or, Bool.or_false, Bool.not_true, Bool.not_false, Bool.not_not, true_and, and_true, false_and, and_false, not_true_eq_false, not_false_eq_true, eq_self, decide_true, decide_false, ne_eq, implies_true, forall_const, true_implies, false_implies, Bool.true_eq_false, Bool.false_eq_true, reduceCtorEq, List.map_cons, List.map_nil, List.all_cons, List.all_nil, List.length_cons, List.length_nil, List.length_map, List.length_append, List.nil_append, List.cons_append, List.set_cons_zero, List.set_cons_succ, List.set_nil, List.drop_zero, List.drop_succ_cons, List.drop_nil, List.take_zero, List.take_succ_cons, List.take_nil, Option.map_some, Option.map_none, Option.isSome_some, Nat.reduceEqDiff, Nat.reduceBEq, Nat.reduceGT, List.all_append, List.all_map, Function.comp_def, decide_eq_true_eq, Bool.and_eq_true, beq_self_eq_true, or_self, and_self, ite_true, ite_false, Nat.le_refl, Bool.not_eq_true, decide_not, Bool.not_eq_true', decide_eq_false_iff_not, Bool.not_eq_false, Bool.or_eq_true, if_true, if_false, ite_self, hF, h1, h2, h3, hA, sn_it, sn_allA, stC_len, st_ltA, nLs_ltA, nLs_nil]
  | true =>
    have e1 : dropL f a = (f.drop (dropN f a), 0) := by unfold dropL; rw [hi]; rfl
    rw [e1, lS_def] at h1
    rw [hi] at h3
    have h8 := isL_len hi
    have h4 := rdrop_s m f a (by omega) (by omega)
    rw [rdG_drop hi, lS_def, lS_def] at h4
    have hdo : ∀ x ∈ f.drop (dropN f a), x.s.t.Ok := fun x hx => hok x (List.mem_of_mem_drop hx)
    have h5 := rsame14_s m (f.drop (dropN f a)) (f.drop (dropN f a)) (by omega) (by rw [List.length_drop]; omega) hdo hdo
    rw [sameL_refl, lS_def] at h5
    have h6 := rat14_s m f a (by omega) (by omega)
    have h7 := rat14_s m f b (by omega) (by omega)
    rw [lS_def] at h6 h7
    rcases at_rat (q := a) hi with ⟨r1, r2⟩ | ⟨i, hlt, r1, r2⟩
    · have e2 : changedL f a b = ([], 6) := by unfold changedL; rw [r2]; rfl
      rw [e2] at h2
      rw [r1] at h6
      rcases at_rat (q := b) hi with ⟨r3, r4⟩ | ⟨j, hltj, r3, r4⟩
      · rw [r3] at h7
        simp (config := {maxSteps := 4000000, implicitDefEqProofs := false}) (disch := omega) only [go_sem, ↓reduceIte, Nat.reduceAdd, Nat.reduceSub, Nat.reduceMul, Nat.reduceLeDiff, Nat.reduceLT, Int.reduceEq, Int.reduceNe, Int.reduceLT, Int.reduceLE, Int.reduceAdd, Int.reduceSub, Int.reduceMul, Int.reduceNeg, Nat.zero_add, Nat.add_zero, Nat.mul_one, Int.toNat_natCast, Int.natCast_zero, Int.cast_ofNat_Int, or_false, false_or, or_true, true_or, Int.reduceToNat, Nat.sub_zero, Int.natCast_nonneg, Int.toNat_zero, Bool.true_and, Bool.and_true, Bool.false_and, Bool.and_false, Bool.true_or, Bool.or_true, Bool.false_or, Bool.or_false, Bool.not_true, Bool.not_false, Bool.not_not, true_and, and_true, false_and, and_false, not_true_eq_false, not_false_eq_true, eq_self, decide_true, decide_false, ne_eq, implies_true, forall_const, true_implies, false_implies, Bool.true_eq_false, Bool.false_eq_true, reduceCtorEq, List.map_cons, List.map_nil, List.all_cons, List.all_nil, List.length_cons, List.length_nil, List.length_map, List.length_append, List.nil_append, List.cons_append, List.set_cons_zero, List.set_cons_succ, List.set_nil, List.drop_zero, List.drop_succ_cons, List.drop_nil, List.take_zero, List.take_succ_cons, List.take_nil, Option.map_some, Option.map_none, Option.isSome_some, Nat.reduceEqDiff, Nat.reduceBEq, Nat.reduceGT, List.all_append, List.all_map, Function.comp_def, decide_eq_true_eq, Bool.and_eq_true, beq_self_eq_true, or_self, and_self, ite_true, ite_false, Nat.le_refl, Bool.not_eq_true, decide_not, Bool.not_eq_true', decide_eq_false_iff_not, Bool.not_eq_false, Bool.or_eq_true, if_true, if_false, ite_self, hF, h1, h2, h3, hA, sn_it, sn_allA, stC_len, st_ltA, nLs_ltA, nLs_nil, h4, h5, h6, h7, plenumlaw14_SnapDrops_r1_eq, plenumlaw14_SnapDrops_r2_eq, plenumlaw14_SnapDrops_r3_eq]
      · rw [r3] at h7
        simp (config := {maxSteps := 4000000, implicitDefEqProofs := false}) (disch := omega) only [go_sem, ↓reduceIte, Nat.reduceAdd, Nat.reduceSub, Nat.reduceMul, Nat.reduceLeDiff, Nat.reduceLT, Int.reduceEq, Int.reduceNe, Int.reduceLT, Int.reduceLE, Int.reduceAdd, Int.reduceSub, Int.reduceMul, Int.reduceNeg, Nat.zero_add, Nat.add_zero, Nat.mul_one, Int.toNat_natCast, Int.natCast_zero, Int.cast_ofNat_Int, or_false, false_or, or_true, true_or, Int.reduceToNat, Nat.sub_zero, Int.natCast_nonneg, Int.toNat_zero, Bool.true_and, Bool.and_true, Bool.false_and, Bool.and_false, Bool.true_or, Bool.or_true, Bool.false_or, Bool.or_false, Bool.not_true, Bool.not_false, Bool.not_not, true_and, and_true, false_and, and_false, not_true_eq_false, not_false_eq_true, eq_self, decide_true, decide_false, ne_eq, implies_true, forall_const, true_implies, false_implies, Bool.true_eq_false, Bool.false_eq_true, reduceCtorEq, List.map_cons, List.map_nil, List.all_cons, List.all_nil, List.length_cons, List.length_nil, List.length_map, List.length_append, List.nil_append, List.cons_append, List.set_cons_zero, List.set_cons_succ, List.set_nil, List.drop_zero, List.drop_succ_cons, List.drop_nil, List.take_zero, List.take_succ_cons, List.take_nil, Option.map_some, Option.map_none, Option.isSome_some, Nat.reduceEqDiff, Nat.reduceBEq, Nat.reduceGT, List.all_append, List.all_map, Function.comp_def, decide_eq_true_eq, Bool.and_eq_true, beq_self_eq_true, or_self, and_self, ite_true, ite_false, Nat.le_refl, Bool.not_eq_true, decide_not, Bool.not_eq_true', decide_eq_false_iff_not, Bool.not_eq_false, Bool.or_eq_true, if_true, if_false, ite_self, hF, h1, h2, h3, hA, sn_it, sn_allA, stC_len, st_ltA, nLs_ltA, nLs_nil, h4, h5, h6, h7, plenumlaw14_SnapDrops_r1_eq, plenumlaw14_SnapDrops_r2_eq, plenumlaw14_SnapDrops_r3_eq]
    · rw [r1] at h6
      have hi0 : ¬ (i : Int) < 0 := by omega
      rcases at_rat (q := b) hi with ⟨r3, r4⟩ | ⟨j, hltj, r3, r4⟩
      · have e2 : changedL f a b = ([], 6) := by unfold changedL; rw [r2, r4]; rfl
        rw [e2] at h2
        rw [r3] at h7
        simp (config := {maxSteps := 4000000, implicitDefEqProofs := false}) (disch := omega) only [go_sem, ↓reduceIte, Nat.reduceAdd, Nat.reduceSub, Nat.reduceMul, Nat.reduceLeDiff, Nat.reduceLT, Int.reduceEq, Int.reduceNe, Int.reduceLT, Int.reduceLE, Int.reduceAdd, Int.reduceSub, Int.reduceMul, Int.reduceNeg, Nat.zero_add, Nat.add_zero, Nat.mul_one, Int.toNat_natCast, Int.natCast_zero, Int.cast_ofNat_Int, or_false, false_or, or_true, true_or, Int.reduceToNat, Nat.sub_zero, Int.natCast_nonneg, Int.toNat_zero, Bool.true_and, Bool.and_true, Bool.false_and, Bool.and_false, Bool.true_or, Bool.or_true, Bool.false_or, Bool.or_false, Bool.not_true, Bool.not_false, Bool.not_not, true_and, and_true, false_and, and_false, not_true_eq_false, not_false_eq_true, eq_self, decide_true, decide_false, ne_eq, implies_true, forall_const, true_implies, false_implies, Bool.true_eq_false, Bool.false_eq_true, reduceCtorEq, List.map_cons, List.map_nil, List.all_cons, List.all_nil, List.length_cons, List.length_nil, List.length_map, List.length_append, List.nil_append, List.cons_append, List.set_cons_zero, List.set_cons_succ, List.set_nil, List.drop_zero, List.drop_succ_cons, List.drop_nil, List.take_zero, List.take_succ_cons, List.take_nil, Option.map_some, Option.map_none, Option.isSome_some, Nat.reduceEqDiff, Nat.reduceBEq, Nat.reduceGT, List.all_append, List.all_map, Function.comp_def, decide_eq_true_eq, Bool.and_eq_true, beq_self_eq_true, or_self, and_self, ite_true, ite_false, Nat.le_refl, Bool.not_eq_true, decide_not, Bool.not_eq_true', decide_eq_false_iff_not, Bool.not_eq_false, Bool.or_eq_true, if_true, if_false, ite_self, hF, h1, h2, h3, hA, sn_it, sn_allA, stC_len, st_ltA, nLs_ltA, nLs_nil, h4, h5, h6, h7, plenumlaw14_SnapDrops_r1_eq, plenumlaw14_SnapDrops_r2_eq, plenumlaw14_SnapDrops_r3_eq, hi0]
      · have hj0 : ¬ (j : Int) < 0 := by omega
        have hmi := mayS_t ((isL_ok hi).1 _ (List.getElem_mem hlt)).2
        have hmj := mayS_t ((isL_ok hi).1 _ (List.getElem_mem hltj)).2
        have e2 : changedL f a b = (unlikeL f[i].s.t f[j].s.t 16, 0) := by
          unfold changedL unlikeT
          rw [r2, r4]
          dsimp only
          rw [hmi, hmj]
          rfl
        rw [e2] at h2
        rw [r3] at h7
        have hr := drops4_s m f i j hlt hltj hm hok
        simp (config := {maxSteps := 4000000, implicitDefEqProofs := false}) (disch := omega) only [go_sem, ↓reduceIte, Nat.reduceAdd, Nat.reduceSub, Nat.reduceMul, Nat.reduceLeDiff, Nat.reduceLT, Int.reduceEq, Int.reduceNe, Int.reduceLT, Int.reduceLE, Int.reduceAdd, Int.reduceSub, Int.reduceMul, Int.reduceNeg, Nat.zero_add, Nat.add_zero, Nat.mul_one, Int.toNat_natCast, Int.natCast_zero, Int.cast_ofNat_Int, or_false, false_or, or_true, true_or, Int.reduceToNat, Nat.sub_zero, Int.natCast_nonneg, Int.toNat_zero, Bool.true_and, Bool.and_true, Bool.false_and, Bool.and_false, Bool.true_or, Bool.or_true, Bool.false_or, Bool.or_false, Bool.not_true, Bool.not_false, Bool.not_not, true_and, and_true, false_and, and_false, not_true_eq_false, not_false_eq_true, eq_self, decide_true, decide_false, ne_eq, implies_true, forall_const, true_implies, false_implies, Bool.true_eq_false, Bool.false_eq_true, reduceCtorEq, List.map_cons, List.map_nil, List.all_cons, List.all_nil, List.length_cons, List.length_nil, List.length_map, List.length_append, List.nil_append, List.cons_append, List.set_cons_zero, List.set_cons_succ, List.set_nil, List.drop_zero, List.drop_succ_cons, List.drop_nil, List.take_zero, List.take_succ_cons, List.take_nil, Option.map_some, Option.map_none, Option.isSome_some, Nat.reduceEqDiff, Nat.reduceBEq, Nat.reduceGT, List.all_append, List.all_map, Function.comp_def, decide_eq_true_eq, Bool.and_eq_true, beq_self_eq_true, or_self, and_self, ite_true, ite_false, Nat.le_refl, Bool.not_eq_true, decide_not, Bool.not_eq_true', decide_eq_false_iff_not, Bool.not_eq_false, Bool.or_eq_true, if_true, if_false, ite_self, hF, h1, h2, h3, hA, sn_it, sn_allA, stC_len, st_ltA, nLs_ltA, nLs_nil, h4, h5, h6, h7, plenumlaw14_SnapDrops_r1_eq, plenumlaw14_SnapDrops_r2_eq, plenumlaw14_SnapDrops_r3_eq, hi0, hj0]
        exact hr
end Go.Proofs.YtopifabnobplcaaDoor

namespace Go.Proofs.YtopifabnobplcaaDoor
open Go.RowKit
set_option linter.unusedVariables false
set_option linter.unusedSimpArgs false
set_option maxRecDepth 100000
theorem walk_SnapDrops (W : World) (hS : Sig W) (v0 : Value) (h0 : Arg Tryd.prog W 22 v0) (v1 : Value) (h1 : Arg Tryd.prog W 3 v1) (v2 : Value) (h2 : Arg Tryd.prog W 3 v2) :
    Calls Tryd.prog 7 #[v0, v1, v2] W fun e W' => e = .returned (.bool true) ∧ Below W.heap.size W W' := by
  obtain ⟨l, ⟨hl, ht⟩, r0⟩ := arg_snaps h0
  obtain ⟨a, _, r1⟩ := arg_int h1
  obtain ⟨b, _, r2⟩ := arg_int h2
  exact run_tells (plenumlaw14_SnapDrops_ok 16000001 [_, _, _] _ _ (drops_s _ l a b (by omega) hl (fun x hx => (ht x hx).len) (fewS_ok ht))) (gok_sig hS) (vs := [v0, v1, v2]) rfl (reps3 r0 r1 r2)
end Go.Proofs.YtopifabnobplcaaDoor
