/-
  The walks of leaf.find, Get, with, Put, Delete.
-/
import Derived.Test.YtagdjoabpkmomaaDoorFew
import Derived.Deep.Onto
namespace Go.Proofs.YtagdjoabpkmomaaDoor
open Go.RowKit
set_option maxRecDepth 100000
set_option linter.unusedSimpArgs false
set_option linter.unusedVariables false

theorem there_at {l : List Item} {k : Bytes} (h : posK l k < l.length) : thereK l k = (l[posK l k].key == k) := by
  unfold thereK; rw [List.getElem?_eq_getElem h]; rfl
theorem there_no {l : List Item} {k : Bytes} (h : ¬ posK l k < l.length) : thereK l k = false := by
  unfold thereK; rw [List.getElem?_eq_none (by omega)]; rfl
theorem int_eq {k : IntKind} {a b : Int} (h : a = b) : Value.int k a = Value.int k b := by rw [h]
theorem Fs.key {w : World} {l : List Item} {b off : Nat} (hcell : ∀ i (hi : i < l.length) j u, j < 5 → (Item.cells l[i])[j]? = some u → w.cell? ⟨b, off + i * 5 + j, none⟩ = some u) {k : Nat} (hk : k < l.length) : w.cell? ⟨b, off + k * 5, none⟩ = some (.string ⟨l[k].key.toArray⟩) := hcell k hk 0 _ (by omega) rfl

set_option maxHeartbeats 4000000 in
theorem find_any (A : Option Addr) (l : List Item) (c : Nat) (q : Bytes) (w : World) (hF : Fs Item.cells 5 w A l) (hs : SortedK l) (hl : l.length ≤ 34359738368) :
    Calls Tryd.prog 43 #[.slice A l.length c, .string ⟨q.toArray⟩] w fun e w' => e = .returned (.tuple #[.int .i64 (posK l q), .bool (thereK l q)]) ∧ Drew w w' := by
  have HS := hide hs
  clear hs
  have hple := posK_le l q
  go_enter Tryd.func43, Tryd.ntmps43
  go_wp2_with fail
  go_step3
  go_wp2_with fail
  go_step3
  go_wp2_with fail
  go_loop [6, 7] (fun a b => ∃ lo hi : Nat, lo ≤ posK l q ∧ posK l q ≤ hi ∧ hi ≤ l.length ∧ a = .int .i64 lo ∧ b = .int .i64 hi) (fun a b => (intOf b).toNat - (intOf a).toNat)
  case atStart => exact ⟨0, l.length, Nat.zero_le _, hple, Nat.le_refl _, rfl, rfl⟩
  case round =>
    obtain ⟨lo, hi, h1, h2, h3, rfl, rfl⟩ := hrel
    by_cases hlt : lo < hi
    · have hlt' : (lo : Int) < hi := by omega
      obtain ⟨mid, hm⟩ : ∃ mid, mid = (lo + hi) / 2 := ⟨_, rfl⟩
      have hml : mid < l.length := by omega
      obtain ⟨b, off, rfl, hbl, hcell⟩ := hF.cell (fun _ => rfl) (by omega)
      have hc := Fs.key hcell hml
      have hp0 := posK_lt HS.out q hml
      have kix := fun w => run_elemAddr Tryd.underlying22 size_item b off l.length c mid hml (((lo : Int) + hi) / 2) (by omega) w
      have HM := hide (show ((lo : Int) + hi) / 2 = (mid : Int) from by omega)
      generalize l[mid].key = key at hc hp0
      have hmid1 : lo ≤ mid := by omega
      have hmid2 : mid < hi := by omega
      clear hcell hm
      by_cases hp : mid < posK l q
      · have hb : Op.bytesLess key q = true := by rw [decide_eq_true hp] at hp0; exact hp0
        clear hp0
        go_wp2_with fail
        exact ⟨⟨mid + 1, hi, by omega, h2, h3, int_eq (by have := HM.out; omega), rfl⟩, by have := HM.out; simp [intOf]; omega⟩
      · have hb : Op.bytesLess key q = false := by rw [decide_eq_false hp] at hp0; exact hp0
        clear hp0
        go_wp2_with fail
        exact ⟨⟨lo, mid, h1, by omega, by omega, rfl, int_eq HM.out⟩, by have := HM.out; simp [intOf]; omega⟩
    · have hlt' : ¬ (lo : Int) < hi := by omega
      obtain rfl : lo = hi := by omega
      obtain rfl : lo = posK l q := by omega
      by_cases hq : posK l q < l.length
      · have hq' : (posK l q : Int) < l.length := by omega
        obtain ⟨b, off, rfl, hbl, hcell⟩ := hF.cell (fun _ => rfl) (by omega)
        have hc := Fs.key hcell hq
        have HT := hide (there_at hq)
        generalize hk : l[posK l q].key = key at hc HT
        clear hcell hk
        go_wp2_with fail
        go_quiet (fail)
        go_wp2_with fail
        rw [Exit.noGoto_ret]
        go_ret2
        rw [HT.out]
        exact ⟨rfl, Drew.mk _ _⟩
      · have hq' : ¬ (posK l q : Int) < l.length := by omega
        have HT := hide (there_no hq)
        go_wp2_with fail
        go_quiet (fail)
        go_wp2_with fail
        rw [Exit.noGoto_ret]
        go_ret2
        rw [HT.out]
        exact ⟨rfl, Drew.mk _ _⟩

theorem set5 {w w1 : World} (h : Below w.heap.size w w1) (u0 u1 u2 u3 u4 : Value) :
    Below w.heap.size w (((((w1.setCell ⟨w.heap.size, 0, none⟩ u0).setCell ⟨w.heap.size, 1, none⟩ u1).setCell ⟨w.heap.size, 2, none⟩ u2).setCell ⟨w.heap.size, 3, none⟩ u3).setCell ⟨w.heap.size, 4, none⟩ u4) :=
  ((((h.setCell (Nat.le_refl _) _).setCell (Nat.le_refl _) _).setCell (Nat.le_refl _) _).setCell (Nat.le_refl _) _).setCell (Nat.le_refl _) _
def getK (l : List Item) (q : Bytes) : Option Item := if leafB l && thereK l q then l[posK l q]? else none
def vIt (x : Item) : Value := .agg #[.string ⟨x.key.toArray⟩, .int .i64 x.kind, .int .i64 x.i, .string ⟨x.s.toArray⟩, .int .i64 x.ver]
theorem getK_no {l : List Item} {q : Bytes} (h : leafB l = false) : getK l q = none := by unfold getK; rw [h]; rfl
theorem getK_none {l : List Item} {q : Bytes} (h : thereK l q = false) : getK l q = none := by unfold getK; rw [h, Bool.and_false]; rfl
theorem there_lt {l : List Item} {q : Bytes} (h : thereK l q = true) : posK l q < l.length := by
  rcases Nat.lt_or_ge (posK l q) l.length with h1 | h1
  · exact h1
  · rw [there_no (by omega)] at h; cases h
theorem getK_some {l : List Item} {q : Bytes} (h : leafB l = true) (ht : thereK l q = true) : getK l q = some (l[posK l q]'(there_lt ht)) := by
  unfold getK; rw [h, ht, Bool.and_self, if_pos rfl, List.getElem?_eq_getElem (there_lt ht)]
theorem drew_gr {w w' : World} (h : Drew w w') : Below w.heap.size w w' := by
  obtain ⟨n, rfl⟩ := h; exact below_drewN (Below.refl _ _) n

set_option maxHeartbeats 4000000 in
theorem get_any (A : Option Addr) (l : List Item) (c : Nat) (q : Bytes) (w : World) (hS : Sig w) (hF : Fs Item.cells 5 w A l) (hl : l.length ≤ 34359738368) :
    Calls Tryd.prog 17 #[.slice A l.length c, .string ⟨q.toArray⟩] w fun e w' => e = .returned (.tuple #[vIt ((getK l q).getD Item.zero), .bool (getK l q).isSome]) ∧ Below w.heap.size w w' := by
  have HSg := hide (hS.below (gr1 w (.cells #[.string ⟨#[]⟩, .int .i64 0, .int .i64 0, .string ⟨#[]⟩, .int .i64 0] 32)))
  have HFs := hide (hF.below (gr1 w (.cells #[.string ⟨#[]⟩, .int .i64 0, .int .i64 0, .string ⟨#[]⟩, .int .i64 0] 32)))
  clear hS hF
  cases hlf : leafB l with
  | false =>
    have HR := hide (getK_no (q := q) hlf)
    go_enter Tryd.func17, Tryd.ntmps17
    go_wp2_with (go_at_call 40; refine (leaf_is_any A l c _ HSg.out HFs.out hl).mono ?_; rintro e w1 ⟨rfl, hb⟩; obtain ⟨hc, hf⟩ := bcell hb; have hz := bz hb)
    rw [HR.out]
    exact bodyPost_ret (v := .tuple #[vIt Item.zero, .bool false]) (by simp [results, Tryd.results17, go_sem, hc, hz, vIt, Item.zero]) rfl ⟨rfl, set5 (below_trans (gr1 _ _) hb) _ _ _ _ _⟩
  | true =>
    have hsrt := hide ((leafB_iff l).1 hlf).2.2
    cases ht : thereK l q with
    | false =>
      have HR := hide (getK_none (q := q) ht)
      go_enter Tryd.func17, Tryd.ntmps17
      go_wp2_with (first
        | (go_at_call 40; refine (leaf_is_any A l c _ HSg.out HFs.out hl).mono ?_; rintro e w1 ⟨rfl, hb⟩; obtain ⟨hc, hf⟩ := bcell hb; have hz := bz hb)
        | (go_at_call 43; refine (find_any A l c q _ (HFs.out.below hb) hsrt.out hl).mono ?_; rintro e w2 ⟨rfl, nd, rfl⟩))
      rw [HR.out]
      exact bodyPost_ret (v := .tuple #[vIt Item.zero, .bool false]) (by simp [results, Tryd.results17, go_sem, hc, hz, vIt, Item.zero]) rfl ⟨rfl, set5 (below_drewN (below_trans (gr1 _ _) hb) _) _ _ _ _ _⟩
    | true =>
      have hlt := there_lt ht
      have hlt' : (posK l q : Int) < l.length := by omega
      have HR := hide (getK_some hlf ht)
      obtain ⟨b, off, rfl, hbl, hcell⟩ := HFs.out.cell (fun _ => rfl) (by omega)
      obtain ⟨c0, c1, c2, c3, c4⟩ := five hcell (Below.refl _ _) hbl hlt
      generalize l[posK l q] = x at c0 c1 c2 c3 c4 HR
      obtain ⟨key, kind, i, s, ver⟩ := x
      have hbl1 : b < w.heap.size + 1 := by simpa using hbl
      clear hcell hbl
      go_enter Tryd.func17, Tryd.ntmps17
      go_wp2_with (first
        | (go_at_call 40; refine (leaf_is_any _ l c _ HSg.out HFs.out hl).mono ?_; rintro e w1 ⟨rfl, hb⟩; obtain ⟨hc, hf⟩ := bcell hb; have hz := bz hb)
        | (go_at_call 43; refine (find_any _ l c q _ (HFs.out.below hb) hsrt.out hl).mono ?_; rintro e w2 ⟨rfl, nd, rfl⟩))
      rw [HR.out]
      exact bodyPost_ret (v := .tuple #[vIt ⟨key, kind, i, s, ver⟩, .bool true]) (by simp [results, Tryd.results17, go_sem, hc, hz, vIt, Item.zero]) rfl ⟨rfl, set5 (below_drewN (below_trans (gr1 _ _) hb) _) _ _ _ _ _⟩

theorem rd_take {w : World} {A : Option Addr} {l : List Item} (h : Fs Item.cells 5 w A l) (k : Nat) (hk : k ≤ l.length) : Rd w A 5 k ((l.take k).flatMap Item.cells) := by
  have := h.take (fun _ => rfl) k
  unfold Fs at this
  rwa [List.length_take, Nat.min_eq_left hk] at this
theorem rd_drop {w : World} {A : Option Addr} {l : List Item} (h : Fs Item.cells 5 w A l) (k c : Nat) (hk : k ≤ l.length) (hc : l.length ≤ c) : Rd w (cutA A c k 5) 5 (l.length - k) ((l.drop k).flatMap Item.cells) := by
  have := h.cutL (fun _ => rfl) (c := c) hk hc
  unfold Fs at this
  rwa [List.length_drop] at this
theorem cells_one (l : List Item) : ∀ u ∈ l.flatMap Item.cells, u.oneCell' = true := by
  intro u hu
  obtain ⟨x, _, hx⟩ := List.mem_flatMap.1 hu
  simp [Item.cells, cStr, cI] at hx
  rcases hx with rfl | rfl | rfl | rfl | rfl <;> rfl

set_option maxHeartbeats 4000000 in
theorem with_any (A : Option Addr) (l : List Item) (c : Nat) (F T : Int) (f t : Nat) (hF : F = f) (hT : T = t) (B : Option Addr) (xs : List Item) (d : Nat) (w : World)
    (hl : Fs Item.cells 5 w A l) (hx : Fs Item.cells 5 w B xs) (hft : f ≤ t) (htl : t ≤ l.length) (hlc : l.length ≤ c) (hll : l.length ≤ 1000000) (hxl : xs.length ≤ 1000000) :
    Calls Tryd.prog 44 #[.slice A l.length c, .int .i64 F, .int .i64 T, .slice B xs.length d] w (FsOut Item.cells 5 32 w (l.take f ++ xs ++ l.drop t)) := by
  subst hF hT
  have h1 := rd_take hl f (by omega)
  have h3 := rd_drop hl t c htl hlc
  obtain ⟨i0, hi0, hz0, hz1, hz2⟩ := info_parts info_item
  obtain ⟨w1, hmk, hown, hgrow⟩ := run_make_own (P := Tryd.prog) w w.heap.size 22 32 i0 _ 5 Tryd.underlying22 hi0 hz0 hz1 .i64 .i64 (l.length - (t - f) + xs.length) (by rw [hz2]; omega) (by unfold maxLen; omega) (Nat.le_refl _)
  rw [show ((l.length - (t - f) + xs.length : Nat) : Int) = (l.length : Int) - ((t : Int) - (f : Int)) + (xs.length : Int) from by omega] at hmk
  have hb1 : Below w.heap.size w w1 := (Below.refl _ _).grown hgrow (Nat.le_refl _) (by simp)
  have hcut1 := fun w => run_cutH Tryd.underlying22 size_item A l.length c f (by omega) (f : Int) rfl w
  have hcut3 := fun w => run_cut_from Tryd.underlying22 size_item A l.length c t (by omega) (t : Int) rfl w
  have HO := hide hown; have H1 := hide (h1.below hb1); have H2 := hide hx; have H3 := hide h3; have HI := hide hi0
  clear hown h1 h3 hl hx hgrow hi0 hz0 hz1 hz2
  go_enter Tryd.func44, Tryd.ntmps44
  go_wp2_with (first
    | (at_builtin; refine wpList_appAny _ rfl (.tmp 20) (.tmp 23) _ rfl w w.heap.size 32 _ 5 56 Tryd.underlying22 info_item rfl (by omega) (by omega) _ 0 _ (by rfl) HO.out hb1 _ _ _ _ (by rfl) H1.out (cells_one _) (by omega) hb1.size ?_; intro A4 c4 w4 hown4 hb4; simp only [Nat.zero_add, List.nil_append] at hown4)
    | (at_builtin; refine wpList_appAny _ rfl (.tmp 25) (.tmp 26) _ rfl w w.heap.size 32 _ 5 56 Tryd.underlying22 info_item rfl (by omega) (by omega) _ _ _ (by rfl) hown4 hb4 _ _ _ _ (by rfl) (H2.out.below hb4) (cells_one _) (by omega) hb4.size ?_; intro A5 c5 w5 hown5 hb5)
    | (at_builtin; refine wpList_appAny _ rfl (.tmp 28) (.tmp 31) _ rfl w w.heap.size 32 _ 5 56 Tryd.underlying22 info_item rfl (by omega) (by omega) _ _ _ (by rfl) hown5 hb5 _ _ _ _ (by rfl) (H3.out.below hb5) (cells_one _) (by omega) hb5.size ?_; intro A6 c6 w6 hown6 hb6))
  go_ret
  have hlen : (l.take f ++ xs ++ l.drop t).length = f + xs.length + (l.length - t) := by simp; omega
  refine ⟨A6, c6, by rw [hlen]; rfl, ?_, hb6⟩
  rw [hlen, List.flatMap_append, List.flatMap_append]
  exact hown6

theorem fs_new1 (w : World) (key : Bytes) (kind i : Int) (s : Bytes) (ver : Int) (t H : Nat) (hH : w.heap.size = H) :
    Fs Item.cells 5 (w.alloc (.cells #[.string ⟨key.toArray⟩, .int .i64 kind, .int .i64 i, .string ⟨s.toArray⟩, .int .i64 ver] t)) (some ⟨H, 0, none⟩) [⟨key, kind, i, s, ver⟩] := by
  subst hH
  exact Fs.of_own (base := w.heap.size) (e := t) (n := 1) (c := 1) rfl (own_new w w.heap.size t 5 1 _ (Nat.le_refl _) rfl (by simp [maxLen]))
/-- what Put and Delete give: the list, and the error -/
def putK (l : List Item) (x : Item) : List Item × Nat :=
  if !(leafB l && itemB x) then ([], 1) else if !thereK l x.key && l.length == 64 then ([], 5) else (withK l x, 0)
def delK (l : List Item) (q : Bytes) : List Item × Nat :=
  if !leafB l then ([], 1) else if !thereK l q then ([], 6) else (withoutK l q, 0)
/-- a list of one's own, or nothing, and an error -/
def FsErr (w : World) (r : List Item × Nat) (e : Ending) (w' : World) : Prop :=
  ∃ A cap, e = .returned (.tuple #[.slice A r.1.length cap, .int .i64 r.2]) ∧ w'.ownsRow w.heap.size 32 5 (.slice A r.1.length cap) r.1.length (r.1.flatMap Item.cells) ∧ Below w.heap.size w w'

set_option maxHeartbeats 4000000 in
theorem put_item_any (A : Option Addr) (l : List Item) (c : Nat) (key : Bytes) (kind i : Int) (s : Bytes) (ver : Int) (w : World) (hS : Sig w) (hF : Fs Item.cells 5 w A l) (hlc : l.length ≤ c) (hl : l.length ≤ 1000000) :
    Calls Tryd.prog 18 #[.slice A l.length c, .agg #[.string ⟨key.toArray⟩, .int .i64 kind, .int .i64 i, .string ⟨s.toArray⟩, .int .i64 ver]] w (FsErr w (putK l ⟨key, kind, i, s, ver⟩)) := by
  have HSg := hide (hS.below (gr1 w (.cells #[.string ⟨key.toArray⟩, .int .i64 kind, .int .i64 i, .string ⟨s.toArray⟩, .int .i64 ver] 32)))
  have HFs := hide (hF.below (gr1 w (.cells #[.string ⟨key.toArray⟩, .int .i64 kind, .int .i64 i, .string ⟨s.toArray⟩, .int .i64 ver] 32)))
  clear hS hF
  cases hlf : leafB l with
  | false =>
    have HR := hide (show putK l ⟨key, kind, i, s, ver⟩ = ([], 1) from by unfold putK; rw [hlf]; rfl)
    go_enter Tryd.func18, Tryd.ntmps18
    go_wp2_with (go_at_call 40; refine (leaf_is_any A l c _ HSg.out HFs.out (by omega)).mono ?_; rintro e w1 ⟨rfl, hb⟩; obtain ⟨hc, hf⟩ := bcell hb; have hz := bz hb)
    go_ret2
    rw [HR.out]
    exact ⟨_, _, rfl, World.ownsRow_nil _ _ _ _, below_trans (gr1 _ _) hb⟩
  | true =>
    have hsrt := hide ((leafB_iff l).1 hlf).2.2
    cases hi : itemB ⟨key, kind, i, s, ver⟩ with
    | false =>
      have HR := hide (show putK l ⟨key, kind, i, s, ver⟩ = ([], 1) from by unfold putK; rw [hlf, hi]; rfl)
      go_enter Tryd.func18, Tryd.ntmps18
      go_wp2_with (first
        | (go_at_call 40; refine (leaf_is_any A l c _ HSg.out HFs.out (by omega)).mono ?_; rintro e w1 ⟨rfl, hb⟩; obtain ⟨hc, hf⟩ := bcell hb; have hz := bz hb)
        | (go_at_call 35; refine (may_any key kind i s ver _ (HSg.out.below hb)).mono ?_; rintro e w2 ⟨rfl, hb2⟩; obtain ⟨hc2, hf2⟩ := bcell hb2))
      go_ret2
      rw [HR.out]
      exact ⟨_, _, rfl, World.ownsRow_nil _ _ _ _, below_trans (below_trans (gr1 _ _) hb) hb2⟩
    | true =>
      cases ht : thereK l key with
      | true =>
        have hlt := there_lt ht
        have HR := hide (show putK l ⟨key, kind, i, s, ver⟩ = (l.take (posK l key) ++ [⟨key, kind, i, s, ver⟩] ++ l.drop (posK l key + 1), 0) from by
          unfold putK; rw [hlf, hi, ht, withK_sorted hsrt.out]; simp only [ht]; rfl)
        have HI := hide hi; clear hi
        go_enter Tryd.func18, Tryd.ntmps18
        go_wp2_with (first
          | (go_at_call 40; refine (leaf_is_any A l c _ HSg.out HFs.out (by omega)).mono ?_; rintro e w1 ⟨rfl, hb⟩; obtain ⟨hc, hf⟩ := bcell hb; have hz := bz hb)
          | (go_at_call 35; refine (may_any key kind i s ver _ (HSg.out.below hb)).mono ?_; rw [HI.out]; rintro e w2 ⟨rfl, hb2⟩; obtain ⟨hc2, hf2⟩ := bcell hb2; have hz2 : w.heap.size < w2.heap.size := Nat.lt_of_lt_of_le hz hb2.size)
          | (go_at_call 43; refine (find_any A l c key _ ((HFs.out.below hb).below hb2) hsrt.out (by omega)).mono ?_; rintro e w3 ⟨rfl, nd, rfl⟩)
          | (go_at_call 44; refine (with_any A l c _ _ (posK l key) (posK l key + 1) rfl (by omega) _ [⟨key, kind, i, s, ver⟩] 1 _ (Fs.alloc (((HFs.out.below hb).below hb2).drewN nd) _) (fs_new1 _ key kind i s ver _ _ rfl) (by omega) (by omega) hlc hl (by simp)).mono ?_; rintro e w4 ⟨A4, c4, rfl, hown4, hb4⟩))
        go_ret2
        rw [HR.out]
        have hB : Below w.heap.size w ((w2.drewN nd).alloc (.cells #[.string ⟨key.toArray⟩, .int .i64 kind, .int .i64 i, .string ⟨s.toArray⟩, .int .i64 ver] 32)) := (below_drewN (below_trans (below_trans (gr1 _ _) hb) hb2) nd).alloc (Nat.le_of_lt hz2) _
        exact ⟨A4, c4, by first | (simp; done) | (simp; omega), hown4.mono hB.size, hB.trans (hb4.mono hB.size)⟩
      | false =>
        have hple := posK_le l key
        have HI := hide hi; clear hi
        by_cases h64 : l.length = 64
        · have h64' : ((l.length : Int) == 64) = true := by rw [beq_iff_eq]; omega
          have HR := hide (show putK l ⟨key, kind, i, s, ver⟩ = ([], 5) from by unfold putK; rw [hlf, HI.out]; simp [ht, h64])
          have H64 := hide h64; clear h64
          go_enter Tryd.func18, Tryd.ntmps18
          go_wp2_with (first
            | (go_at_call 40; refine (leaf_is_any A l c _ HSg.out HFs.out (by omega)).mono ?_; rintro e w1 ⟨rfl, hb⟩; obtain ⟨hc, hf⟩ := bcell hb; have hz := bz hb)
            | (go_at_call 35; refine (may_any key kind i s ver _ (HSg.out.below hb)).mono ?_; rw [HI.out]; rintro e w2 ⟨rfl, hb2⟩; obtain ⟨hc2, hf2⟩ := bcell hb2; have hz2 : w.heap.size < w2.heap.size := Nat.lt_of_lt_of_le hz hb2.size)
            | (go_at_call 43; refine (find_any A l c key _ ((HFs.out.below hb).below hb2) hsrt.out (by omega)).mono ?_; rintro e w3 ⟨rfl, nd, rfl⟩))
          go_ret2
          rw [HR.out]
          exact ⟨_, _, rfl, World.ownsRow_nil _ _ _ _, below_drewN (below_trans (below_trans (gr1 _ _) hb) hb2) nd⟩
        · have h64' : ((l.length : Int) == 64) = false := by rw [beq_eq_false_iff_ne]; omega
          have HR := hide (show putK l ⟨key, kind, i, s, ver⟩ = (l.take (posK l key) ++ [⟨key, kind, i, s, ver⟩] ++ l.drop (posK l key), 0) from by
            unfold putK; rw [hlf, HI.out, withK_sorted hsrt.out]; simp [ht, h64])
          clear h64
          go_enter Tryd.func18, Tryd.ntmps18
          go_wp2_with (first
            | (go_at_call 40; refine (leaf_is_any A l c _ HSg.out HFs.out (by omega)).mono ?_; rintro e w1 ⟨rfl, hb⟩; obtain ⟨hc, hf⟩ := bcell hb; have hz := bz hb)
            | (go_at_call 35; refine (may_any key kind i s ver _ (HSg.out.below hb)).mono ?_; rw [HI.out]; rintro e w2 ⟨rfl, hb2⟩; obtain ⟨hc2, hf2⟩ := bcell hb2; have hz2 : w.heap.size < w2.heap.size := Nat.lt_of_lt_of_le hz hb2.size)
            | (go_at_call 43; refine (find_any A l c key _ ((HFs.out.below hb).below hb2) hsrt.out (by omega)).mono ?_; rintro e w3 ⟨rfl, nd, rfl⟩)
            | (go_at_call 44; refine (with_any A l c _ _ (posK l key) (posK l key) rfl rfl _ [⟨key, kind, i, s, ver⟩] 1 _ (Fs.alloc (((HFs.out.below hb).below hb2).drewN nd) _) (fs_new1 _ key kind i s ver _ _ rfl) (by omega) (by omega) hlc hl (by simp)).mono ?_; rintro e w4 ⟨A4, c4, rfl, hown4, hb4⟩))
          go_ret2
          rw [HR.out]
          have hB : Below w.heap.size w ((w2.drewN nd).alloc (.cells #[.string ⟨key.toArray⟩, .int .i64 kind, .int .i64 i, .string ⟨s.toArray⟩, .int .i64 ver] 32)) := (below_drewN (below_trans (below_trans (gr1 _ _) hb) hb2) nd).alloc (Nat.le_of_lt hz2) _
          exact ⟨A4, c4, by first | (simp; done) | (simp; omega), hown4.mono hB.size, hB.trans (hb4.mono hB.size)⟩

set_option maxHeartbeats 4000000 in
theorem del_any (A : Option Addr) (l : List Item) (c : Nat) (q : Bytes) (w : World) (hS : Sig w) (hF : Fs Item.cells 5 w A l) (hlc : l.length ≤ c) (hl : l.length ≤ 1000000) :
    Calls Tryd.prog 19 #[.slice A l.length c, .string ⟨q.toArray⟩] w (FsErr w (delK l q)) := by
  have HSg := hide hS
  have HFs := hide hF
  clear hS hF
  cases hlf : leafB l with
  | false =>
    have HR := hide (show delK l q = ([], 1) from by unfold delK; rw [hlf]; rfl)
    go_enter Tryd.func19, Tryd.ntmps19
    go_wp2_with (go_at_call 40; refine (leaf_is_any A l c _ HSg.out HFs.out (by omega)).mono ?_; rintro e w1 ⟨rfl, hb⟩)
    go_ret2
    rw [HR.out]
    exact ⟨_, _, rfl, World.ownsRow_nil _ _ _ _, hb⟩
  | true =>
    have hsrt := hide ((leafB_iff l).1 hlf).2.2
    cases ht : thereK l q with
    | false =>
      have HR := hide (show delK l q = ([], 6) from by unfold delK; rw [hlf, ht]; rfl)
      go_enter Tryd.func19, Tryd.ntmps19
      go_wp2_with (first
        | (go_at_call 40; refine (leaf_is_any A l c _ HSg.out HFs.out (by omega)).mono ?_; rintro e w1 ⟨rfl, hb⟩)
        | (go_at_call 43; refine (find_any A l c q _ (HFs.out.below hb) hsrt.out (by omega)).mono ?_; rintro e w3 ⟨rfl, nd, rfl⟩))
      go_ret2
      rw [HR.out]
      exact ⟨_, _, rfl, World.ownsRow_nil _ _ _ _, below_drewN hb nd⟩
    | true =>
      have hlt := there_lt ht
      have HR := hide (show delK l q = (l.take (posK l q) ++ [] ++ l.drop (posK l q + 1), 0) from by
        unfold delK; rw [hlf, ht, withoutK_sorted hsrt.out q ht, List.append_nil]; rfl)
      go_enter Tryd.func19, Tryd.ntmps19
      go_wp2_with (first
        | (go_at_call 40; refine (leaf_is_any A l c _ HSg.out HFs.out (by omega)).mono ?_; rintro e w1 ⟨rfl, hb⟩)
        | (go_at_call 43; refine (find_any A l c q _ (HFs.out.below hb) hsrt.out (by omega)).mono ?_; rintro e w3 ⟨rfl, nd, rfl⟩)
        | (go_at_call 44; refine (with_any A l c _ _ (posK l q) (posK l q + 1) rfl (by omega) none [] 0 _ ((HFs.out.below hb).drewN nd) (Fs.empty _ _) (by omega) (by omega) hlc hl (by simp)).mono ?_; rintro e w4 ⟨A4, c4, rfl, hown4, hb4⟩))
      go_ret2
      rw [HR.out]
      have hB := below_drewN hb nd
      exact ⟨A4, c4, by first | (simp; done) | (simp; omega), hown4.mono hB.size, hB.trans (hb4.mono hB.size)⟩
end Go.Proofs.YtagdjoabpkmomaaDoor
