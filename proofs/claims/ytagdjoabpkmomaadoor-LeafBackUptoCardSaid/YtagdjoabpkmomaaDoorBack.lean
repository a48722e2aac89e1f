/-
  A leaf is told by its chunks, and what chunks tell has just these: the plain law.
-/
import Derived.Test.YtagdjoabpkmomaaDoorRof
namespace Go.Proofs.YtagdjoabpkmomaaDoor
open Go.RowKit
set_option linter.unusedSimpArgs false
set_option linter.unusedVariables false

theorem cutText_put (k r : Bytes) (h : k.length ≤ 255) : CutText ((put k.length ++ k) ++ r) = (k, (put k.length ++ k).length, 0) := by
  have hc : cut (put k.length ++ k ++ r) = (k.length, (put k.length).length, 0) := by rw [List.append_assoc]; exact cut_put _ (by omega) _
  unfold CutText
  rw [hc]
  simp only [ne_eq, not_true_eq_false, if_false]
  rw [if_neg (by omega), if_neg (by simp <;> omega)]
  simp
theorem cutV_put {kind i : Int} {s : Bytes} (hv : valB kind i s = true) (hk : kind ≠ 0) (h0 : -9223372036854775808 ≤ i) (h1 : i < 9223372036854775808) (r : Bytes) :
    cutV (encV kind i s ++ r) = ⟨kind, i, s, (encV kind i s).length, 0⟩ := by
  rcases valB_cases hv with ⟨rfl, _⟩ | ⟨rfl, hi, rfl⟩ | ⟨rfl, rfl⟩ | ⟨rfl, rfl, hs⟩
  · exact absurd rfl hk
  · rcases hi with rfl | rfl <;> rfl
  · have hz := zig_lt i h0 h1
    have e : encV 2 i [] = 2 :: put (zig i) := by simp [encV]
    rw [e]
    simp only [List.cons_append, cutV]
    rw [cut_put _ hz]
    simp [zag_zig]
  · have e : encV 3 0 s = 3 :: (put s.length ++ s) := by simp [encV]
    rw [e]
    simp only [List.cons_append, cutV]
    rw [cutText_put s r (by omega)]
    simp
    omega
theorem cutI_put {x : Item} (hi : itemB x = true) (hn : NumOk x) (r : Bytes) : cutI (encI x ++ r) = ⟨x, (encI x).length, 0⟩ := by
  obtain ⟨key, kind, i, s, ver⟩ := x
  obtain ⟨hk1, hv, hk0, hv0, hv1⟩ := itemB_parts hi
  have hkl := keyB_len hk1
  have e : encI ⟨key, kind, i, s, ver⟩ ++ r = (put key.length ++ key) ++ (encV kind i s ++ (put ver.toNat ++ r)) := by simp [encI]
  have a := cutText_put key (encV kind i s ++ (put ver.toNat ++ r)) (by omega)
  have d1 : (encI ⟨key, kind, i, s, ver⟩ ++ r).drop (put key.length ++ key).length = encV kind i s ++ (put ver.toNat ++ r) := by rw [e]; exact List.drop_left' rfl
  have d2 : (encI ⟨key, kind, i, s, ver⟩ ++ r).drop ((put key.length ++ key).length + (encV kind i s).length) = put ver.toNat ++ r := by rw [← List.drop_drop, d1]; exact List.drop_left' rfl
  have v := cutV_put hv hk0 hn.1 hn.2 (put ver.toNat ++ r)
  have u := cut_put ver.toNat (by omega) r
  have hver : ((clampV ver.toNat : Nat) : Int) = ver := by unfold clampV; rw [if_neg (by omega)]; omega
  rw [← e] at a
  simp only [cutI, a, d1, v, d2, u]
  simp [hver, encI]
  omega

/-- the chunk's items, one behind the other -/
theorem stC_put {g : List Item} (hg : ∀ x ∈ g, itemB x = true ∧ NumOk x) (t : UInt8) (r : Bytes) : ∀ k, k ≤ g.length → stC id (t :: ((g.map encI).flatten ++ r)) k = (g.take k, 1 + ((g.take k).map encI).flatten.length, 0)
  | 0, _ => by simp [stC]
  | k + 1, h => by
    have ih := stC_put hg t r k (by omega)
    have hx := hg g[k] (List.getElem_mem (by omega))
    have hsplit : (g.map encI).flatten = ((g.take k).map encI).flatten ++ (encI g[k] ++ ((g.drop (k + 1)).map encI).flatten) := by
      have hg2 : g = g.take k ++ (g[k] :: g.drop (k + 1)) := by rw [← List.drop_eq_getElem_cons (show k < g.length by omega), List.take_append_drop]
      conv => lhs; rw [hg2]
      rw [List.map_append, List.flatten_append, List.map_cons, List.flatten_cons]
    have hd : (t :: ((g.map encI).flatten ++ r)).drop (1 + ((g.take k).map encI).flatten.length) = encI g[k] ++ (((g.drop (k + 1)).map encI).flatten ++ r) := by
      rw [Nat.add_comm, List.drop_succ_cons, hsplit, List.append_assoc, List.append_assoc]; exact List.drop_left' rfl
    have hc := cutI_put hx.1 hx.2 (((g.drop (k + 1)).map encI).flatten ++ r)
    rw [← hd] at hc
    have := stC_ok (g := id) (l := t :: ((g.map encI).flatten ++ r)) (k := k) (by rw [ih]) (by rw [ih]; simp only; rw [hc])
    rw [this, ih]
    simp only
    rw [hc]
    rw [List.take_succ_eq_append_getElem (show k < g.length by omega)]
    simp only [List.map_append, List.flatten_append, List.length_append, List.map_cons, List.map_nil, List.flatten_cons, List.flatten_nil, List.append_nil, id, Nat.add_assoc]
theorem cutL_put {g : List Item} (hg : ∀ x ∈ g, itemB x = true ∧ NumOk x) (hs : SortedK g) (h1 : 1 ≤ g.length) (h8 : g.length ≤ 8) : cutL (grpB g) = (g, 0) := by
  have ht : (UInt8.ofNat g.length).toNat = g.length := by simp; omega
  have hst := stC_put hg (UInt8.ofNat g.length) [] g.length (Nat.le_refl _)
  rw [List.append_nil, List.take_length] at hst
  show finL (UInt8.ofNat g.length :: (g.map encI).flatten) (stC id (UInt8.ofNat g.length :: (g.map encI).flatten) (UInt8.ofNat g.length).toNat) = _
  rw [ht, hst]
  have hr : Rising g := fun j h => by
    have := List.pairwise_iff_getElem.1 hs j (j + 1) (by omega) h (by omega)
    exact this
  exact (finL_end (fun x hx => (hg x hx).1) hr).2.2 (by omega) (by simp; omega)

theorem ofGo_put (n : Nat) : ∀ (f : Nat) (m out : List Item) (k : Nat), m.length ≤ f → (∀ x ∈ out ++ m, itemB x = true ∧ NumOk x) → SortedK (out ++ m) → (out ++ m).length ≤ 64 → n = k + (chunksL m).length →
    ofGo cutL n k (chunksL m) out (-1) = (out ++ m, 0, 0)
  | 0, m, out, k, hf, hi, hs, hl, hn => by
    have : m = [] := List.eq_nil_of_length_eq_zero (by omega)
    subst this
    rw [chunksL_nil]
    rw [List.append_nil] at hi hs hl ⊢
    exact ofGo_ok (by omega) (by
      have := (leafB_iff out).2 ⟨hl, fun x hx => (hi x hx).1, hs⟩
      unfold leafB at this
      simpa using this)
  | f + 1, m, out, k, hf, hi, hs, hl, hn => by
    by_cases hm : m.length = 0
    · exact ofGo_put n 0 m out k (by omega) hi hs hl hn
    · have hc := chunksL_cons m (by omega)
      rw [hc] at hn ⊢
      have hg : ∀ x ∈ m.take 8, itemB x = true ∧ NumOk x := fun x hx => hi x (List.mem_append_right _ (List.mem_of_mem_take hx))
      have hsm : SortedK m := (List.pairwise_append.1 hs).2.1
      have hcut := cutL_put hg (hsm.sublist (List.take_sublist 8 m)) (by simp; omega) (by simp; omega)
      have hL : (m.take 8).length < 8 → (chunksL (m.drop 8)).length = 0 := by
        intro h
        rw [List.drop_of_length_le (by simp at h; omega), chunksL_nil]; rfl
      unfold ofGo
      rw [hcut]
      simp only [ne_eq, not_true_eq_false, if_false]
      rw [if_neg (by rintro ⟨h1, h2, _⟩; have := hL h1; simp only [List.length_cons] at hn; omega)]
      have ih := ofGo_put n f (m.drop 8) (out ++ m.take 8) (k + 1) (by simp; omega) (by rw [List.append_assoc, List.take_append_drop]; exact hi) (by rw [List.append_assoc, List.take_append_drop]; exact hs) (by rw [List.append_assoc, List.take_append_drop]; exact hl) (by simp only [List.length_cons] at hn; omega)
      rw [List.append_assoc, List.take_append_drop] at ih
      exact ih
/-- a leaf is told by its chunks -/
theorem of_chunks {m : List Item} (hm : leafB m = true) (hn : ∀ x ∈ m, NumOk x) : ofP cutL (chunksL m) = (m, 0, 0) := by
  obtain ⟨hl, hi, hs⟩ := (leafB_iff m).1 hm
  have := ofGo_put (chunksL m).length m.length m [] 0 (Nat.le_refl _) (by simpa using fun x hx => ⟨hi x hx, hn x hx⟩) (by simpa using hs) (by simpa using hl) (by omega)
  simpa [ofP] using this

/-! the other way -/
theorem u8_of {t : UInt8} {n : Nat} (h : t.toNat = n) (hn : n < 256) : t = UInt8.ofNat n := by
  apply UInt8.toNat_inj.1
  rw [h]; simp; omega
theorem cutText_back {l : Bytes} (h : (CutText l).2.2 = 0) : l.take (CutText l).2.1 = put (CutText l).1.length ++ (CutText l).1 := by
  by_cases h0 : (cut l).2.2 ≠ 0
  · unfold CutText at h; rw [if_pos h0] at h; exact absurd h h0
  · by_cases h1 : 255 < (cut l).1
    · unfold CutText at h; rw [if_neg h0, if_pos h1] at h; simp at h
    · by_cases h2 : l.length < (cut l).2.1 + (cut l).1
      · unfold CutText at h; rw [if_neg h0, if_neg h1, if_pos h2] at h; simp at h
      · have e : CutText l = ((l.drop (cut l).2.1).take (cut l).1, (cut l).2.1 + (cut l).1, 0) := by unfold CutText; rw [if_neg h0, if_neg h1, if_neg h2]
        rw [e]
        simp only
        have hp := (put_cut l (by omega)).1
        have hl : ((l.drop (cut l).2.1).take (cut l).1).length = (cut l).1 := by rw [List.length_take, List.length_drop]; omega
        rw [hl, hp, List.take_add]
theorem cutV_back {l : Bytes} (h : (cutV l).e = 0) : l.take (cutV l).n = encV (cutV l).kind (cutV l).i (cutV l).s := by
  cases l with
  | nil => simp [cutV] at h
  | cons t r =>
    have hc := cut_lt r
    by_cases t0 : t.toNat = 0
    · have e : cutV (t :: r) = ⟨0, 0, [], 1, 0⟩ := by simp [cutV, t0]
      have ht := u8_of t0 (by omega)
      rw [e, ht]; rfl
    · by_cases t1 : t.toNat = 1
      · cases r with
        | nil => simp [cutV, t1] at h
        | cons b r =>
          by_cases hb : 1 < b.toNat
          · simp [cutV, t1, hb] at h
          · have e : cutV (t :: b :: r) = ⟨1, b.toNat, [], 2, 0⟩ := by simp [cutV, t1, hb]
            rw [e, u8_of t1 (by omega)]
            simp [encV]
      · by_cases t2 : t.toNat = 2
        · by_cases hr : (cut r).2.2 = 0
          · have e : cutV (t :: r) = ⟨2, zag (cut r).1, [], (cut r).2.1 + 1, 0⟩ := by simp [cutV, t2, hr]
            have hp := (put_cut r hr).1
            rw [e, u8_of t2 (by omega)]
            simp [encV, zig_zag _ hc, hp]
          · simp [cutV, t2, hr] at h
        · by_cases t3 : t.toNat = 3
          · by_cases hr : (CutText r).2.2 = 0
            · by_cases h64 : 64 < (CutText r).1.length
              · simp [cutV, t3, hr, h64] at h
              · have e : cutV (t :: r) = ⟨3, 0, (CutText r).1, (CutText r).2.1 + 1, 0⟩ := by simp [cutV, t3, hr, h64]
                have hp := cutText_back hr
                rw [e, u8_of t3 (by omega)]
                simp [encV, hp]
            · simp [cutV, t3, hr] at h
          · simp [cutV, t0, t1, t2, t3] at h
theorem cutI_back {l : Bytes} {x : Item} {n : Nat} (h : cutI l = ⟨x, n, 0⟩) (hi : itemB x = true) : l.take n = encI x := by
  by_cases ha : (CutText l).2.2 = 0
  · by_cases hv : (cutV (l.drop (CutText l).2.1)).e = 0
    · by_cases hu : (cut (l.drop ((CutText l).2.1 + (cutV (l.drop (CutText l).2.1)).n))).2.2 = 0
      · have e : cutI l = ⟨⟨(CutText l).1, (cutV (l.drop (CutText l).2.1)).kind, (cutV (l.drop (CutText l).2.1)).i, (cutV (l.drop (CutText l).2.1)).s, clampV (cut (l.drop ((CutText l).2.1 + (cutV (l.drop (CutText l).2.1)).n))).1⟩,
            (CutText l).2.1 + (cutV (l.drop (CutText l).2.1)).n + (cut (l.drop ((CutText l).2.1 + (cutV (l.drop (CutText l).2.1)).n))).2.1, 0⟩ := by simp [cutI, ha, hv, hu]
        rw [e] at h
        injection h with h1 h2 _
        have b1 := cutText_back ha
        have b2 := cutV_back hv
        have b3 := (put_cut _ hu).1
        rw [← h1] at hi
        obtain ⟨_, _, _, _, hver⟩ := itemB_parts hi
        have hcl : clampV (cut (l.drop ((CutText l).2.1 + (cutV (l.drop (CutText l).2.1)).n))).1 = (cut (l.drop ((CutText l).2.1 + (cutV (l.drop (CutText l).2.1)).n))).1 := by
          unfold clampV at hver ⊢
          split at hver
          · omega
          · rename_i hh; rw [if_neg hh]
        rw [← h1, ← h2, List.take_add, List.take_add, b1, b2, ← b3]
        simp only [encI, hcl, Int.toNat_natCast]
      · simp [cutI, ha, hv, hu] at h
    · simp [cutI, ha, hv] at h
  · simp [cutI, ha] at h
theorem stC_prev {g : Item → Item} {l : Bytes} {k : Nat} {s : List Item × Nat × Nat} (h : stC g l (k + 1) = s) (he : s.2.2 = 0) : (stC g l k).2.2 = 0 ∧ (cutI (l.drop (stC g l k).2.1)).e = 0 := by
  by_cases h0 : (stC g l k).2.2 = 0
  · refine ⟨h0, ?_⟩
    by_cases h1 : (cutI (l.drop (stC g l k).2.1)).e = 0
    · exact h1
    · have := stC_bad h0 h1
      rw [h] at this; omega
  · have := stC_stay h0 1
    rw [h] at this
    rw [← this] at h0; exact absurd he h0
theorem stC_back (t : UInt8) (r : Bytes) : ∀ k (m : List Item) (p : Nat), stC id (t :: r) k = (m, p, 0) → (∀ x ∈ m, itemB x = true) → (t :: r).take p = t :: (m.map encI).flatten
  | 0, m, p, h, _ => by
    simp only [stC, Prod.mk.injEq] at h
    obtain ⟨rfl, rfl, _⟩ := h
    rfl
  | k + 1, m, p, h, hi => by
    obtain ⟨h0, h1⟩ := stC_prev h rfl
    have hk := stC_ok h0 h1
    rw [h] at hk
    obtain ⟨m', p', e'⟩ : ∃ m' p', stC id (t :: r) k = (m', p', 0) := ⟨_, _, by rw [← h0]⟩
    rw [e'] at hk h1
    simp only [Prod.mk.injEq, and_true, id] at hk h1
    obtain ⟨rfl, rfl⟩ := hk
    have ih := stC_back t r k m' p' e' (fun x hx => hi x (List.mem_append_left _ hx))
    have hx := hi (cutI ((t :: r).drop p')).x (by simp)
    have hb := cutI_back (l := (t :: r).drop p') (x := (cutI ((t :: r).drop p')).x) (n := (cutI ((t :: r).drop p')).n) (by rw [← h1]) hx
    rw [List.take_add, ih, hb]
    simp
theorem finL_all {l : Bytes} {s : List Item × Nat × Nat} (h : (finL l s).2 = 0) : s.2.2 = 0 ∧ (∀ x ∈ s.1, itemB x = true) ∧ ¬ (s.1.length = 0 ∨ 8 < s.1.length) ∧ ¬ s.2.1 < l.length ∧ (finL l s).1 = s.1 := by
  by_cases h0 : s.2.2 ≠ 0
  · unfold finL at h; rw [if_pos h0] at h; exact absurd h h0
  · by_cases h1 : ∀ x ∈ s.1, itemB x = true
    · by_cases h2 : Rising s.1
      · obtain ⟨m, p, e⟩ := s
        simp only [Decidable.not_not] at h0
        subst h0
        obtain ⟨f1, f2, f3⟩ := finL_end (l := l) (p := p) h1 h2
        by_cases h3 : m.length = 0 ∨ 8 < m.length
        · rw [f1 h3] at h; simp at h
        · by_cases h4 : p < l.length
          · rw [f2 h3 h4] at h; simp at h
          · exact ⟨rfl, h1, h3, h4, by rw [f3 h3 h4]⟩
      · unfold finL at h; rw [if_neg h0, if_neg (by simpa using h1), if_pos h2] at h; simp at h
    · unfold finL at h; rw [if_neg h0, if_pos h1] at h; simp at h
theorem cutL_back {c : Bytes} {L : List Item} (h : cutL c = (L, 0)) : c = grpB L ∧ 1 ≤ L.length ∧ L.length ≤ 8 ∧ ∀ x ∈ L, itemB x = true := by
  cases c with
  | nil => simp [cutL] at h
  | cons t r =>
    have h' : finL (t :: r) (stC id (t :: r) t.toNat) = (L, 0) := h
    obtain ⟨h0, h1, h2, h3, h4⟩ := finL_all (l := t :: r) (s := stC id (t :: r) t.toNat) (by rw [h'])
    rw [h'] at h4
    simp only at h4
    obtain ⟨m, p, e⟩ : ∃ m p, stC id (t :: r) t.toNat = (m, p, 0) := ⟨_, _, by rw [← h0]⟩
    have hf := stC_full (g := id) (l := t :: r) t.toNat h0
    have hb := stC_back t r t.toNat m p e (by rw [e] at h1; exact h1)
    rw [e] at h1 h2 h3 h4 hf
    simp only at h1 h2 h3 h4 hf
    subst h4
    rw [List.take_of_length_le (by omega)] at hb
    refine ⟨?_, by omega, by omega, h1⟩
    rw [hb]; unfold grpB
    rw [hf, u8_of (t := t) rfl t.toNat_lt]; simp
theorem chunksL_one {L rest : List Item} (h1 : 1 ≤ L.length) (h8 : L.length = 8 ∨ rest = [] ∧ L.length ≤ 8) : chunksL (L ++ rest) = grpB L :: chunksL rest := by
  rw [chunksL_cons _ (by simp; omega)]
  rcases h8 with h | ⟨rfl, h⟩
  · rw [List.take_left' h, List.drop_left' h]
  · rw [List.append_nil, List.take_of_length_le h, List.drop_of_length_le h]
theorem ofGo_back (n : Nat) : ∀ (cs : List Bytes) (k : Nat) (out : List Item) (short : Int), n = k + cs.length → (ofGo cutL n k cs out short).2.1 = 0 →
    short < 0 ∧ ∃ rest, (ofGo cutL n k cs out short).1 = out ++ rest ∧ chunksL rest = cs ∧ (∀ x ∈ rest, itemB x = true) ∧ (chk (out ++ rest)).1 = 0
  | [], k, out, short, hn, h => by
    by_cases hs : 0 ≤ short
    · rw [ofGo_short hs] at h; simp at h
    · by_cases hc : (chk out).1 = 0
      · rw [ofGo_ok hs hc]
        exact ⟨by omega, [], by simp, rfl, by simp, by simpa using hc⟩
      · rw [ofGo_chk hs hc] at h; exact absurd h hc
  | c :: cs, k, out, short, hn, h => by
    unfold ofGo at h ⊢
    by_cases he : (cutL c).2 ≠ 0
    · rw [if_pos he] at h; exact absurd h he
    · rw [if_neg he] at h ⊢
      simp only [Decidable.not_not] at he
      obtain ⟨L, hL⟩ : ∃ L, cutL c = (L, 0) := ⟨(cutL c).1, by rw [← he]⟩
      rw [hL] at h ⊢
      simp only at h ⊢
      obtain ⟨hb, hl1, hl8, hit⟩ := cutL_back hL
      simp only [List.length_cons] at hn
      obtain ⟨hs, rest, e1, e2, e3, e4⟩ := ofGo_back n cs (k + 1) (out ++ L) _ (by omega) h
      have hsn : ¬ (L.length < 8 ∧ k + 1 < n ∧ short < 0) := by
        intro hc; rw [if_pos hc] at hs; omega
      rw [if_neg hsn] at hs
      refine ⟨hs, L ++ rest, by rw [e1, List.append_assoc], ?_, fun x hx => (List.mem_append.1 hx).elim (hit x) (e3 x), by rw [← List.append_assoc]; exact e4⟩
      rw [chunksL_one hl1 (by
        by_cases h8 : L.length = 8
        · exact .inl h8
        · right
          have : cs.length = 0 := by
            by_cases hk : k + 1 < n
            · exact absurd ⟨by omega, hk, hs⟩ hsn
            · omega
          have hcs : cs = [] := List.eq_nil_of_length_eq_zero this
          subst hcs
          refine ⟨?_, hl8⟩
          cases rest with
          | nil => rfl
          | cons x r => rw [chunksL_cons _ (by simp)] at e2; simp at e2), e2, ← hb]
/-- what chunks tell has just these -/
theorem chunks_of {cs : List Bytes} (h : (ofP cutL cs).2.1 = 0) : leafB (ofP cutL cs).1 = true ∧ chunksP (ofP cutL cs).1 = cs := by
  obtain ⟨_, rest, e1, e2, e3, e4⟩ := ofGo_back cs.length cs 0 [] (-1) (by omega) h
  have e1' : (ofP cutL cs).1 = rest := by unfold ofP; rw [e1]; rfl
  rw [e1']
  have hl : leafB rest = true := by unfold leafB; simpa using e4
  exact ⟨hl, by unfold chunksP; rw [if_pos hl, e2]⟩
theorem ofGo_nil (cutF : Bytes → List Item × Nat) (n : Nat) : ∀ (cs : List Bytes) (k : Nat) (out : List Item) (short : Int), (ofGo cutF n k cs out short).2.1 ≠ 0 → (ofGo cutF n k cs out short).1 = []
  | [], k, out, short, h => by
    by_cases hs : 0 ≤ short
    · rw [ofGo_short hs]
    · by_cases hc : (chk out).1 = 0
      · rw [ofGo_ok hs hc] at h; simp at h
      · rw [ofGo_chk hs hc]
  | c :: cs, k, out, short, h => by
    unfold ofGo at h ⊢
    by_cases he : (cutF c).2 ≠ 0
    · rw [if_pos he]
    · rw [if_neg he] at h ⊢
      exact ofGo_nil cutF n cs _ _ _ h
end Go.Proofs.YtagdjoabpkmomaaDoor
