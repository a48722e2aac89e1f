/-
  What Get gives behind a Put and behind a Delete.
-/
import Derived.Test.YtagdjoabpkmomaaDoorFind
namespace Go.Proofs.YtagdjoabpkmomaaDoor
open Go.RowKit
set_option maxRecDepth 100000

theorem key_uniq {l : List Item} (h : SortedK l) {y z : Item} (hy : y ∈ l) (hz : z ∈ l) (e : y.key = z.key) : y = z := by
  obtain ⟨i, hi, rfl⟩ := List.mem_iff_getElem.1 hy
  obtain ⟨j, hj, rfl⟩ := List.mem_iff_getElem.1 hz
  rcases Nat.lt_trichotomy i j with h1 | h1 | h1
  · have := sorted_lt h h1 hj; rw [e, less_irrefl] at this; cases this
  · subst h1; rfl
  · have := sorted_lt h h1 hi; rw [e, less_irrefl] at this; cases this
theorem getK_mem {l : List Item} (hlf : leafB l = true) (k : Bytes) (y : Item) : getK l k = some y ↔ y ∈ l ∧ y.key = k := by
  have hs := ((leafB_iff l).1 hlf).2.2
  constructor
  · intro h
    cases ht : thereK l k with
    | false => rw [getK_none ht] at h; cases h
    | true =>
      rw [getK_some hlf ht] at h
      obtain rfl := Option.some.inj h
      rw [there_at (there_lt ht)] at ht
      exact ⟨List.getElem_mem _, by simpa using ht⟩
  · rintro ⟨hy, rfl⟩
    have ht : thereK l y.key = true := by
      cases ht : thereK l y.key with
      | true => rfl
      | false =>
        have := atK_sorted hs y.key
        rw [ht, if_neg (by simp)] at this
        unfold atK at this
        rw [List.findIdx?_eq_none_iff] at this
        have := this y hy
        simp at this
    rw [getK_some hlf ht]
    congr 1
    refine key_uniq hs (List.getElem_mem _) hy ?_
    have h2 := ht
    rw [there_at (there_lt ht)] at h2
    simpa using h2
theorem mem_withK {l : List Item} {x y : Item} : y ∈ withK l x ↔ (y ∈ l ∧ less y.key x.key = true) ∨ y = x ∨ (y ∈ l ∧ less x.key y.key = true) := by
  simp [withK]
theorem withK_len {l : List Item} (h : SortedK l) (x : Item) : (withK l x).length = if thereK l x.key then l.length else l.length + 1 := by
  rw [withK_sorted h]
  have := posK_le l x.key
  cases ht : thereK l x.key with
  | false => simp; omega
  | true => have := there_lt ht; simp; omega
theorem withoutK_len {l : List Item} (h : SortedK l) (k : Bytes) (ht : thereK l k = true) : (withoutK l k).length + 1 = l.length := by
  rw [withoutK_sorted h k ht]
  have := there_lt ht
  simp; omega
theorem withK_leaf {l : List Item} {x : Item} (hlf : leafB l = true) (hx : itemB x = true) (hl : (withK l x).length ≤ 64) : leafB (withK l x) = true := by
  obtain ⟨_, hit, hs⟩ := (leafB_iff l).1 hlf
  refine (leafB_iff _).2 ⟨hl, ?_, ?_⟩
  · intro y hy
    rcases mem_withK.1 hy with ⟨h, _⟩ | rfl | ⟨h, _⟩
    · exact hit y h
    · exact hx
    · exact hit y h
  · unfold SortedK withK
    rw [List.pairwise_append, List.pairwise_append]
    refine ⟨⟨List.Pairwise.filter _ hs, List.pairwise_singleton _ _, ?_⟩, List.Pairwise.filter _ hs, ?_⟩
    · intro a ha b hb
      simp at ha hb
      subst hb; exact ha.2
    · intro a ha b hb
      simp at ha hb
      rcases ha with ha | rfl
      · exact less_trans _ _ _ ha.2 hb.2
      · exact hb.2
theorem withoutK_leaf {l : List Item} (k : Bytes) (hlf : leafB l = true) : leafB (withoutK l k) = true := by
  obtain ⟨hl, hit, hs⟩ := (leafB_iff l).1 hlf
  refine (leafB_iff _).2 ⟨Nat.le_trans (List.length_filter_le _ _) hl, fun x hx => hit x (List.mem_filter.1 hx).1, List.Pairwise.filter _ hs⟩
theorem get_ext {l r : List Item} {k : Bytes} (hl : leafB l = true) (hr : leafB r = true) (h : ∀ y, y.key = k → (y ∈ l ↔ y ∈ r)) : getK l k = getK r k := by
  apply Option.ext
  intro y
  rw [getK_mem hl, getK_mem hr]
  constructor
  · rintro ⟨h1, h2⟩; exact ⟨(h y h2).1 h1, h2⟩
  · rintro ⟨h1, h2⟩; exact ⟨(h y h2).2 h1, h2⟩
/-- what is known behind a Put that went well -/
theorem put_kept {l : List Item} {x : Item} (h : (putK l x).2 = 0) : (putK l x).1 = withK l x ∧ leafB l = true ∧ itemB x = true ∧ leafB (withK l x) = true ∧ (withK l x).length ≤ 64 ∧ getK (withK l x) x.key = some x ∧ ∀ k, k ≠ x.key → getK (withK l x) k = getK l k := by
  unfold putK at h ⊢
  cases hlf : leafB l with
  | false => rw [hlf] at h; simp at h
  | true =>
    cases hx : itemB x with
    | false => rw [hlf, hx] at h; simp at h
    | true =>
      rw [hlf, hx] at h
      have hl64 := ((leafB_iff l).1 hlf).1
      have hs := ((leafB_iff l).1 hlf).2.2
      cases hc : (!thereK l x.key && l.length == 64) with
      | true => rw [hc] at h; simp at h
      | false =>
        have hlen : (withK l x).length ≤ 64 := by
          rw [withK_len hs]
          cases ht : thereK l x.key with
          | true => simpa using hl64
          | false => rw [ht] at hc; simp at hc; simp; omega
        have hwl := withK_leaf hlf hx hlen
        refine ⟨by simp, rfl, rfl, hwl, hlen, (getK_mem hwl _ _).2 ⟨mem_withK.2 (.inr (.inl rfl)), rfl⟩, fun k hk => get_ext hwl hlf fun y hy => ?_⟩
        rw [mem_withK]
        constructor
        · rintro (⟨h, _⟩ | rfl | ⟨h, _⟩)
          · exact h
          · exact absurd hy.symm hk
          · exact h
        · intro hyl
          cases h1 : less y.key x.key with
          | true => exact .inl ⟨hyl, rfl⟩
          | false =>
            cases h2 : less x.key y.key with
            | true => exact .inr (.inr ⟨hyl, rfl⟩)
            | false => exact absurd ((less_tri _ _ h1 h2).symm.trans hy) (fun h => hk h.symm)
/-- what is known behind a Delete that went well -/
theorem del_kept {l : List Item} {q : Bytes} (h : (delK l q).2 = 0) : (delK l q).1 = withoutK l q ∧ leafB l = true ∧ leafB (withoutK l q) = true ∧ (withoutK l q).length + 1 = l.length ∧ getK (withoutK l q) q = none ∧ ∀ k, k ≠ q → getK (withoutK l q) k = getK l k := by
  unfold delK at h ⊢
  cases hlf : leafB l with
  | false => rw [hlf] at h; simp at h
  | true =>
    rw [hlf] at h
    have hs := ((leafB_iff l).1 hlf).2.2
    cases ht : thereK l q with
    | false => rw [ht] at h; simp at h
    | true =>
      have hwl := withoutK_leaf q hlf
      refine ⟨by simp, rfl, hwl, withoutK_len hs q ht, ?_, fun k hk => get_ext hwl hlf fun y hy => ?_⟩
      · cases hg : getK (withoutK l q) q with
        | none => rfl
        | some y =>
          obtain ⟨h1, h2⟩ := (getK_mem hwl _ _).1 hg
          have := (List.mem_filter.1 h1).2
          simp [h2] at this
      · unfold withoutK
        rw [List.mem_filter]
        constructor
        · exact fun h => h.1
        · intro h1; refine ⟨h1, ?_⟩; rw [hy]; simpa using hk
end Go.Proofs.YtagdjoabpkmomaaDoor
