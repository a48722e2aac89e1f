/-
  The walks of key.sign, formed, Is, Pattern, In and of the reference's sign, Pattern, Is, Ahead, In.
-/
import Derived.Test.YtagdjoabpkmomaaDoorRows
import Derived.Test.YtagdjoabpkmomaaDoorLspec
import Derived.WalkLawsBesides
import Derived.WalkSpells
import Derived.BigQuiet
import Derived.Deep.QuietTactic
namespace Go.Proofs.YtagdjoabpkmomaaDoor
open Go.RowKit
set_option maxRecDepth 100000
set_option linter.unusedSimpArgs false
set_option linter.unusedVariables false

/-- nothing but draws -/
def Drew (w w' : World) : Prop := ∃ n, w' = w.drewN n
theorem Drew.refl (w : World) : Drew w w := ⟨0, rfl⟩
theorem Drew.mk (w : World) (n : Nat) : Drew w (w.drewN n) := ⟨n, rfl⟩
theorem Drew.mk2 (w : World) (n m : Nat) : Drew w ((w.drewN n).drewN m) := ⟨n + m, World.drewN_drewN ..⟩
theorem Drew.mk3 (w : World) (n m k : Nat) : Drew w (((w.drewN n).drewN m).drewN k) := ⟨n + m + k, by simp [Nat.add_assoc]⟩
/-- a call that only draws, within a quiet region -/
theorem quiet_drew {P : Program} {f : FuncId} {args : Array Value} {w : World} {n : Nat} {v : Value} (h : Calls P f args (w.drewN n) fun e w' => e = .returned v ∧ Drew (w.drewN n) w') :
    Calls P f args (w.drewN n) fun e w'' => e = .returned v ∧ ∃ m, w'' = w.drewN m :=
  h.mono fun _ _ ⟨he, m, hm⟩ => ⟨he, n + m, by rw [hm, World.drewN_drewN]⟩
theorem quiet_drew_add {P : Program} {f : FuncId} {args : Array Value} {w : World} {a n : Nat} {v : Value} (h : Calls P f args (w.drewN (a + n)) fun e w' => e = .returned v ∧ Drew (w.drewN (a + n)) w') :
    Calls P f args (w.drewN (a + n)) fun e w'' => e = .returned v ∧ ∃ m, w'' = w.drewN (a + m) :=
  h.mono fun _ _ ⟨he, m, hm⟩ => ⟨he, n + m, by rw [hm, World.drewN_drewN, Nat.add_assoc]⟩
/-- the table of signs lies as it was laid -/
def Sig (w : World) : Prop := 0 < w.heap.size ∧ w.cell? ⟨0, 0, none⟩ = some (.int .u64 288195191779622912) ∧ w.cell? ⟨0, 1, none⟩ = some (.int .u64 576460745860972544)
theorem Sig.below {w w' : World} (h : Sig w) (hb : Below w.heap.size w w') : Sig w' :=
  ⟨Nat.lt_of_lt_of_le h.1 hb.size, (hb.cell (p := ⟨0, 0, none⟩) h.1).trans h.2.1, (hb.cell (p := ⟨0, 1, none⟩) h.1).trans h.2.2⟩

theorem sg_lo : ∀ c : Fin 64, (bits BinOp.and IntKind.u64 (288195191779622912 / 2 ^ (c.val % 64)) 1 == 1) = signB (UInt8.ofNat c.val) := by decide +kernel
theorem sg_hi : ∀ c : Fin 64, (bits BinOp.and IntKind.u64 (576460745860972544 / 2 ^ ((c.val + 64) % 64)) 1 == 1) = signB (UInt8.ofNat (c.val + 64)) := by decide +kernel
theorem sg_no : ∀ c : Fin 128, false = signB (UInt8.ofNat (c.val + 128)) := by decide +kernel
set_option maxHeartbeats 1000000 in
theorem sign_any (c : Nat) (hc : c < 256) (w : World) (hS : Sig w) :
    Calls Tryd.prog 75 #[.int .u8 (c : Int)] w fun e w' => e = .returned (.bool (signB (UInt8.ofNat c))) ∧ w = w' := by
  obtain ⟨_, h0, h1⟩ := hS
  by_cases h : c < 64
  · have hlt : (c : Int) < 128 := by omega
    have hd : (c : Int) / 64 = 0 := by omega
    go_enter Tryd.func75, Tryd.ntmps75
    go_wp2_with fail
    go_ret
    exact ⟨retb (sg_lo ⟨c, h⟩), rfl⟩
  · by_cases h' : c < 128
    · have hlt : (c : Int) < 128 := by omega
      have hd : (c : Int) / 64 = 1 := by omega
      have HG := hide (sg_hi ⟨c - 64, by omega⟩)
      go_enter Tryd.func75, Tryd.ntmps75
      go_wp2_with fail
      go_ret
      have hg := HG.out
      simp only [show c - 64 + 64 = c from by omega] at hg
      exact ⟨retb hg, rfl⟩
    · have hlt : ¬ (c : Int) < 128 := by omega
      have HG := hide (sg_no ⟨c - 128, by omega⟩)
      go_enter Tryd.func75, Tryd.ntmps75
      go_wp2_with fail
      go_ret
      have hg := HG.out
      simp only [show c - 128 + 128 = c from by omega] at hg
      exact ⟨retb hg, rfl⟩

theorem patB_len {l : Bytes} (h : ¬ l.length ≤ 24) : patB l = false := by simp [patB, h]
theorem patB_at {l : Bytes} {k : Nat} (hk : k < l.length) (h : signB l[k] = false) : patB l = false := by
  have : l.all signB = false := by
    rw [List.all_eq_false]; exact ⟨l[k], List.getElem_mem hk, by rw [h]; simp⟩
  simp [patB, this]
theorem all_take_succ {l : Bytes} {k : Nat} (hk : k < l.length) (h : (l.take k).all signB = true) (h1 : signB l[k] = true) : (l.take (k + 1)).all signB = true := by
  rw [List.take_succ_eq_append_getElem hk, List.all_append, h]; simp [h1]
theorem ofNat_toNat (c : UInt8) : UInt8.ofNat c.toNat = c := UInt8.ofNat_toNat

set_option maxHeartbeats 1000000 in
theorem formed_any (l : Bytes) (w : World) (hS : Sig w) :
    Calls Tryd.prog 67 #[.string ⟨l.toArray⟩] w fun e w' => e = .returned (.bool (patB l)) ∧ w = w' := by
  by_cases hn : l.length ≤ 24
  · have hn' : ¬ (24 : Int) < l.length := by omega
    go_enter Tryd.func67, Tryd.ntmps67
    go_wp2_with fail
    go_loop [9] (fun i => ∃ k : Nat, k ≤ l.length ∧ i = .int .i64 k ∧ (l.take k).all signB = true) (fun i => l.length - (intOf i).toNat)
    case atStart => exact ⟨0, Nat.zero_le _, rfl, by simp⟩
    case round =>
      obtain ⟨k, hk, rfl, hall⟩ := hrel
      have HA := hide hall; clear hall
      by_cases hlt : k < l.length
      · have hlt' : (k : Int) < l.length := by omega
        obtain ⟨d, hd⟩ : ∃ d : Nat, d = l[k].toNat := ⟨_, rfl⟩
        have hd1 : d < 256 := by rw [hd]; exact l[k].toNat_lt
        have hix := run_strIdx (P := Tryd.prog) Tryd.underlying9 l k hlt d hd (k : Int) rfl w
        have HD := hide hd; clear hd
        cases hs : signB (UInt8.ofNat d) with
        | true =>
          go_wp2_with (go_at_call 75; refine (sign_any d hd1 _ hS).mono ?_; rintro e w' ⟨rfl, rfl⟩)
          go_round
          case rel => exact ⟨k + 1, by omega, by go_num, all_take_succ hlt HA.out (by rw [HD.out, ofNat_toNat] at hs; exact hs)⟩
          case measure => simp [intOf]; omega
        | false =>
          have HF := hide (patB_at hlt (by rw [HD.out, ofNat_toNat] at hs; exact hs))
          go_wp2_with (go_at_call 75; refine (sign_any d hd1 _ hS).mono ?_; rintro e w' ⟨rfl, rfl⟩)
          go_ret
          rw [HF.out]; exact ⟨rfl, rfl⟩
      · have hk' : k = l.length := by omega
        subst hk'
        have HF := hide (show patB l = true from by have := HA.out; rw [List.take_length] at this; simp [patB, hn]; simpa using this)
        go_wp2_with fail
        go_ret
        rw [HF.out]; exact ⟨rfl, rfl⟩
  · have hn' : (24 : Int) < l.length := by omega
    have HF := hide (patB_len hn)
    go_enter Tryd.func67, Tryd.ntmps67
    go_wp2_with fail
    go_ret
    rw [HF.out]; exact ⟨rfl, rfl⟩
theorem keyis_any (l : Bytes) (w : World) (hS : Sig w) :
    Calls Tryd.prog 55 #[.string ⟨l.toArray⟩] w fun e w' => e = .returned (.bool (keyB l)) ∧ w = w' := by
  go_enter Tryd.func55, Tryd.ntmps55
  go_wp2_with (go_at_call 67; refine (formed_any l _ hS).mono ?_; rintro e w' ⟨rfl, rfl⟩)
  all_goals go_ret
  all_goals (refine ⟨retb ?_, rfl⟩; simp_all [keyB])
theorem keypat_any (l : Bytes) (w : World) (hS : Sig w) :
    Calls Tryd.prog 60 #[.string ⟨l.toArray⟩] w fun e w' => e = .returned (.bool (patB l)) ∧ w = w' := by
  go_enter Tryd.func60, Tryd.ntmps60
  go_wp2_with (go_at_call 67; refine (formed_any l _ hS).mono ?_; rintro e w' ⟨rfl, rfl⟩)
  go_ret
  exact ⟨rfl, rfl⟩
set_option maxHeartbeats 1000000 in
theorem keyin_any (k lo hi : Bytes) (w : World) (hS : Sig w) :
    Calls Tryd.prog 47 #[.string ⟨k.toArray⟩, .string ⟨lo.toArray⟩, .string ⟨hi.toArray⟩] w fun e w' => e = .returned (.bool (inK k lo hi)) ∧ w = w' := by
  go_enter Tryd.func47, Tryd.ntmps47
  go_wp2_with (first
    | (go_at_call 55; refine (keyis_any _ _ hS).mono ?_; rintro e w' ⟨rfl, rfl⟩)
    | (go_at_call 60; refine (keypat_any _ _ hS).mono ?_; rintro e w' ⟨rfl, rfl⟩))
  all_goals go_ret
  all_goals (refine ⟨retb ?_, rfl⟩; simp_all [inK, less])

theorem signB_int (c : Nat) (hc : c < 256) : signB (UInt8.ofNat c) = ((decide ((97 : Int) ≤ c) && decide ((c : Int) ≤ 122)) || (decide ((48 : Int) ≤ c) && decide ((c : Int) ≤ 57)) || (c : Int) == 45 || (c : Int) == 46 || (c : Int) == 47 || (c : Int) == 95) := by
  unfold signB
  rw [show (UInt8.ofNat c).toNat = c from by simp; omega, Bool.eq_iff_iff]
  simp only [Bool.or_eq_true, Bool.and_eq_true, decide_eq_true_eq, beq_iff_eq]
  omega
set_option maxHeartbeats 1000000 in
theorem rsign_any (c : Nat) (hc : c < 256) (w : World) :
    Calls Tryd.prog 69 #[.int .u8 (c : Int)] w fun e w' => e = .returned (.bool (signB (UInt8.ofNat c))) ∧ w = w' := by
  go_enter Tryd.func69, Tryd.ntmps69
  go_wp2_with fail
  all_goals go_ret
  all_goals (refine ⟨retb ?_, rfl⟩; rw [signB_int c hc]; first | (simp_all; done) | (rw [Bool.eq_iff_iff]; simp; omega))

set_option maxHeartbeats 1000000 in
theorem rpat_any (l : Bytes) (w : World) (hl : l.length ≤ maxLen) :
    Calls Tryd.prog 59 #[.string ⟨l.toArray⟩] w fun e w' => e = .returned (.bool (patB l)) ∧ w = w' := by
  unfold maxLen at hl
  go_enter Tryd.func59, Tryd.ntmps59
  go_wp2_with fail
  go_loop [3] (fun i => ∃ k : Nat, k ≤ l.length ∧ i = .int .i64 k ∧ (l.take k).all signB = true) (fun i => l.length - (intOf i).toNat)
  case atStart => exact ⟨0, Nat.zero_le _, rfl, by simp⟩
  case round =>
    obtain ⟨k, hk, rfl, hall⟩ := hrel
    have HA := hide hall; clear hall
    by_cases hlt : k < l.length
    · have hlt' : (k : Int) < l.length := by omega
      obtain ⟨d, hd⟩ : ∃ d : Nat, d = l[k].toNat := ⟨_, rfl⟩
      have hd1 : d < 256 := by rw [hd]; exact l[k].toNat_lt
      have hix := run_strIdx (P := Tryd.prog) Tryd.underlying9 l k hlt d hd (k : Int) rfl w
      have HD := hide hd; clear hd
      cases hs : signB (UInt8.ofNat d) with
      | true =>
        go_wp2_with (go_at_call 69; refine (rsign_any d hd1 _).mono ?_; rintro e w' ⟨rfl, rfl⟩)
        go_round
        case rel => exact ⟨k + 1, by omega, by go_num, all_take_succ hlt HA.out (by rw [HD.out, ofNat_toNat] at hs; exact hs)⟩
        case measure => simp [intOf]; omega
      | false =>
        have HF := hide (patB_at hlt (by rw [HD.out, ofNat_toNat] at hs; exact hs))
        go_wp2_with (go_at_call 69; refine (rsign_any d hd1 _).mono ?_; rintro e w' ⟨rfl, rfl⟩)
        go_ret
        rw [HF.out]; exact ⟨rfl, rfl⟩
    · have hk' : k = l.length := by omega
      subst hk'
      have HF := hide (show patB l = decide ((l.length : Int) ≤ 24) from by have := HA.out; rw [List.take_length] at this; simp only [patB, this, Bool.and_true]; rw [Bool.eq_iff_iff]; simp; omega)
      go_wp2_with fail
      go_ret
      rw [HF.out]; exact ⟨rfl, rfl⟩
theorem rkeyis_any (l : Bytes) (w : World) (hl : l.length ≤ maxLen) :
    Calls Tryd.prog 45 #[.string ⟨l.toArray⟩] w fun e w' => e = .returned (.bool (keyB l)) ∧ w = w' := by
  go_enter Tryd.func45, Tryd.ntmps45
  go_wp2_with (go_at_call 59; refine (rpat_any l _ hl).mono ?_; rintro e w' ⟨rfl, rfl⟩)
  all_goals go_ret
  all_goals (refine ⟨retb ?_, rfl⟩; first | (simp_all [keyB]; done) | (cases l <;> simp_all [keyB]))
theorem less_drop : ∀ (k : Nat) (a b : Bytes), a.take k = b.take k → k ≤ a.length → k ≤ b.length → less (a.drop k) (b.drop k) = less a b
  | 0, _, _, _, _, _ => rfl
  | k + 1, x :: a, y :: b, h, h1, h2 => by
    simp only [List.take_succ_cons, List.cons.injEq] at h
    obtain ⟨rfl, h⟩ := h
    rw [less_cons, List.drop_succ_cons, List.drop_succ_cons, less_drop k a b h (by simpa using h1) (by simpa using h2)]
    simp
theorem less_at {a b : Bytes} {k : Nat} (h : a.take k = b.take k) (h1 : k < a.length) (h2 : k < b.length) (hne : a[k] ≠ b[k]) : less a b = decide (a[k].toNat < b[k].toNat) := by
  rw [← less_drop k a b h (by omega) (by omega), List.drop_eq_getElem_cons h1, List.drop_eq_getElem_cons h2, less_cons]
  have : (a[k] == b[k]) = false := by simpa using hne
  rw [this, Bool.false_and, Bool.or_false]; rfl
theorem less_end {a b : Bytes} {k : Nat} (h : a.take k = b.take k) (h1 : k ≤ a.length) (h2 : k ≤ b.length) (hk : k = a.length ∨ k = b.length) : less a b = decide (a.length < b.length) := by
  rw [← less_drop k a b h h1 h2]
  rcases hk with rfl | rfl
  · rw [List.drop_length, nil_less]
    cases hd : List.drop a.length b with
    | nil => have := List.drop_eq_nil_iff.1 hd; rw [decide_eq_false (by omega)]; rfl
    | cons x r =>
      have : a.length < b.length := by
        have := congrArg List.length hd; simp at this; omega
      rw [decide_eq_true this]; rfl
  · rw [List.drop_length, less_nil, decide_eq_false (by omega)]
theorem take_succ_eq {a b : Bytes} {k : Nat} (h : a.take k = b.take k) (h1 : k < a.length) (h2 : k < b.length) (he : a[k] = b[k]) : a.take (k + 1) = b.take (k + 1) := by
  rw [List.take_succ_eq_append_getElem h1, List.take_succ_eq_append_getElem h2, h, he]
set_option maxHeartbeats 1000000 in
theorem rahead_any (a b : Bytes) (w : World) (ha : a.length ≤ maxLen) (hb : b.length ≤ maxLen) :
    Calls Tryd.prog 36 #[.string ⟨a.toArray⟩, .string ⟨b.toArray⟩] w fun e w' => e = .returned (.bool (less a b)) ∧ Drew w w' := by
  unfold maxLen at ha hb
  go_enter Tryd.func36, Tryd.ntmps36
  go_wp2_with fail
  go_loopw [5] (fun i wr => ∃ k n : Nat, k ≤ a.length ∧ k ≤ b.length ∧ i = .int .i64 k ∧ a.take k = b.take k ∧ wr = w.drewN n) (fun i _ => a.length - (intOf i).toNat)
  case atStart => exact ⟨0, 0, Nat.zero_le _, Nat.zero_le _, rfl, by simp, rfl⟩
  case round =>
    obtain ⟨k, n, hka, hkb, rfl, heq, rfl⟩ := hrel
    have HE := hide heq; clear heq
    by_cases hlt : k < a.length
    · have hlt' : (k : Int) < a.length := by omega
      by_cases hlb : k < b.length
      · have hlb' : (k : Int) < b.length := by omega
        obtain ⟨d, hd⟩ : ∃ d : Nat, d = a[k].toNat := ⟨_, rfl⟩
        obtain ⟨f, hf⟩ : ∃ f : Nat, f = b[k].toNat := ⟨_, rfl⟩
        have hia := fun w => run_strIdx (P := Tryd.prog) Tryd.underlying9 a k hlt d hd (k : Int) rfl w
        have hib := fun w => run_strIdx (P := Tryd.prog) Tryd.underlying9 b k hlb f hf (k : Int) rfl w
        have HD := hide hd; have HF := hide hf; clear hd hf
        by_cases he : d = f
        · subst he
          go_wp2_with fail
          go_quiet (fail)
          go_wp2_with fail
          go_roundw
          case rel => exact ⟨k + 1, n + nq, by omega, by omega, by go_num, take_succ_eq HE.out hlt hlb (UInt8.toNat_inj.1 (by rw [← HD.out, HF.out])), rfl⟩
          case measure => simp [intOf]; omega
        · have he' : ((d : Int) == (f : Int)) = false := by rw [beq_eq_false_iff_ne]; omega
          have he2 : ((d : Int) != (f : Int)) = true := by rw [bne_iff_ne]; omega
          have HR := hide (show less a b = decide (d < f) from by rw [less_at HE.out hlt hlb (fun e => he (by rw [HD.out, HF.out, e])), ← HD.out, ← HF.out])
          go_wp2_with fail
          go_quiet (fail)
          go_wp2_with fail
          go_quiet (fail)
          go_wp2_with fail
          go_ret
          rw [HR.out]; exact ⟨rfl, by first | exact Drew.mk _ _ | exact Drew.mk2 _ _ _ | exact Drew.mk3 _ _ _ _⟩
      · have hlb' : ¬ (k : Int) < b.length := by omega
        have HR := hide (show less a b = decide (a.length < b.length) from less_end HE.out hka hkb (by omega))
        go_wp2_with fail
        go_ret
        rw [HR.out]; exact ⟨rfl, by first | exact Drew.mk _ _ | exact Drew.mk2 _ _ _ | exact Drew.mk3 _ _ _ _⟩
    · have hlt' : ¬ (k : Int) < a.length := by omega
      have HR := hide (show less a b = decide (a.length < b.length) from less_end HE.out hka hkb (by omega))
      go_wp2_with fail
      go_ret
      rw [HR.out]; exact ⟨rfl, by first | exact Drew.mk _ _ | exact Drew.mk2 _ _ _ | exact Drew.mk3 _ _ _ _⟩
set_option maxHeartbeats 1000000 in
theorem rin_any (k lo hi : Bytes) (w : World) (h1 : k.length ≤ maxLen) (h2 : lo.length ≤ maxLen) (h3 : hi.length ≤ maxLen) :
    Calls Tryd.prog 48 #[.string ⟨k.toArray⟩, .string ⟨lo.toArray⟩, .string ⟨hi.toArray⟩] w fun e w' => e = .returned (.bool (inK k lo hi)) ∧ Drew w w' := by
  go_enter Tryd.func48, Tryd.ntmps48
  go_wp2_with (first
    | (go_at_call 45; refine (rkeyis_any _ _ (by assumption)).mono ?_; rintro e w' ⟨rfl, rfl⟩)
    | (go_at_call 59; refine (rpat_any _ _ (by assumption)).mono ?_; rintro e w' ⟨rfl, rfl⟩)
    | (go_at_call 36; refine (rahead_any _ _ _ (by assumption) (by assumption)).mono ?_; rintro e w' ⟨rfl, n, rfl⟩))
  all_goals go_ret
  all_goals (refine ⟨retb ?_, by first | exact Drew.refl _ | exact Drew.mk _ _ | exact Drew.mk2 _ _ _⟩; simp_all [inK])
end Go.Proofs.YtagdjoabpkmomaaDoor
