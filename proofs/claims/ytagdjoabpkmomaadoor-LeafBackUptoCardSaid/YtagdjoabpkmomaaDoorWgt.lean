/-
  The walks of leaf.Weight, bytes, Chunks and of the reference's Bytes.
-/
import Derived.Test.YtagdjoabpkmomaaDoorFind
import Derived.Deep.RegionHeld3
import Derived.Deep.DrawnRows
namespace Go.Proofs.YtagdjoabpkmomaaDoor
open Go.RowKit
set_option maxRecDepth 100000
set_option linter.unusedSimpArgs false
set_option linter.unusedVariables false
attribute [local go_sem ↓] Go.wp_at_zero Go.wp_at_succ

theorem below_of_drew {W w2 : World} (h : Below W.drew.heap.size W.drew w2) : Below W.heap.size W w2 := ⟨h.os, h.tape, h.output, h.size, h.block⟩
theorem gr1d (w : World) (o : Obj) : Below w.heap.size w (w.alloc o).drew := below_drewN (gr1 w o) 1
theorem weight_take (l : List Item) (k : Nat) (h : k < l.length) : weight (l.take (k + 1)) = weight (l.take k) + (l[k].key.length + (encV l[k].kind l[k].i l[k].s).length) := by
  unfold weight; rw [map_snoc _ l k h, List.sum_append]; simp
theorem encV_len {kind i : Int} {s : Bytes} (h0 : -9223372036854775808 ≤ i) (h1 : i < 9223372036854775808) (hv : valB kind i s = true) : (encV kind i s).length ≤ 100 := by
  rcases valB_cases hv with ⟨rfl, rfl, rfl⟩ | ⟨rfl, hi, rfl⟩ | ⟨rfl, rfl⟩ | ⟨rfl, rfl, hs⟩
  · decide
  · simp [encV]
  · have := put_len (zig i) (zig_lt i h0 h1)
    simp [encV]; omega
  · have := put_len s.length (by omega)
    simp [encV]; omega
theorem keyB_len {k : Bytes} (h : keyB k = true) : k.length ≤ 24 := by
  simp [keyB, patB] at h; exact h.2.1
theorem itemB_parts {key : Bytes} {kind i : Int} {s : Bytes} {ver : Int} (h : itemB ⟨key, kind, i, s, ver⟩ = true) : keyB key = true ∧ valB kind i s = true ∧ kind ≠ 0 ∧ 0 ≤ ver ∧ ver ≤ 2147483647 := by
  rw [itemB_def] at h
  simp only [Bool.and_eq_true, bne_iff_ne, ne_eq, decide_eq_true_eq] at h
  exact ⟨h.1.1.1.1, h.1.1.1.2, h.1.1.2, h.1.2, h.2⟩

def weightP (l : List Item) : Nat := if leafB l then weight l else 0

set_option maxHeartbeats 4000000 in
theorem weight_any (A : Option Addr) (l : List Item) (c : Nat) (w : World) (hS : Sig w) (hF : Fs Item.cells 5 w A l) (hnum : ∀ x ∈ l, NumOk x) (hl : l.length ≤ 1000000) :
    Calls Tryd.prog 13 #[.slice A l.length c] w fun e w' => e = .returned (.int .i64 (weightP l)) ∧ Below w.heap.size w w' := by
  cases hlf : leafB l with
  | false =>
    have HR := hide (show weightP l = 0 from by unfold weightP; rw [hlf]; rfl)
    go_enter Tryd.func13, Tryd.ntmps13
    go_wp2_with (go_at_call 40; refine (leaf_is_any A l c _ hS hF (by omega)).mono ?_; rintro e w1 ⟨rfl, hb⟩)
    go_ret
    rw [HR.out]; exact ⟨rfl, hb⟩
  | true =>
    have HLF := hide ((leafB_iff l).1 hlf)
    have HR := hide (show weightP l = weight l from by unfold weightP; rw [if_pos hlf])
    have HNm := hide hnum
    have HS := hide hS
    clear hnum hS
    go_enter Tryd.func13, Tryd.ntmps13
    go_wp2_with (go_at_call 40; refine (leaf_is_any A l c _ HS.out hF (by omega)).mono ?_; rintro e w1 ⟨rfl, hb⟩)
    have HB := hide hb; clear hb
    go_loopw [3, 11] (fun n i wr => ∃ k : Nat, k ≤ l.length ∧ i = .int .i64 k ∧ n = .int .i64 (weight (l.take k)) ∧ weight (l.take k) ≤ k * 200 ∧ Below w.heap.size w wr) (fun _ i _ => l.length - (intOf i).toNat)
    case atStart => exact ⟨0, Nat.zero_le _, rfl, rfl, by simp [weight], HB.out⟩
    case round =>
      obtain ⟨k, hk, rfl, rfl, hwt, hbel⟩ := hrel
      by_cases hlt : k < l.length
      · have hlt' : (k : Int) < l.length := by omega
        obtain ⟨b, off, rfl, hbl, hcell⟩ := hF.cell (fun _ => rfl) (by omega)
        obtain ⟨c0, c1, c2, c3, c4⟩ := five hcell hbel hbl hlt
        have HW := hide (weight_take l k hlt)
        have hn := HNm.out l[k] (List.getElem_mem hlt)
        have hi := HLF.out.2.1 l[k] (List.getElem_mem hlt)
        generalize weight (l.take k) = W at hwt HW ⊢
        generalize l[k] = x at c0 c1 c2 c3 c4 HW hn hi
        obtain ⟨key, kind, i, s, ver⟩ := x
        obtain ⟨hn0, hn1⟩ := hn
        obtain ⟨hk1, hv, -, -, -⟩ := itemB_parts hi
        have hkl := keyB_len hk1
        have hel := encV_len hn0 hn1 hv
        have hce := fun w => (encP_yes hv) ▸ enc_any kind i s hn0 hn1 w
        have HV := hide hv
        generalize encV kind i s = E at HW hel hce
        have HCE := hide hce
        clear hcell hk1 hi hv hce
        go_wp2_with fail
        go_region_held3 (fun w' => w'.cell? ⟨wr.heap.size, 0, none⟩ = some (.string ⟨key.toArray⟩) ∧ w'.cell? ⟨wr.heap.size, 1, none⟩ = some (.int .i64 kind) ∧ w'.cell? ⟨wr.heap.size, 2, none⟩ = some (.int .i64 i) ∧ w'.cell? ⟨wr.heap.size, 3, none⟩ = some (.string ⟨s.toArray⟩)) (go_keep)
          (first | (go_at_call 41; refine (HCE.out _).mono ?_; rintro e w2 ⟨A2, c2, rfl, hown2, hb2⟩; obtain ⟨hc, hf⟩ := bcell hb2))
        all_goals go_wp2_with fail
        clear hc hf
        refine ⟨⟨k + 1, by omega, by go_num, ?_, ?_, hbel.trans ((below_trans (gr1d _ _) hb2).mono hbel.size)⟩, by simp [intOf]; omega⟩
        · rw [HW.out]; refine int_eq ?_
          rw [IntWalk.i64_in ((key.length : Int) + E.length) (by omega), IntWalk.i64_in _ (by omega)]; omega
        · rw [HW.out, Nat.succ_mul]; omega
      · have hk' : k = l.length := by omega
        subst hk'
        rw [List.take_length]
        go_wp2_with fail
        go_ret
        rw [HR.out]; exact ⟨rfl, hbel⟩

/-- an item's bytes, as the program makes them -/
def bytesP (x : Item) : Bytes := (put x.key.length ++ x.key) ++ encV x.kind x.i x.s ++ put x.ver.toNat
set_option maxHeartbeats 4000000 in
theorem bytes_any (key : Bytes) (kind i : Int) (s : Bytes) (ver : Int) (w : World) (hi : itemB ⟨key, kind, i, s, ver⟩ = true) (hn0 : -9223372036854775808 ≤ i) (hn1 : i < 9223372036854775808) :
    Calls Tryd.prog 49 #[.agg #[.string ⟨key.toArray⟩, .int .i64 kind, .int .i64 i, .string ⟨s.toArray⟩, .int .i64 ver]] w (BytesOut 5 w (encI ⟨key, kind, i, s, ver⟩)) := by
  obtain ⟨hk1, hv, -, hv0, hv1⟩ := itemB_parts hi
  have hkl := keyB_len hk1
  have hel := encV_len hn0 hn1 hv
  have hce := fun w => (encP_yes hv) ▸ enc_any kind i s hn0 hn1 w
  have hpt := fun w => puttext_any key (by omega) w
  have hpl := put_len key.length (by omega)
  have hpk : (put key.length ++ key).length ≤ 40 := by simp; omega
  have hpv := put_len ver.toNat (by omega)
  have HR := hide (show encI ⟨key, kind, i, s, ver⟩ = (put key.length ++ key) ++ encV kind i s ++ put ver.toNat from rfl)
  generalize encV kind i s = E at hel hce HR
  generalize put key.length ++ key = K at hpt hpk HR
  have HCE := hide hce; have HPT := hide hpt
  clear hce hpt hi hk1 hv hpl
  go_enter Tryd.func49, Tryd.ntmps49
  go_wp2_with fail
  go_region_held3 (fun w' => w'.cell? ⟨w.heap.size, 0, none⟩ = some (.string ⟨key.toArray⟩) ∧ w'.cell? ⟨w.heap.size, 1, none⟩ = some (.int .i64 kind) ∧ w'.cell? ⟨w.heap.size, 2, none⟩ = some (.int .i64 i) ∧ w'.cell? ⟨w.heap.size, 3, none⟩ = some (.string ⟨s.toArray⟩)) (go_keep)
    (first
      | (go_at_call 41; refine (HCE.out _).mono ?_; rintro e w2 ⟨A2, c2, rfl, hown2, hb2⟩; obtain ⟨hc, hf⟩ := bcell hb2; have hz2 : w.heap.size < w2.heap.size := Nat.lt_of_lt_of_le (by first | (simp; done) | assumption) hb2.size; have hB2 : Below (w.alloc (.cells #[.string ⟨key.toArray⟩, .int .i64 kind, .int .i64 i, .string ⟨s.toArray⟩, .int .i64 ver] 32)).heap.size (w.alloc (.cells #[.string ⟨key.toArray⟩, .int .i64 kind, .int .i64 i, .string ⟨s.toArray⟩, .int .i64 ver] 32)) w2 := (by first | exact below_of_drew hb2 | exact hb2 | exact below_trans hB3 hb2))
      | (go_at_call 58; refine (HPT.out _).mono ?_; rintro e w3 ⟨A3, c3, rfl, hown3, hb3⟩; obtain ⟨hc3, hf3⟩ := bcell hb3; have hz3 : w.heap.size < w3.heap.size := Nat.lt_of_lt_of_le (by first | (simp; done) | assumption) hb3.size; have hB3 : Below (w.alloc (.cells #[.string ⟨key.toArray⟩, .int .i64 kind, .int .i64 i, .string ⟨s.toArray⟩, .int .i64 ver] 32)).heap.size (w.alloc (.cells #[.string ⟨key.toArray⟩, .int .i64 kind, .int .i64 i, .string ⟨s.toArray⟩, .int .i64 ver] 32)) w3 := (by first | exact below_of_drew hb3 | exact hb3 | exact below_trans hB2 hb3))
      | (refine step_appAny _ rfl (.tmp 6) (.tmp 9) _ (by rfl) (w.alloc (.cells #[.string ⟨key.toArray⟩, .int .i64 kind, .int .i64 i, .string ⟨s.toArray⟩, .int .i64 ver] 32)) (w.alloc (.cells #[.string ⟨key.toArray⟩, .int .i64 kind, .int .i64 i, .string ⟨s.toArray⟩, .int .i64 ver] 32)).heap.size 5 _ 1 1 Tryd.underlying58 info_u8 rfl (by omega) (by omega) _ _ _ (by rfl) ((own_below hown3 hb2).mono (by simp)) hB2 _ _ _ _ (by rfl) (Rd.of_own hown2) (cB_one _) (by omega) hB2.size ?_; intro A4 c4 w4 hown4 hb4; obtain ⟨hc4, hf4⟩ := bcell hb4)
      | (refine step_appAny _ rfl (.tmp 6) (.tmp 9) _ (by rfl) (w.alloc (.cells #[.string ⟨key.toArray⟩, .int .i64 kind, .int .i64 i, .string ⟨s.toArray⟩, .int .i64 ver] 32)) (w.alloc (.cells #[.string ⟨key.toArray⟩, .int .i64 kind, .int .i64 i, .string ⟨s.toArray⟩, .int .i64 ver] 32)).heap.size 5 _ 1 1 Tryd.underlying58 info_u8 rfl (by omega) (by omega) _ _ _ (by rfl) (hown3.mono hB2.size) hB3 _ _ _ _ (by rfl) ((Rd.of_own hown2).below hb3) (cB_one _) (by omega) hB3.size ?_; intro A4 c4 w4 hown4 hb4; obtain ⟨hc4, hf4⟩ := bcell hb4))
  all_goals go_wp2_with (first
    | (go_at_call 61; refine (put_any ver hv0 (by omega) _).mono ?_; rintro e w5 ⟨g5, c5, rfl, hown5, hb5⟩; have hown6 := own_below hown4 hb5; have hb6 := hb4.trans (hb5.mono hb4.size))
    | (at_builtin; refine wpList_appAny _ rfl (.tmp 11) (.tmp 15) _ rfl (w.alloc (.cells #[.string ⟨key.toArray⟩, .int .i64 kind, .int .i64 i, .string ⟨s.toArray⟩, .int .i64 ver] 32)) (w.alloc (.cells #[.string ⟨key.toArray⟩, .int .i64 kind, .int .i64 i, .string ⟨s.toArray⟩, .int .i64 ver] 32)).heap.size 5 _ 1 1 Tryd.underlying58 info_u8 rfl (by omega) (by omega) _ _ _ (by rfl) hown6 hb6 _ _ _ _ (by rfl) (Rd.of_own hown5) (cB_one _) (by omega) hb6.size ?_; intro A7 c7 w7 hown7 hb7))
  all_goals
    go_ret
    rw [HR.out]
    refine bytesOut_of (by simp; omega) ?_ (below_trans (gr1 _ _) hb7)
    rw [List.length_append, List.length_append, List.map_append, List.map_append]
    exact hown7.mono (by simp)
end Go.Proofs.YtagdjoabpkmomaaDoor
