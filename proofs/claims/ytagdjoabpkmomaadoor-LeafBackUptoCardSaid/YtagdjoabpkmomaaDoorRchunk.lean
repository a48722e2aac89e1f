/-
  The walks of the reference's Bytes and Chunks.
-/
import Derived.Test.YtagdjoabpkmomaaDoorChunk
import Derived.Test.YtagdjoabpkmomaaDoorLf1
import Derived.Laws.OwnMore
import Derived.Deep.RegionLaw
namespace Go.Proofs.YtagdjoabpkmomaaDoor
open Go.RowKit
set_option maxRecDepth 100000
set_option linter.unusedSimpArgs false
set_option linter.unusedVariables false
attribute [local go_sem ↓] Go.wp_at_zero Go.wp_at_succ

set_option maxHeartbeats 4000000 in
theorem rbytes_any (key : Bytes) (kind i : Int) (s : Bytes) (ver : Int) (w : World) (hi : itemB ⟨key, kind, i, s, ver⟩ = true) (hn0 : -9223372036854775808 ≤ i) (hn1 : i < 9223372036854775808) :
    Calls Tryd.prog 50 #[.agg #[.string ⟨key.toArray⟩, .int .i64 kind, .int .i64 i, .string ⟨s.toArray⟩, .int .i64 ver]] w (StrOut w (encI ⟨key, kind, i, s, ver⟩)) := by
  obtain ⟨hk1, hv, -, hv0, hv1⟩ := itemB_parts hi
  have hkl := keyB_len hk1
  have hel := encV_len hn0 hn1 hv
  have hpl := put_len key.length (by omega)
  have hpv := put_len ver.toNat (by omega)
  have HCE := hide (fun w => renc_any kind i s hn0 hn1 hv w)
  have HPT := hide (fun w => rtext_any key (by omega) w)
  have HPV := hide (fun w => rput_any ver hv0 (by omega) w)
  have hpk : (put key.length ++ key).length ≤ 40 := by simp; omega
  have HR := hide (show encI ⟨key, kind, i, s, ver⟩ = (put key.length ++ key) ++ encV kind i s ++ put ver.toNat from rfl)
  have hw : IntKind.u64.wrap ver = ver := IntWalk.u64_in _ (by omega)
  generalize encV kind i s = E at hel HCE HR
  generalize put key.length ++ key = K at hpk HPT HR
  generalize put ver.toNat = V at hpv HPV HR
  have hs4 : ¬ (9223372036854775807 < K.length + E.length) := by omega
  have hs5 : ¬ (9223372036854775807 < K.length + E.length + V.length) := by omega
  have hs7 : ∀ w, (binOp .add 9 (.string ⟨K.toArray⟩) (.string ⟨E.toArray⟩)).run Tryd.prog w = .ok (.string (⟨K.toArray⟩ ++ ⟨E.toArray⟩)) w := by
    intro w
    simp [go_sem, hs4]
  have hs8 : ∀ w, (binOp .add 9 (.string (⟨K.toArray⟩ ++ ⟨E.toArray⟩)) (.string ⟨V.toArray⟩)).run Tryd.prog w = .ok (.string (⟨K.toArray⟩ ++ ⟨E.toArray⟩ ++ ⟨V.toArray⟩)) w := by
    intro w
    simp [go_sem, hs5]
  clear hi hk1 hv hpl
  go_enter Tryd.func50, Tryd.ntmps50
  go_wp2_with fail
  go_region_held3 (fun w' => w'.cell? ⟨w.heap.size, 0, none⟩ = some (.string ⟨key.toArray⟩) ∧ w'.cell? ⟨w.heap.size, 1, none⟩ = some (.int .i64 kind) ∧ w'.cell? ⟨w.heap.size, 2, none⟩ = some (.int .i64 i) ∧ w'.cell? ⟨w.heap.size, 3, none⟩ = some (.string ⟨s.toArray⟩) ∧ w'.cell? ⟨w.heap.size, 4, none⟩ = some (.int .i64 ver)) (go_keep)
    (first
      | (go_at_call 37; refine (HPV.out _).mono ?_; rintro e w4 ⟨rfl, hb4⟩; obtain ⟨hc4, hf4⟩ := bcell hb4; have hz4 : w.heap.size < w4.heap.size := Nat.lt_of_lt_of_le (by first | (simp; done) | assumption) hb4.size)
      | (go_at_call 12; refine (HCE.out _).mono ?_; rintro e w3 ⟨rfl, hb3⟩; obtain ⟨hc3, hf3⟩ := bcell hb3; have hz3 : w.heap.size < w3.heap.size := Nat.lt_of_lt_of_le (by first | (simp; done) | assumption) hb3.size)
      | (go_at_call 39; refine (HPT.out _).mono ?_; rintro e w2 ⟨rfl, hb2⟩; obtain ⟨hc2, hf2⟩ := bcell hb2; have hz2 : w.heap.size < w2.heap.size := Nat.lt_of_lt_of_le (by first | (simp; done) | assumption) hb2.size))
  all_goals
    go_wp2_with fail
    go_ret
    rw [HR.out]
    refine ⟨rfl, ?_⟩
  exact below_trans (below_trans (below_trans (gr1 w _) (below_of_drew hb2)) hb3) hb4

/-- the chunk that is being made -/
def outC (D : List Bytes) (n : Nat) (g : List Item) (r : Nat) : List Bytes := if r = 0 then D else D ++ [grpK n g r]
theorem info_str : (Tryd.prog.info? 9).map (fun i => (i.zero, i.size, i.bytes)) = some (some (.string ⟨#[]⟩), 1, 16) := by kernel_rfl
theorem size_str : (Tryd.prog.info? 9).map (·.size) = some 1 := by kernel_rfl
def SsOut (w : World) (ch : List Bytes) (e : Ending) (w' : World) : Prop :=
  ∃ A cap, e = .returned (.slice A ch.length cap) ∧ w'.ownsRow w.heap.size 9 1 (.slice A ch.length cap) ch.length (ch.map cS) ∧ Below w.heap.size w w'

theorem set_last (D : List Bytes) (x y : Bytes) : (((D ++ [x]).map cS).set D.length (cS y)) = (D ++ [y]).map cS := by
  rw [List.map_append, List.map_append, List.set_append, if_neg (by simp)]
  simp
theorem get_last (D : List Bytes) (x : Bytes) : ((D ++ [x]).map cS)[D.length]? = some (cS x) := by
  rw [List.map_append, List.getElem?_append_right (by simp)]; simp

theorem own_new1 (wr : World) (n : Nat) (h : n < 256) : (wr.alloc (.cells #[.int .u8 (n : Int)] 5)).ownsRow wr.heap.size 5 1 (.slice (some ⟨wr.heap.size, 0, none⟩) ([UInt8.ofNat n] : Bytes).length 1) ([UInt8.ofNat n] : Bytes).length (([UInt8.ofNat n] : Bytes).map cB) := by
  rw [show ([UInt8.ofNat n] : Bytes).map cB = [Value.int .u8 (n : Int)] from by simp [cB_of n h]]
  exact own_new wr wr.heap.size 5 1 1 #[.int .u8 (n : Int)] (Nat.le_refl _) rfl (by simp [maxLen])

set_option maxHeartbeats 8000000 in
theorem rchunks_any (A : Option Addr) (l : List Item) (c : Nat) (w : World) (hF : Fs Item.cells 5 w A l) (hi : ∀ x ∈ l, itemB x = true ∧ NumOk x) (hl : l.length ≤ 100) :
    Calls Tryd.prog 30 #[.slice A l.length c] w (SsOut w (chunksL l)) := by
  have HF := hide hF; have HI := hide hi
  clear hF hi
  go_enter Tryd.func30, Tryd.ntmps30
  go_wp2_with fail
  go_loopw [3, 4] (fun o i wr => ∃ (K j r : Nat) (D : List Bytes) (n : Nat) (g : List Item) (Ao : Option Addr) (co : Nat) (out : List Bytes) (M : Nat), K = 8 * j + r ∧ i = .int .i64 K ∧ K ≤ l.length ∧ r < 8 ∧ g = (l.drop (8 * j)).take 8 ∧ n = g.length ∧ D ++ chunksL (l.drop (8 * j)) = chunksL l ∧ D.length = j ∧
    out = outC D n g r ∧ M = out.length ∧ o = .slice Ao M co ∧ wr.ownsRow w.heap.size 9 1 (.slice Ao M co) M (out.map cS) ∧ Below w.heap.size w wr) (fun _ i _ => l.length - (intOf i).toNat)
  case atStart => exact ⟨0, 0, 0, [], _, _, none, 0, [], 0, rfl, rfl, Nat.zero_le _, by omega, rfl, rfl, rfl, rfl, rfl, rfl, rfl, World.ownsRow_nil _ _ _ _, Below.refl _ _⟩
  case round =>
    obtain ⟨K, j, r, D, n, g, Ao, co, out, M, hK, rfl, hk, hr8, hg, hn, hch, hdj, hout, hM, rfl, hown, hbel⟩ := hrel
    have HO := hide hown; have HCH := hide hch
    clear hown hch
    have hgl : g.length = min 8 (l.length - 8 * j) := by rw [hg]; simp
    have hrn : r ≤ n := by omega
    by_cases hlt : K < l.length
    · have hlt' : (K : Int) < l.length := by omega
      have hrl : r < g.length := by omega
      have hgr : g[r] = l[K] := by
        subst hg hK; simp
      obtain ⟨b, off, rfl, hbl, hcell⟩ := HF.out.cell (fun _ => rfl) (by omega)
      obtain ⟨c0, c1, c2, c3, c4⟩ := five hcell hbel hbl hlt
      have hgi := HI.out l[K] (List.getElem_mem hlt)
      have HGI := hide (show ∀ x ∈ g, itemB x = true ∧ NumOk x from fun x hx => HI.out x (by rw [hg] at hx; exact List.mem_of_mem_drop (List.mem_of_mem_take hx)))
      have hel := encI_len hgi.1 hgi.2
      have hby := fun w => rbytes_any l[K].key l[K].kind l[K].i l[K].s l[K].ver w hgi.1 hgi.2.1 hgi.2.2
      have HKS := hide (grpK_succ n g r hrl)
      have hkl := grpK_len n g HGI.out r (by omega)
      rw [hgr] at HKS
      have hcell2 := hcell
      generalize hxx : l[K] = x at c0 c1 c2 c3 c4 hgi hel hby HKS
      have HX2 := hide hxx
      obtain ⟨key, kind, i, s, ver⟩ := x
      clear hxx
      have hby' : ∀ w, Calls Tryd.prog 50 #[.agg #[.string ⟨key.toArray⟩, .int .i64 kind, .int .i64 i, .string ⟨s.toArray⟩, .int .i64 ver]] w (StrOut w (encI ⟨key, kind, i, s, ver⟩)) := hby
      generalize encI ⟨key, kind, i, s, ver⟩ = E at hel hby' HKS
      have HBY := hide hby'
      clear hcell hgi hby hby' hgr
      have HEND : Hid (∃ (j' r' : Nat) (D' : List Bytes) (n' : Nat) (g' : List Item), K + 1 = 8 * j' + r' ∧ r' < 8 ∧ g' = (l.drop (8 * j')).take 8 ∧ n' = g'.length ∧ D' ++ chunksL (l.drop (8 * j')) = chunksL l ∧ D'.length = j' ∧ outC D' n' g' r' = D ++ [grpK n g (r + 1)]) := hide (by
        by_cases h7 : r + 1 = 8
        · refine ⟨j + 1, 0, D ++ [grpK n g (r + 1)], _, _, by omega, by omega, rfl, rfl, ?_, by simp [hdj], rfl⟩
          have hgB : grpK n g (r + 1) = grpB g := by rw [hn, show r + 1 = g.length from by omega, grpK_all]
          rw [hgB, List.append_assoc]
          rw [← HCH.out, chunksL_cons (l.drop (8 * j)) (by simp; omega), ← hg, List.drop_drop]
          rfl
        · exact ⟨j, r + 1, D, n, g, by omega, by omega, hg, hn, HCH.out, hdj, by simp [outC]⟩)
      have HG := hide hg; have HN := hide hn
      clear hg hn
      by_cases hr0 : r = 0
      · subst hr0
        have hmod : ((K : Int) % 8 == 0) = true := by rw [beq_iff_eq]; omega
        have hout2 : out = D := by rw [hout]; simp [outC]
        have hMD : M = D.length := by rw [hM, hout2]
        have hn8 : n ≤ 8 := by have := HN.out; omega
        have hnK : (n : Int) = min 8 ((l.length : Int) - K) := by have := HN.out; omega
        have hHS : grpK n g 0 = [UInt8.ofNat n] := by simp [grpK]
        have HKS2 := hide (show grpK n g 1 = [UInt8.ofNat n] ++ E from by have := HKS.out; rw [hHS] at this; exact this)
        have hM2 : M ≤ 14 := by omega
        have HMD := hide hMD
        have HKK := hide hK
        have hown0 : wr.ownsRow w.heap.size 9 1 (.slice Ao M co) M (D.map cS) := by rw [← hout2]; exact HO.out
        have HO2 := hide hown0
        have hconv : (_root_.Go.convert 58 9 (.slice (some ⟨wr.heap.size, 0, none⟩) 1 1)).run Tryd.prog (wr.alloc (.cells #[.int .u8 (n : Int)] 5)) = .ok (.string ⟨([UInt8.ofNat n] : Bytes).toArray⟩) (wr.alloc (.cells #[.int .u8 (n : Int)] 5)) := run_str (wr.alloc (.cells #[.int .u8 (n : Int)] 5)) (some ⟨wr.heap.size, 0, none⟩) 1 [UInt8.ofNat n] (Bs.of_own (own_new1 wr n (by omega)))
        have HC2 := hide hcell2
        clear hout hM hMD hK hdj hHS hown0 HO HKS hout2 c0 c1 c2 c3 c4 hcell2
        have HEN := hide hnK; clear hnK
        have hfin : ∀ (w4 : World) (g0 cap : Nat), w4.ownsRow w.heap.size 9 1 (.slice (some ⟨g0, 0, none⟩) (M + 1) cap) (M + 1) ((D ++ [[UInt8.ofNat n]]).map cS) → Below w.heap.size w w4 → True := fun _ _ _ _ _ => trivial
        go_upto_block 1 with (fail)
        go_cut [3] from 12 to 40 (fun o wx => ∃ g0 cap, o = .slice (some ⟨g0, 0, none⟩) (M + 1) cap ∧ wx.ownsRow w.heap.size 9 1 (.slice (some ⟨g0, 0, none⟩) (M + 1) cap) (M + 1) ((D ++ [grpK n g 1]).map cS) ∧ Below w.heap.size w wx)
        case first =>
          by_cases h8 : (8 : Int) < (l.length : Int) - K
          · have h8n : n = 8 := by have := HEN.out; omega
            subst h8n
            have hconv8 : (_root_.Go.convert 58 9 (.slice (some ⟨wr.heap.size, 0, none⟩) 1 1)).run Tryd.prog (wr.alloc (.cells #[.int .u8 8] 5)) = .ok (.string ⟨([UInt8.ofNat 8] : Bytes).toArray⟩) (wr.alloc (.cells #[.int .u8 8] 5)) := hconv
            clear hconv
            go_wp2_with (at_builtin; refine wpList_appE (wr.alloc (.cells #[.int .u8 8] 5)) rfl (.tmp 21) (.tmp 26) _ rfl w w.heap.size 9 9 _ 1 16 Tryd.underlying56 info_str rfl (by omega) (by omega) _ M _ #[cS [UInt8.ofNat 8]] (by rfl) (wr.heap.size + 1) (by simp) (by rfl) rfl (by intro u hu; simp at hu; subst hu; rfl) (HO2.out.alloc _) (hbel.alloc hbel.size _) (by have := hbel.size; simp; omega) (by omega) ?_; intro g0 cap w4 hown4 hb4; rw [show (D.map cS ++ (#[cS [UInt8.ofNat 8]] : Array Value).toList) = (D ++ [[UInt8.ofNat 8]]).map cS from by simp] at hown4)
            generalize hM1 : M + 1 = M1 at hown4 ⊢
            have hM1a : 1 ≤ M1 := by omega
            have hM1b : M1 ≤ 15 := by omega
            have HM1 := hide hM1
            obtain ⟨c0, c1, c2, c3, c4⟩ := five HC2.out hb4 hbl hlt
            rw [HX2.out] at c0 c1 c2 c3 c4
            simp only at c0 c1 c2 c3 c4
            obtain ⟨g1, cap1, hv, hg0, hg1⟩ := hown4.form (by omega)
            simp only [Value.slice.injEq, Option.some.injEq, Addr.mk.injEq, true_and, and_true] at hv
            obtain ⟨rfl, rfl⟩ := hv
            have hrow : w4.cell? ⟨g0, M1 - 1, none⟩ = some (.string ⟨([UInt8.ofNat 8] : Bytes).toArray⟩) := by
              have := hown4.cellAt (M1 - 1) (by omega)
              rw [this, show M1 - 1 = M from by omega]
              have hg := get_last D [UInt8.ofNat 8]
              rw [← HMD.out] at hg; exact hg
            have hfro : w4.frozen? ⟨g0, M1 - 1, none⟩ = false := hown4.frozenAt _
            have HO4 := hide hown4
            clear hown4
            have kix := fun w => run_elemAddr Tryd.underlying56 size_str g0 0 M1 cap (M1 - 1) (by omega) ((M1 : Int) - 1) (by omega) w
            simp only [Nat.zero_add, Nat.mul_one] at kix
            have kiy := fun w => run_elemAddr Tryd.underlying22 size_item b off l.length c K hlt (K : Int) rfl w
            have ka : IntKind.i64.wrap ((M1 : Int) - 1) = (M1 : Int) - 1 := IntWalk.i64_in _ (by omega)
            clear hM1
            go_region_with
              (first
                | (go_at_call 50; refine (HBY.out _).mono ?_; rintro e w2 ⟨rfl, hb2⟩; obtain ⟨hc2, hf2⟩ := bcell hb2; have hq1 : w2.cell? ⟨g0, M1 - 1, none⟩ = some (.string ⟨([UInt8.ofNat 8] : Bytes).toArray⟩) := by {rw [hc2 _ _ (by simpa using hg1)]; simpa using hrow}; have hq2 : w2.frozen? ⟨g0, M1 - 1, none⟩ = false := by {rw [hf2 _ _ (by simpa using hg1)]; simpa using hfro}))
            all_goals
              have hb3 := below_of_drew hb2
              have hown3 := ((own_below HO4.out hb3).stored (M1 - 1) (cS ([UInt8.ofNat 8] ++ E))).1
              rw [show M1 - 1 = D.length from by have := HMD.out; have := HM1.out; omega, set_last D _ ([UInt8.ofNat 8] ++ E)] at hown3
              rw [show M1 - 1 = D.length from by have := HMD.out; have := HM1.out; omega]
              go_wp2_with fail
              go_meet
              rw [HM1.out]
              exact ⟨g0, cap, rfl, by rw [HKS2.out]; exact hown3, (hb4.trans (hb3.mono hb4.size)).setCell hg0 _⟩
          · have h8n : (l.length : Int) - K = n := by have := HEN.out; omega
            have h8' : ¬ (8 : Int) < (n : Int) := by omega
            have h8u : IntKind.u8.wrap (n : Int) = n := IntWalk.u8_in _ (by omega)
            clear h8
            go_wp2_with (at_builtin; refine wpList_appE (wr.alloc (.cells #[.int .u8 (n : Int)] 5)) rfl (.tmp 21) (.tmp 26) _ rfl w w.heap.size 9 9 _ 1 16 Tryd.underlying56 info_str rfl (by omega) (by omega) _ M _ #[cS [UInt8.ofNat n]] (by rfl) (wr.heap.size + 1) (by simp) (by rfl) rfl (by intro u hu; simp at hu; subst hu; rfl) (HO2.out.alloc _) (hbel.alloc hbel.size _) (by have := hbel.size; simp; omega) (by omega) ?_; intro g0 cap w4 hown4 hb4; rw [show (D.map cS ++ (#[cS [UInt8.ofNat n]] : Array Value).toList) = (D ++ [[UInt8.ofNat n]]).map cS from by simp] at hown4)
            generalize hM1 : M + 1 = M1 at hown4 ⊢
            have hM1a : 1 ≤ M1 := by omega
            have hM1b : M1 ≤ 15 := by omega
            have HM1 := hide hM1
            obtain ⟨c0, c1, c2, c3, c4⟩ := five HC2.out hb4 hbl hlt
            rw [HX2.out] at c0 c1 c2 c3 c4
            simp only at c0 c1 c2 c3 c4
            obtain ⟨g1, cap1, hv, hg0, hg1⟩ := hown4.form (by omega)
            simp only [Value.slice.injEq, Option.some.injEq, Addr.mk.injEq, true_and, and_true] at hv
            obtain ⟨rfl, rfl⟩ := hv
            have hrow : w4.cell? ⟨g0, M1 - 1, none⟩ = some (.string ⟨([UInt8.ofNat n] : Bytes).toArray⟩) := by
              have := hown4.cellAt (M1 - 1) (by omega)
              rw [this, show M1 - 1 = M from by omega]
              have hg := get_last D [UInt8.ofNat n]
              rw [← HMD.out] at hg; exact hg
            have hfro : w4.frozen? ⟨g0, M1 - 1, none⟩ = false := hown4.frozenAt _
            have HO4 := hide hown4
            clear hown4
            have kix := fun w => run_elemAddr Tryd.underlying56 size_str g0 0 M1 cap (M1 - 1) (by omega) ((M1 : Int) - 1) (by omega) w
            simp only [Nat.zero_add, Nat.mul_one] at kix
            have kiy := fun w => run_elemAddr Tryd.underlying22 size_item b off l.length c K hlt (K : Int) rfl w
            have ka : IntKind.i64.wrap ((M1 : Int) - 1) = (M1 : Int) - 1 := IntWalk.i64_in _ (by omega)
            clear hM1
            go_region_with
              (first
                | (go_at_call 50; refine (HBY.out _).mono ?_; rintro e w2 ⟨rfl, hb2⟩; obtain ⟨hc2, hf2⟩ := bcell hb2; have hq1 : w2.cell? ⟨g0, M1 - 1, none⟩ = some (.string ⟨([UInt8.ofNat n] : Bytes).toArray⟩) := by {rw [hc2 _ _ (by simpa using hg1)]; simpa using hrow}; have hq2 : w2.frozen? ⟨g0, M1 - 1, none⟩ = false := by {rw [hf2 _ _ (by simpa using hg1)]; simpa using hfro}))
            all_goals
              have hb3 := below_of_drew hb2
              have hown3 := ((own_below HO4.out hb3).stored (M1 - 1) (cS ([UInt8.ofNat n] ++ E))).1
              rw [show M1 - 1 = D.length from by have := HMD.out; have := HM1.out; omega, set_last D _ ([UInt8.ofNat n] ++ E)] at hown3
              rw [show M1 - 1 = D.length from by have := HMD.out; have := HM1.out; omega]
              go_wp2_with fail
              go_meet
              rw [HM1.out]
              exact ⟨g0, cap, rfl, by rw [HKS2.out]; exact hown3, (hb4.trans (hb3.mono hb4.size)).setCell hg0 _⟩
        case rest =>
          obtain ⟨g0, cap, rfl, hown2, hbel2⟩ := hcut
          obtain ⟨j', r', D', n', g', e1, e2, e3, e4, e5, e6, e7⟩ := HEND.out
          have hM3 : M + 1 = (D ++ [grpK n g 1]).length := by have := HMD.out; simp; omega
          have H3 := hide (And.intro e1 (And.intro e2 (And.intro e3 (And.intro e4 (And.intro e5 (And.intro e6 (And.intro e7 hM3)))))))
          clear e1 e2 e3 e4 e5 e6 e7 hM3
          go_wp2_with fail
          obtain ⟨e1, e2, e3, e4, e5, e6, e7, hM3⟩ := H3.out
          exact ⟨⟨K + 1, j', r', D', n', g', some ⟨g0, 0, none⟩, cap, _, M + 1, e1, by go_num, by omega, e2, e3, e4, e5, e6, e7.symm, hM3, rfl, hown2, hbel2⟩, by simp [intOf]; omega⟩
      · have hout2 : out = D ++ [grpK n g r] := by rw [hout]; simp [outC, hr0]
        generalize grpK n g r = cur at hout2 HKS hkl
        have hmod : ((K : Int) % 8 == 0) = false := by rw [beq_eq_false_iff_ne]; omega
        have hMD : M = D.length + 1 := by rw [hM, hout2]; simp
        clear hout hM
        subst hout2
        obtain ⟨g0, co', hv, hg0, hg1⟩ := HO.out.form (by omega)
        simp only [Value.slice.injEq, true_and] at hv
        obtain ⟨rfl, rfl⟩ := hv
        have hrow : wr.cell? ⟨g0, M - 1, none⟩ = some (.string ⟨cur.toArray⟩) := by
          have := HO.out.cellAt (M - 1) (by omega)
          rw [this, show M - 1 = D.length from by omega]; exact get_last D cur
        have hfro : wr.frozen? ⟨g0, M - 1, none⟩ = false := HO.out.frozenAt _
        have hM1 : 1 ≤ M := by omega
        have hM2 : M ≤ 14 := by omega
        have HMD := hide hMD
        have HKK := hide hK
        clear hMD hK hdj
        have kix := fun w => run_elemAddr Tryd.underlying56 size_str g0 0 M co (M - 1) (by omega) ((M : Int) - 1) (by omega) w
        simp only [Nat.zero_add, Nat.mul_one] at kix
        have kiy := fun w => run_elemAddr Tryd.underlying22 size_item b off l.length c K hlt (K : Int) rfl w
        go_upto_block 1 with (fail)
        go_cut [3] from 12 to 40 (fun o wx => o = .slice (some ⟨g0, 0, none⟩) M co ∧ wx.ownsRow w.heap.size 9 1 (.slice (some ⟨g0, 0, none⟩) M co) M ((D ++ [grpK n g (r + 1)]).map cS) ∧ Below w.heap.size w wx)
        case first =>
          go_wp2_with fail
          have ka : IntKind.i64.wrap ((M : Int) - 1) = (M : Int) - 1 := IntWalk.i64_in _ (by omega)
          go_region_with
            (first
              | (go_at_call 50; refine (HBY.out _).mono ?_; rintro e w2 ⟨rfl, hb2⟩; obtain ⟨hc2, hf2⟩ := bcell hb2; have hq1 : w2.cell? ⟨g0, M - 1, none⟩ = some (.string ⟨cur.toArray⟩) := by {rw [hc2 _ _ (by simpa using hg1)]; simpa using hrow}; have hq2 : w2.frozen? ⟨g0, M - 1, none⟩ = false := by {rw [hf2 _ _ (by simpa using hg1)]; simpa using hfro}))
          all_goals
            have hb3 := below_of_drew hb2
            have hown3 := ((own_below HO.out hb3).stored (M - 1) (cS (cur ++ E))).1
            rw [show M - 1 = D.length from by have := HMD.out; omega, set_last D cur (cur ++ E)] at hown3
            rw [show M - 1 = D.length from by have := HMD.out; omega]
            go_wp2_with fail
            go_meet
            exact ⟨rfl, by rw [HKS.out]; exact hown3, (hbel.trans (hb3.mono hbel.size)).setCell hg0 _⟩
        case rest =>
          obtain ⟨rfl, hown2, hbel2⟩ := hcut
          obtain ⟨j', r', D', n', g', e1, e2, e3, e4, e5, e6, e7⟩ := HEND.out
          have hM3 : M = (D ++ [grpK n g (r + 1)]).length := by have := HMD.out; simp; omega
          have H3 := hide (And.intro e1 (And.intro e2 (And.intro e3 (And.intro e4 (And.intro e5 (And.intro e6 (And.intro e7 hM3)))))))
          clear e1 e2 e3 e4 e5 e6 e7 hM3
          go_wp2_with fail
          obtain ⟨e1, e2, e3, e4, e5, e6, e7, hM3⟩ := H3.out
          exact ⟨⟨K + 1, j', r', D', n', g', some ⟨g0, 0, none⟩, co, _, M, e1, by go_num, by omega, e2, e3, e4, e5, e6, e7.symm, hM3, rfl, hown2, hbel2⟩, by simp [intOf]; omega⟩
    · have hke : K = l.length := by omega
      have hlt' : ¬ (K : Int) < l.length := by omega
      have HD := hide (show chunksL l = out from by
        rw [hout]
        rw [← HCH.out]
        by_cases hr0 : r = 0
        · rw [List.drop_of_length_le (by omega), chunksL_nil, List.append_nil]; simp [outC, hr0]
        · rw [chunksL_cons (l.drop (8 * j)) (by simp; omega), ← hg, List.drop_drop, List.drop_of_length_le (by omega), chunksL_nil]
          simp only [outC, hr0, if_false]
          rw [show r = g.length from by omega, hn, grpK_all])
      have hM2 := hide hM
      clear hke hg hn hK hout hM
      go_wp2_with fail
      go_ret
      rw [HD.out]; exact ⟨Ao, co, congrArg (fun n => Ending.returned (.slice Ao n co)) hM2.out, hM2.out ▸ HO.out, hbel⟩
end Go.Proofs.YtagdjoabpkmomaaDoor
