/-
  The walks of the law's one, short, few.
-/
import Derived.Test.YtagdjoabpkmomaaDoorEnc
namespace Go.Proofs.YtagdjoabpkmomaaDoor
open Go.RowKit
set_option maxRecDepth 100000
set_option linter.unusedSimpArgs false
set_option linter.unusedVariables false

def Item.one (x : Item) : Item := ⟨x.key.take 60, x.kind, x.i, x.s.take 200, x.ver⟩
def fewL (l : List Item) : List Item := (l.take 66).map Item.one

theorem short_any (s : Bytes) (w : World) (hm : s.length ≤ maxLen) :
    Calls Tryd.prog 16 #[.string ⟨s.toArray⟩] w fun e w' => e = .returned (.string ⟨(s.take 60).toArray⟩) ∧ w = w' := by
  unfold maxLen at hm
  by_cases h : 60 < s.length
  · have h' : (60 : Int) < s.length := by omega
    have hx := fun w => run_strCutH (P := Tryd.prog) Tryd.underlying9 s 60 (by omega) 60 rfl w
    go_enter Tryd.func16, Tryd.ntmps16
    go_wp2_with fail
    go_ret
    exact ⟨rfl, rfl⟩
  · have h' : ¬ (60 : Int) < s.length := by omega
    rw [List.take_of_length_le (by omega)]
    go_enter Tryd.func16, Tryd.ntmps16
    go_wp2_with fail
    go_ret
    exact ⟨rfl, rfl⟩

theorem gr2 (w : World) (o p : Obj) : Below w.heap.size w ((w.alloc o).alloc p) := (gr1 _ _).alloc (by simp) _
set_option maxHeartbeats 1000000 in
theorem one_any (key : Bytes) (kind i : Int) (s : Bytes) (ver : Int) (w : World) (hk : key.length ≤ maxLen) (hs : s.length ≤ maxLen) :
    Calls Tryd.prog 15 #[.agg #[.string ⟨key.toArray⟩, .int .i64 kind, .int .i64 i, .string ⟨s.toArray⟩, .int .i64 ver]] w fun e w' =>
      e = .returned (.agg #[.string ⟨(key.take 60).toArray⟩, .int .i64 kind, .int .i64 i, .string ⟨(s.take 200).toArray⟩, .int .i64 ver]) ∧ Below w.heap.size w w' := by
  unfold maxLen at hk hs
  by_cases h : 60 < key.length
  · have h' : (60 : Int) < key.length := by omega
    have hx := fun w => run_strCutH (P := Tryd.prog) Tryd.underlying9 key 60 (by omega) 60 rfl w
    by_cases g : 200 < s.length
    · have g' : (200 : Int) < s.length := by omega
      have hy := fun w => run_strCutH (P := Tryd.prog) Tryd.underlying9 s 200 (by omega) 200 rfl w
      go_enter Tryd.func15, Tryd.ntmps15
      go_wp2_with fail
      exact bodyPost_ret (v := .agg #[.string ⟨(key.take 60).toArray⟩, .int .i64 kind, .int .i64 i, .string ⟨(s.take 200).toArray⟩, .int .i64 ver]) (by simp [results, Tryd.results15, go_sem]) rfl ⟨rfl, gr2 _ _ _⟩
    · have g' : ¬ (200 : Int) < s.length := by omega
      rw [List.take_of_length_le (l := s) (by omega)]
      go_enter Tryd.func15, Tryd.ntmps15
      go_wp2_with fail
      exact bodyPost_ret (v := .agg #[.string ⟨(key.take 60).toArray⟩, .int .i64 kind, .int .i64 i, .string ⟨s.toArray⟩, .int .i64 ver]) (by simp [results, Tryd.results15, go_sem]) rfl ⟨rfl, gr2 _ _ _⟩
  · have h' : ¬ (60 : Int) < key.length := by omega
    rw [List.take_of_length_le (l := key) (by omega)]
    by_cases g : 200 < s.length
    · have g' : (200 : Int) < s.length := by omega
      have hy := fun w => run_strCutH (P := Tryd.prog) Tryd.underlying9 s 200 (by omega) 200 rfl w
      go_enter Tryd.func15, Tryd.ntmps15
      go_wp2_with fail
      exact bodyPost_ret (v := .agg #[.string ⟨key.toArray⟩, .int .i64 kind, .int .i64 i, .string ⟨(s.take 200).toArray⟩, .int .i64 ver]) (by simp [results, Tryd.results15, go_sem]) rfl ⟨rfl, gr2 _ _ _⟩
    · have g' : ¬ (200 : Int) < s.length := by omega
      rw [List.take_of_length_le (l := s) (by omega)]
      go_enter Tryd.func15, Tryd.ntmps15
      go_wp2_with fail
      exact bodyPost_ret (v := .agg #[.string ⟨key.toArray⟩, .int .i64 kind, .int .i64 i, .string ⟨s.toArray⟩, .int .i64 ver]) (by simp [results, Tryd.results15, go_sem]) rfl ⟨rfl, gr2 _ _ _⟩

theorem info_item : (Tryd.prog.info? 32).map (fun i => (i.zero, i.size, i.bytes)) = some (some (.agg #[.string ⟨#[]⟩, .int .i64 0, .int .i64 0, .string ⟨#[]⟩, .int .i64 0]), 5, 56) := by kernel_rfl
theorem one_cells (cs : List Value) (h : cs = cs) : True := trivial
theorem item_one (key : Bytes) (kind i : Int) (s : Bytes) (ver : Int) : ∀ u ∈ (#[Value.string ⟨key.toArray⟩, .int .i64 kind, .int .i64 i, .string ⟨s.toArray⟩, .int .i64 ver] : Array Value).toList, u.oneCell' = true := by
  intro u hu; simp at hu; rcases hu with rfl | rfl | rfl | rfl | rfl <;> rfl
theorem cells_snoc (l : List Item) (x : Item) : (l ++ [x]).flatMap Item.cells = l.flatMap Item.cells ++ x.cells := by simp
theorem map_snoc {α β : Type} (f : α → β) (l : List α) (k : Nat) (h : k < l.length) : (l.take (k + 1)).map f = (l.take k).map f ++ [f l[k]] := by
  rw [List.take_succ_eq_append_getElem h, List.map_append]; rfl

set_option maxHeartbeats 4000000 in
theorem few_any (A : Option Addr) (l : List Item) (c : Nat) (w : World) (hF : Fs Item.cells 5 w A l) (hlc : l.length ≤ c) (hcm : c ≤ maxLen) (hb : ∀ x ∈ l, x.key.length ≤ maxLen ∧ x.s.length ≤ maxLen) :
    Calls Tryd.prog 9 #[.slice A l.length c] w (FsOut Item.cells 5 32 w (fewL l)) := by
  unfold maxLen at hcm
  obtain ⟨m, hm⟩ : ∃ m, m = l.take 66 := ⟨_, rfl⟩
  have hfm : Fs Item.cells 5 w A m := by rw [hm]; exact hF.take (fun _ => rfl) 66
  have HB := hide (show ∀ x ∈ m, x.key.length ≤ maxLen ∧ x.s.length ≤ maxLen from fun x hx => hb x (List.mem_of_mem_take (hm ▸ hx)))
  have hml : m.length ≤ 66 := by rw [hm]; simp; omega
  have HR := hide (show fewL l = m.map Item.one from by rw [hm]; rfl)
  clear hb
  by_cases h : 66 < l.length
  all_goals
    first
    | have h' : (66 : Int) < l.length := by omega
      have hm2 : m.length = 66 := by rw [hm]; simp; omega
      have hx := fun w => run_cutH Tryd.underlying22 size_item A l.length c m.length (by omega) 66 (by omega) w
      clear hm hm2 hF
    | have h' : ¬ (66 : Int) < l.length := by omega
      obtain rfl : m = l := by rw [hm, List.take_of_length_le (by omega)]
      clear hm hF
    go_enter Tryd.func9, Tryd.ntmps9
    go_wp2_with fail
    go_loopw [3, 4] (fun o i wr => ∃ (k : Nat) (A' : Option Addr) (cap' : Nat), k ≤ m.length ∧ i = .int .i64 k ∧ o = .slice A' k cap' ∧ wr.ownsRow w.heap.size 32 5 (.slice A' k cap') k (((m.take k).map Item.one).flatMap Item.cells) ∧ Below w.heap.size w wr) (fun _ i _ => m.length - (intOf i).toNat)
    case atStart => exact ⟨0, none, 0, Nat.zero_le _, rfl, rfl, World.ownsRow_nil _ _ _ _, Below.refl _ _⟩
    case round =>
      obtain ⟨k, A', cap', hk, rfl, rfl, hown, hbel⟩ := hrel
      by_cases hlt : k < m.length
      · have hlt' : (k : Int) < m.length := by omega
        obtain ⟨b, off, rfl, hbl, hcell⟩ := hfm.cell (fun _ => rfl) (by omega)
        obtain ⟨c0, c1, c2, c3, c4⟩ := five hcell hbel hbl hlt
        have hbx := HB.out m[k] (List.getElem_mem hlt)
        have HS := hide (map_snoc Item.one m k hlt)
        generalize hx : m[k] = x at c0 c1 c2 c3 c4 hbx HS
        obtain ⟨key, kind, i, s, ver⟩ := x
        obtain ⟨hb1, hb2⟩ := hbx
        have HO := hide hown
        clear hx hcell hown
        go_wp2_with (first
          | (go_at_call 15; refine (one_any key kind i s ver _ hb1 hb2).mono ?_; rintro e w2 ⟨rfl, hb2⟩; have hown2 := own_below HO.out hb2; have hbl2 := hbel.trans (hb2.mono hbel.size))
          | (at_builtin; refine wpList_appE w2 rfl (.tmp 16) (.tmp 22) _ rfl w w.heap.size 32 32 _ 5 56 Tryd.underlying22 info_item rfl (by omega) (by omega) _ k _ #[.string ⟨(key.take 60).toArray⟩, .int .i64 kind, .int .i64 i, .string ⟨(s.take 200).toArray⟩, .int .i64 ver] (by rfl) w2.heap.size rfl (by rfl) rfl (item_one _ _ _ _ _) hown2 hbl2 hbl2.size (by omega) ?_; intro g cap w4 hown4 hb4))
        refine ⟨⟨k + 1, _, cap, by omega, by go_num, rfl, ?_, hb4⟩, by simp [intOf]; omega⟩
        rw [HS.out, cells_snoc]; exact hown4
      · have hk' : k = m.length := by omega
        subst hk'
        rw [List.take_length] at hown
        go_wp2_with fail
        go_ret
        rw [HR.out]
        exact ⟨A', cap', by rw [List.length_map]; rfl, by rw [List.length_map]; exact hown, hbel⟩
end Go.Proofs.YtagdjoabpkmomaaDoor
