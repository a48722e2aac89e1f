/-
  The walk of leaf.Chunks.
-/
import Derived.Test.YtagdjoabpkmomaaDoorWgt
namespace Go.Proofs.YtagdjoabpkmomaaDoor
open Go.RowKit
set_option maxRecDepth 100000
set_option linter.unusedSimpArgs false
set_option linter.unusedVariables false

def grpB (g : List Item) : Bytes := UInt8.ofNat g.length :: (g.map encI).flatten
def chunksF : Nat → List Item → List Bytes
  | 0, _ => []
  | n + 1, l => if l = [] then [] else grpB (l.take 8) :: chunksF n (l.drop 8)
def chunksL (l : List Item) : List Bytes := chunksF l.length l
theorem chunksF_more : ∀ (n m : Nat) (l : List Item), l.length ≤ n → l.length ≤ m → chunksF n l = chunksF m l
  | 0, m, l, h, _ => by
    have : l = [] := List.eq_nil_of_length_eq_zero (by omega)
    subst this; cases m <;> simp [chunksF]
  | n + 1, 0, l, _, h => by
    have : l = [] := List.eq_nil_of_length_eq_zero (by omega)
    subst this; simp [chunksF]
  | n + 1, m + 1, l, h1, h2 => by
    rw [chunksF, chunksF]
    split
    · rfl
    · rename_i hne
      have : 0 < l.length := List.length_pos_iff.2 hne
      rw [chunksF_more n m (l.drop 8) (by simp; omega) (by simp; omega)]
theorem chunksL_nil : chunksL [] = [] := rfl
theorem chunksL_cons (l : List Item) (h : 0 < l.length) : chunksL l = grpB (l.take 8) :: chunksL (l.drop 8) := by
  unfold chunksL
  obtain ⟨n, hn⟩ : ∃ n, l.length = n + 1 := ⟨l.length - 1, by omega⟩
  rw [hn, chunksF, if_neg (by rintro rfl; simp at h), chunksF_more n _ (l.drop 8) (by simp; omega) (Nat.le_refl _)]
def chunksP (l : List Item) : List Bytes := if leafB l then chunksL l else []

/-- slices of bytes, each in a row of the call's own -/
def OwnAll (w : World) (base : Nat) (vs : List Value) (ch : List Bytes) : Prop :=
  vs.length = ch.length ∧ ∀ i (h : i < ch.length), ∃ A c, vs[i]? = some (.slice A ch[i].length c) ∧ w.ownsRow base 5 1 (.slice A ch[i].length c) ch[i].length (ch[i].map cB)
theorem OwnAll.nil (w : World) (base : Nat) : OwnAll w base [] [] := ⟨rfl, fun i h => by simp at h⟩
theorem OwnAll.kept {w w' : World} {base : Nat} {vs : List Value} {ch : List Bytes} {row : Option Nat} (h : OwnAll w base vs ch) (hg : w.grownBy w' row)
    (hne : ∀ v ∈ vs, v.ownBlock = none ∨ v.ownBlock ≠ row) : OwnAll w' base vs ch :=
  ⟨h.1, fun i hi => by
    obtain ⟨A, c, hv, ho⟩ := h.2 i hi
    exact ⟨A, c, hv, ho.kept hg (hne _ (List.mem_of_getElem? hv))⟩⟩
theorem OwnAll.below {w w' : World} {base : Nat} {vs : List Value} {ch : List Bytes} (h : OwnAll w base vs ch) (hb : Below w.heap.size w w') : OwnAll w' base vs ch :=
  ⟨h.1, fun i hi => by
    obtain ⟨A, c, hv, ho⟩ := h.2 i hi
    exact ⟨A, c, hv, own_below ho hb⟩⟩
theorem OwnAll.snoc {w : World} {base : Nat} {vs : List Value} {ch : List Bytes} (h : OwnAll w base vs ch) {A : Option Addr} {c : Nat} {b : Bytes} (ho : w.ownsRow base 5 1 (.slice A b.length c) b.length (b.map cB)) :
    OwnAll w base (vs ++ [.slice A b.length c]) (ch ++ [b]) :=
  ⟨by simp [h.1], fun i hi => by
    by_cases h2 : i < ch.length
    · obtain ⟨A', c', hv, ho'⟩ := h.2 i h2
      rw [List.getElem_append_left h2]
      exact ⟨A', c', by rw [List.getElem?_append_left (by rw [h.1]; exact h2)]; exact hv, ho'⟩
    · have : i = ch.length := by simp at hi; omega
      subst this
      refine ⟨A, c, ?_, ?_⟩
      · rw [List.getElem?_append_right (by rw [h.1]; exact Nat.le_refl _), h.1]; simp
      · simpa using ho⟩
/-- rows of unlike types lie apart -/
theorem own_apart {w : World} {base base' : Nat} {e e' : TypeId} {size size' : Nat} {v v' : Value} {n n' : Nat} {xs xs' : List Value} (h : w.ownsRow base e size v n xs) (h' : w.ownsRow base' e' size' v' n' xs') (hne : e ≠ e') : v.ownBlock = none ∨ v.ownBlock ≠ v'.ownBlock := by
  rcases h.2 with ⟨rfl, _⟩ | ⟨g, cap, cur, rfl, _, hg, _⟩
  · left; rfl
  · rcases h'.2 with ⟨rfl, _⟩ | ⟨g', cap', cur', rfl, _, hg', _⟩
    · right; simp [Value.ownBlock]
    · right
      intro e1
      simp only [Value.ownBlock, Option.some.injEq] at e1
      subst e1
      rw [hg] at hg'
      injection hg' with hg'
      injection hg' with _ h2 _
      exact hne h2
theorem OwnAll.appended {w w' : World} {base base' : Nat} {e' : TypeId} {size' n' : Nat} {v' : Value} {xs' : List Value} {vs : List Value} {ch : List Bytes} (h : OwnAll w base vs ch) (ho : w.ownsRow base' e' size' v' n' xs') (hne : 5 ≠ e') (hg : w.grownBy w' v'.ownBlock) : OwnAll w' base vs ch :=
  ⟨h.1, fun i hi => by
    obtain ⟨A, c, hv, hoi⟩ := h.2 i hi
    exact ⟨A, c, hv, hoi.kept hg (own_apart hoi ho hne)⟩⟩
/-- append of one slice value: it has just been laid in a block of its own; what grows is the row alone. -/
theorem wpList_appEG {P : Program} (w : World) {ops : Array Oper} {rest : List Oper} {o : Oper} {a : Act} {Q : Exit → Act → World → Prop} (hgd : o.guard = none) (s x : Operand) (t : TypeId)
    (ho : o.op = .call { callee := .builtin .append, args := #[s, x], argTypes := #[t, t] })
    (w0 : World) (base : Nat) (e te : TypeId) (z : Value) (size bytes : Nat) (ht : P.underlying t = some (.slice e)) (hi : (P.info? e).map (fun i => (i.zero, i.size, i.bytes)) = some (some z, size, bytes))
    (hzs : z.cells.size = size) (hsz : 0 < size) (hby : bytes ≤ 4096)
    (v : Value) (n : Nat) (xs : List Value) (cs : Array Value) (hs : a.eval s = v) (H : Nat) (hH : w.heap.size = H) (hx : a.eval x = .slice (some ⟨H, 0, none⟩) 1 1) (hcs : cs.size = size) (h1 : ∀ u ∈ cs.toList, u.oneCell' = true)
    (hown : w.ownsRow base e size v n xs) (hbel : Below base w0 w) (hbase : base ≤ w.heap.size) (hroom : n + 1 ≤ 34359738368)
    (h : ∀ g cap w', w'.ownsRow base e size (.slice (some ⟨g, 0, none⟩) (n + 1) cap) (n + 1) (xs ++ cs.toList) → Below base w0 w' → (w.alloc (.cells cs te)).grownBy w' v.ownBlock → wpList P ops Q rest (a.put o.dst (.slice (some ⟨g, 0, none⟩) (n + 1) cap)) w') :
    wpList P ops Q (o :: rest) a (w.alloc (.cells cs te)) := by
  subst hH
  refine wpList_app (w.alloc (.cells cs te)) hgd s x t ho w0 base e z size bytes ht hi hzs hsz hby v n xs hs (hown.alloc _) (hbel.alloc hbase _) ⟨w.heap.size, 0, none⟩ 1 1 cs.toList hx (by simp [hcs]) (fun j u hj => ?_)
    h1 (by omega) hroom (by simp; omega) h
  rw [show (⟨w.heap.size, 0, none⟩ : Addr).add j = ⟨w.heap.size, j, none⟩ from by unfold Addr.add; split <;> simp_all, (Blk.new w te cs).cell]
  simpa using hj
def BssOut (w : World) (ch : List Bytes) (e : Ending) (w' : World) : Prop :=
  ∃ A cap vs, e = .returned (.slice A ch.length cap) ∧ w'.ownsRow w.heap.size 58 1 (.slice A ch.length cap) ch.length vs ∧ OwnAll w' w.heap.size vs ch ∧ Below w.heap.size w w'

theorem info_bytes : (Tryd.prog.info? 58).map (fun i => (i.zero, i.size, i.bytes)) = some (some (.slice none 0 0), 1, 24) := by kernel_rfl
theorem encI_len {x : Item} (h : itemB x = true) (hn : NumOk x) : (encI x).length ≤ 150 := by
  obtain ⟨key, kind, i, s, ver⟩ := x
  obtain ⟨hk1, hv, -, hv0, hv1⟩ := itemB_parts h
  have h1 := keyB_len hk1
  have h2 := encV_len hn.1 hn.2 hv
  have h3 := put_len key.length (by omega)
  have h4 := put_len ver.toNat (by omega)
  simp only [encI, List.length_append] at *
  omega
/-- what has been written of a chunk -/
def grpK (n : Nat) (g : List Item) (k : Nat) : Bytes := UInt8.ofNat n :: ((g.take k).map encI).flatten
theorem grpK_succ (n : Nat) (g : List Item) (k : Nat) (h : k < g.length) : grpK n g (k + 1) = grpK n g k ++ encI g[k] := by
  unfold grpK; rw [map_snoc _ g k h]; simp
theorem grpK_all (g : List Item) : grpK g.length g g.length = grpB g := by unfold grpK grpB; rw [List.take_length]
theorem grpK_len (n : Nat) (g : List Item) (h : ∀ x ∈ g, itemB x = true ∧ NumOk x) : ∀ k, k ≤ g.length → (grpK n g k).length ≤ 1 + k * 150
  | 0, _ => by simp [grpK]
  | k + 1, hk => by
    have h1 := grpK_len n g h k (by omega)
    have h2 := encI_len (h g[k] (List.getElem_mem (by omega))).1 (h g[k] (List.getElem_mem (by omega))).2
    rw [grpK_succ n g k (by omega), List.length_append]
    omega

set_option maxHeartbeats 8000000 in
theorem chunks_any (A : Option Addr) (l : List Item) (c : Nat) (w : World) (hS : Sig w) (hF : Fs Item.cells 5 w A l) (hnum : ∀ x ∈ l, NumOk x) (hlc : l.length ≤ c) (hcm : c ≤ maxLen) (hl : l.length ≤ 1000000) :
    Calls Tryd.prog 29 #[.slice A l.length c] w (BssOut w (chunksP l)) := by
  cases hlf : leafB l with
  | false =>
    have HR := hide (show chunksP l = [] from by unfold chunksP; rw [hlf]; rfl)
    go_enter Tryd.func29, Tryd.ntmps29
    go_wp2_with (go_at_call 40; refine (leaf_is_any A l c _ hS hF (by omega)).mono ?_; rintro e w1 ⟨rfl, hb⟩)
    go_ret
    rw [HR.out]; exact ⟨_, _, [], rfl, World.ownsRow_nil _ _ _ _, OwnAll.nil _ _, hb⟩
  | true =>
    obtain ⟨hl64, hall, hsrt⟩ := (leafB_iff l).1 hlf
    have HR := hide (show chunksP l = chunksL l from by unfold chunksP; rw [if_pos hlf])
    have HI := hide (show ∀ x ∈ l, itemB x = true ∧ NumOk x from fun x hx => ⟨hall x hx, hnum x hx⟩)
    have hcm' : c ≤ 9223372036854775807 := by unfold maxLen at hcm; omega
    clear hall hnum hsrt hcm
    go_enter Tryd.func29, Tryd.ntmps29
    go_wp2_with (go_at_call 40; refine (leaf_is_any A l c _ hS hF (by omega)).mono ?_; rintro e w1 ⟨rfl, hb⟩)
    have HB := hide hb; clear hb
    go_loopw [0, 3] (fun v0 o wr => ∃ (m : List Item) (A' : Option Addr) (c' : Nat) (done : List Bytes) (vs : List Value) (Ao : Option Addr) (co : Nat), v0 = .slice A' m.length c' ∧ Fs Item.cells 5 w A' m ∧ m.length ≤ c' ∧ c' ≤ c ∧ m.length + done.length ≤ 64 ∧ (∀ x ∈ m, itemB x = true ∧ NumOk x) ∧
      o = .slice Ao done.length co ∧ wr.ownsRow w.heap.size 58 1 (.slice Ao done.length co) done.length vs ∧ OwnAll wr w.heap.size vs done ∧ Below w.heap.size w wr ∧ done ++ chunksL m = chunksL l) (fun v0 _ _ => lenOf v0)
    case atStart => exact ⟨l, A, c, [], [], none, 0, rfl, hF, hlc, Nat.le_refl _, by simp; omega, HI.out, rfl, World.ownsRow_nil _ _ _ _, OwnAll.nil _ _, HB.out, rfl⟩
    case round =>
      obtain ⟨m, A', c', done, vs, Ao, co, rfl, hFm, hmc, hcc, hmd, hmi, rfl, hown, hoa, hbel, hch⟩ := hrel
      have HC := hide hch; have HMI := hide hmi; have HO := hide hown; have HOA := hide hoa; have HF := hide hFm
      clear hch hmi hown hoa hFm
      obtain ⟨wo, rfl⟩ : ∃ wo : World, wo = wr := ⟨_, rfl⟩
      by_cases hpos : 0 < m.length
      · have hpos' : (0 : Int) < m.length := by omega
        obtain ⟨n, hn⟩ : ∃ n : Nat, n = min 8 m.length := ⟨_, rfl⟩
        have hn8 : n ≤ 8 := by omega
        have hnm : n ≤ m.length := by omega
        have hn1 : 1 ≤ n := by omega
        have hmin : min (8 : Int) (m.length : Int) = (n : Int) := by omega
        have hcut := fun w => run_cutH Tryd.underlying22 size_item A' m.length c' n (by omega) (n : Int) rfl w
        have hcut2 := fun w => run_cut_from Tryd.underlying22 size_item A' m.length c' n (by omega) (n : Int) rfl w
        obtain ⟨g, hg⟩ : ∃ g, g = m.take n := ⟨_, rfl⟩
        have hgl : g.length = n := by rw [hg]; simp; omega
        have HFg := hide (show Fs Item.cells 5 w A' g from by rw [hg]; exact HF.out.take (fun _ => rfl) n)
        have HGI := hide (show ∀ x ∈ g, itemB x = true ∧ NumOk x from fun x hx => HMI.out x (List.mem_of_mem_take (hg ▸ hx)))
        have HGB := hide (show chunksL m = grpB g :: chunksL (m.drop n) from by
          have h8 : g = m.take 8 ∧ m.drop n = m.drop 8 := by
            rcases Nat.lt_or_ge m.length 8 with h | h
            · have : n = m.length := by omega
              rw [hg, this]
              exact ⟨by rw [List.take_length, List.take_of_length_le (by omega)], by rw [List.drop_length, List.drop_of_length_le (by omega)]⟩
            · have : n = 8 := by omega
              rw [hg, this]; exact ⟨rfl, rfl⟩
          rw [chunksL_cons m hpos, h8.1, h8.2])
        have hgn : n ≤ g.length := by omega
        have hgn2 : g.length ≤ n := by omega
        have HGL := hide hgl
        clear hg hgl hn
        go_wp2_with fail
        go_loopw [5, 24] (fun b i wi => ∃ (k : Nat) (Ab : Option Addr) (cb : Nat), k ≤ n ∧ i = .int .i64 k ∧ b = .slice Ab (grpK n g k).length cb ∧ wi.ownsRow wo.heap.size 5 1 (.slice Ab (grpK n g k).length cb) (grpK n g k).length ((grpK n g k).map cB) ∧ Below wo.heap.size wo wi) (fun _ i _ => n - (intOf i).toNat)
        case atStart =>
          refine ⟨0, some ⟨wo.heap.size, 0, none⟩, 1, Nat.zero_le _, rfl, rfl, ?_, gr1 _ _⟩
          rw [show (grpK n g 0).map cB = [Value.int .u8 (n : Int)] from by simp [grpK, cB_of n (show n < 256 by omega)]]
          exact own_new wo wo.heap.size 5 1 1 #[.int .u8 (n : Int)] (Nat.le_refl _) rfl (by simp [maxLen])
        case round =>
          obtain ⟨k, Ab, cb, hk, rfl, rfl, hownb, hbi⟩ := hrel
          have HOB := hide hownb; clear hownb
          have hgl2 := grpK_len n g HGI.out k (by omega)
          by_cases hlt : k < n
          · have hlt' : (k : Int) < n := by omega
            obtain ⟨b, off, rfl, hbl, hcell⟩ := HFg.out.cell (fun _ => rfl) (by omega)
            obtain ⟨c0, c1, c2, c3, c4⟩ := five hcell (hbel.trans (hbi.mono hbel.size)) hbl (show k < g.length by omega)
            have HK := hide (grpK_succ n g k (by omega))
            have hgi := HGI.out (g[k]'(by omega)) (List.getElem_mem _)
            have hel := encI_len hgi.1 hgi.2
            have hby := fun w => bytes_any (g[k]'(by omega)).key (g[k]'(by omega)).kind (g[k]'(by omega)).i (g[k]'(by omega)).s (g[k]'(by omega)).ver w hgi.1 hgi.2.1 hgi.2.2
            generalize g[k] = x at c0 c1 c2 c3 c4 HK hgi hel hby
            obtain ⟨key, kind, i, s, ver⟩ := x
            have hby' : ∀ w, Calls Tryd.prog 49 #[.agg #[.string ⟨key.toArray⟩, .int .i64 kind, .int .i64 i, .string ⟨s.toArray⟩, .int .i64 ver]] w (BytesOut 5 w (encI ⟨key, kind, i, s, ver⟩)) := hby
            generalize encI ⟨key, kind, i, s, ver⟩ = E at hel hby' HK
            have HBY := hide hby'
            generalize hG : grpK n g k = G at HOB HK hgl2 ⊢
            clear hcell hgi hby hby' hG
            go_wp2_with (first
              | (go_at_call 49; refine (HBY.out _).mono ?_; rintro e w5 ⟨A5, c5, rfl, hown5, hb5⟩; have hb6 := hbi.trans ((below_trans (gr1 _ _) hb5).mono hbi.size); have hown6 := own_below HOB.out (below_trans (gr1 _ _) hb5))
              | (at_builtin; refine wpList_appAny _ rfl (.tmp 28) (.tmp 30) _ rfl wo wo.heap.size 5 _ 1 1 Tryd.underlying58 info_u8 rfl (by omega) (by omega) _ _ _ (by rfl) hown6 hb6 _ _ _ _ (by rfl) (Rd.of_own hown5) (cB_one _) (by omega) hb6.size ?_; intro A7 c7 w7 hown7 hb7))
            refine ⟨⟨k + 1, A7, c7, by omega, by go_num, ?_, ?_, hb7⟩, by simp [intOf]; omega⟩
            · rw [HK.out, List.length_append]
            · rw [HK.out, List.length_append, List.map_append]; exact hown7
          · have hk' : k = n := by omega
            have hGB : grpK n g k = grpB g := by rw [hk', ← HGL.out, grpK_all]
            rw [hGB] at HOB hgl2 ⊢
            generalize grpB g = B at HOB hgl2 HGB ⊢
            have hlt' : ¬ (k : Int) < n := by omega
            have hb1 := hbel.trans (hbi.mono hbel.size)
            have HO1 := hide (own_below HO.out hbi)
            have HA1 := hide (HOA.out.below hbi)
            clear hGB
            go_wp2_with (at_builtin; refine wpList_appEG wr rfl (.tmp 33) (.tmp 35) _ rfl w w.heap.size 58 58 _ 1 24 Tryd.underlying54 info_bytes rfl (by omega) (by omega) _ done.length vs #[.slice Ab B.length cb] (by rfl) wr.heap.size rfl (by rfl) rfl (by intro u hu; simp at hu; subst hu; rfl) HO1.out hb1 hb1.size (by omega) ?_; intro gg cap w7 hown7 hb7 hgr7)
            have hob : (wr.alloc (.cells #[.slice Ab B.length cb] 58)).ownsRow w.heap.size 5 1 (.slice Ab B.length cb) B.length (B.map cB) := (HOB.out.mono hbel.size).alloc _
            have hoa7 := (OwnAll.snoc (HA1.out.below (gr1 _ _)) hob).appended (HO1.out.alloc _) (by decide) hgr7
            refine ⟨⟨m.drop n, _, c' - n, done ++ [B], vs ++ [.slice Ab B.length cb], some ⟨gg, 0, none⟩, cap, ?_, HF.out.cutL (fun _ => rfl) hnm hmc, by simp; omega, by omega, by simp; omega, fun x hx => HMI.out x (List.mem_of_mem_drop hx), ?_, ?_, hoa7, hb7, ?_⟩, ?_⟩
            · rw [List.length_drop]
            · rw [List.length_append]; rfl
            · rw [List.length_append]; exact hown7
            · rw [← HC.out, HGB.out, List.append_assoc]; rfl
            · simp [lenOf]; omega
      · have hm0 : m = [] := List.eq_nil_of_length_eq_zero (by omega)
        subst hm0
        have HD := hide (show chunksP l = done from by have := HC.out; rw [chunksL_nil, List.append_nil] at this; rw [HR.out, this])
        go_wp2_with fail
        go_ret
        rw [HD.out]; exact ⟨_, _, vs, rfl, HO.out, HOA.out, hbel⟩
end Go.Proofs.YtagdjoabpkmomaaDoor
