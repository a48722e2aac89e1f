/-
  Texts laid together, part 7 of 7: laws of a walk over data, contracts of functions, each whole by itself.
-/
import Derived.Test.YtoeajbhlkccekaaDoorMgf
import Derived.Test.YtoeajbhlkccekaaDoorMgb
set_option linter.unusedVariables false
set_option linter.unusedSimpArgs false
namespace Go.Proofs.YtoeajbhlkccekaaDoor
open Go.RowKit
set_option maxRecDepth 20000
def takeS (s : St) (l : List Edt) : St × Nat × Nat :=
  if (mayS s && decide (s.ver ≠ 2147483647)) = false then (St.zero, 1, 0)
  else match takeBad 0 l with
    | some b => (St.zero, 1, b)
    | none => if (takeG (s.ver + 1) 0 l s.t).2.1 = 0 then (if overQ s (takeG (s.ver + 1) 0 l s.t).1 then (St.zero, 17, l.length) else (⟨(takeG (s.ver + 1) 0 l s.t).1, s.ver + 1, s.bytes, s.keys⟩, 0, 0))
      else (St.zero, (takeG (s.ver + 1) 0 l s.t).2.1, (takeG (s.ver + 1) 0 l s.t).2.2.1)
def takV (r : St × Nat × Nat) : AV := TU [stA r.1, nA r.2.1, nA r.2.2]
theorem tkH_ok (s : St) : (tkH s).all (ltO 4) = true := by
  have h1 : (stC s).all (ltA 4) = true := st_ltA
  have h2 : zS.all (ltA 4) = true := zS_ltA
  simp only [tkH, List.all_cons, List.all_nil, ltO, h1, h2]
  rfl
theorem ld_st {R0 : AObj} {cs : List AV} {H3 : List AObj} {e a : Int} (hc : cs.length = 35) (hs : cs.all sure = true) : loadE 37 (R0 :: ⟨1, ty_api_Store, 0, cs⟩ :: ⟨1, 32, 0, [nA e]⟩ :: ⟨1, 3, 0, [nA a]⟩ :: H3) (OP 1 0) (fun d => some d) = some (.agg cs) := by
  have ht : cs.take 35 = cs := List.take_of_length_le (by omega)
  simp (config := {maxSteps := 4000000, implicitDefEqProofs := false}) (disch := omega) only [go_sem, hc, ht, hs]
theorem res3 {T : Tm} {R0 : AObj} {cs : List AV} {H3 : List AObj} {e a : Int} (hc : cs.length = 35) (hs : cs.all sure = true) (g2 : get T 4 = OP 1 0) (g3 : get T 5 = OP 2 0) (g4 : get T 6 = OP 3 0) :
    resC Tryd.prog (R0 :: ⟨1, ty_api_Store, 0, cs⟩ :: ⟨1, 32, 0, [nA e]⟩ :: ⟨1, 3, 0, [nA a]⟩ :: H3) T [.cell 4 28, .cell 5 32, .cell 6 3] (fun ds => oneOf ds = TU [noT (.agg cs), noT (nA e), noT (nA a)]) := by
  rw [rC_cell, g2]
  refine ld_of (d := .agg cs) (by
    have : kindT Tryd.prog 28 = 37 := by kernel_rfl
    rw [this]
    exact ld_st hc hs) ?_
  rw [rC_cell, g3]
  refine ld_of (d := nA e) (by kernel_rfl) ?_
  rw [rC_cell, g4]
  refine ld_of (d := nA a) (by kernel_rfl) ?_
  rw [rC_nil]
  rfl
theorem takV_zero {e a : Nat} {H : List AObj} : ro H (TU [noT (.agg zS), noT (nA e), noT (nA a)]) = takV (St.zero, e, a) := by
  show (TU [roA H (.agg zS), roA H (nA e), roA H (nA a)] : AV) = _
  show (TU [.agg (zS.map (ro1 H)), _, _] : AV) = _
  rw [zS_ro]
  rfl
theorem takV_ok {u : St} {H : List AObj} : ro H (TU [noT (.agg (stC u)), noT (nA 0), noT (nA 0)]) = takV (u, 0, 0) := by
  show (TU [.agg ((stC u).map (ro1 H)), _, _] : AV) = _
  rw [st_ro]
  rfl
theorem takV_lt {r : St × Nat × Nat} : ltT 0 (takV r) = true := by
  have h1 : ltT 0 (stA r.1) = true := by
    show (stC r.1).all (lt1 0) = true
    exact st_lt1
  show ([stA r.1, nA r.2.1, nA r.2.2].all fun x => ltA 0 x) = true
  simp only [List.all_cons, List.all_nil, Bool.and_true]
  rw [show ltA 0 (stA r.1) = true from h1]
  rfl
abbrev T5 (l : List Edt) : Tm := [(1, SL (l.map eA)), (2, OP 0 0), (4, OP 1 0), (5, OP 2 0), (6, OP 3 0)]
theorem slt_some {rs : List Tmp} {e : Exit} {s : ASt} {X : AV} {H' : List AObj} (h : sltFK rs e s = some (X, H')) : ((e = .normal ∨ e = .ret) ∧ X = TU (sltK s.T rs) ∧ s.H = H') ∨ (∃ u, e = .panic (pch u) ∧ X = TU (PN u :: sltK s.T rs) ∧ s.H = H') := by
  cases e with
  | normal => cases h; exact .inl ⟨.inl rfl, rfl, rfl⟩
  | ret => cases h; exact .inl ⟨.inr rfl, rfl, rfl⟩
  | exit id => cases h
  | goto l => cases h
  | panic ch =>
    obtain ⟨u, rfl, h⟩ := chE_some (K := fun u => some (TU (PN u :: sltK s.T rs), s.H)) h
    cases h
    exact .inr ⟨u, rfl, rfl, rfl⟩
  | outgrown => cases h
section
variable {s u : St} {l : List Edt} {a2 : Act} {w w1 : World} {S S1 : SS} {μ1 : List Value} {p0 p1 p2 : Value} {M : Nat}
theorem hinvk (w' : World) : (invoke (.fn (.func 37) #[p0, p1, p2]) #[]).run Tryd.prog w' = .ok (.enter 37 #[p0, p1, p2]) w' := by simp [go_sem]
theorem tail_ok (hr1 : Rel w1 S1 μ1 (tkH s)) (hf2 : Fr S1 μ1 ⟨80, [dD p0 p1 p2]⟩ (T5 l) a2) (hg1 : GOk GG S1) (hst1 : Step 0 w S [] [] w1 S1 μ1 (tkH s))
    (hR : store_TakeR M [dD p0 p1 p2] (SL (l.map eA)) (OP 0 0) (OP 1 0) (OP 2 0) (OP 3 0) (tkH s) = some (TU [OP 1 0, OP 2 0, OP 3 0], [⟨1, ty_api_Store, 0, stC u⟩, ⟨1, ty_api_Store, 0, stC u⟩, ⟨1, ty_api_Errno, 0, [nA 0]⟩, ⟨1, ty_int, 0, [nA 0]⟩])) :
    (endC 4 dC).wp Tryd.prog (bodyPostD Tryd.prog Tryd.f10 (CPost w S [] [] fun r H' => r = takV (u, 0, 0) ∧ H' = [])) a2 w1 := by
  have key := exec_ok (n := 0) (M := M) MIX (store_TakeR_hE M) store_TakeR_c store_TakeR_h _ _ (Nat.zero_le _) hR
  refine wp_mono (key w1 S1 μ1 a2 hr1 hf2 hg1) ?_
  rintro e a3 w3 ⟨⟨H3, T3⟩, S3, μ3, hq3, hr3, hf3, hst3⟩
  rcases slt_some hq3 with ⟨he, h, hH⟩ | ⟨v, _, h, _⟩
  · dsimp only at hr3 hf3 hst3 hH
    subst hH
    have h := TU_inj h
    rw [sltK_eq] at h
    injection h with g2 h
    injection h with g3 h
    injection h with g4 _
    have hd : a3.defers = [dD p0 p1 p2] := hf3.nodef
    have fin : Leaves Tryd.prog Tryd.f10 a3.tmps (CPost w S [] [] fun r H' => r = takV (u, 0, 0) ∧ H' = []) a3.defers .returning w3 := by
      rw [hd]
      refine leaves_cons (f := 37) (args := #[p0, p1, p2]) (by simp) (hinvk w3) ?_
      refine (catch_idle p0 p1 p2 w3).mono ?_
      rintro e u' w4 ⟨rfl, rfl, rfl⟩
      show Leaves Tryd.prog _ a3.tmps _ [] (settle .returning) w4
      have hs : settle .returning = .returning := rfl
      rw [hs]
      obtain ⟨y, r, hrun, hrep, rfl⟩ := resultsC_run (P := Tryd.prog) (fn := Tryd.f10) (K := fun r => r = TU [noT (.agg (stC u)), noT (nA 0), noT (nA 0)]) rfl hr3 hf3 (resC_mono (fun ds e => e) (res3 (stC_len u) st_sure g2.symm g3.symm g4.symm))
      have hro := hrep.toRo hr3
      rw [takV_ok] at hro
      exact ⟨y, hrun, y, _, [], S3, [], rfl, ⟨rfl, rfl⟩, hr3.le (H' := []) trivial rfl, hro.take (n := 0) takV_lt, (hst1.trans hst3).trans cut0⟩
    rcases he with rfl | rfl
    · exact fin
    · exact fin
  · exfalso
    have h := congrArg List.length (TU_inj h)
    try rw [List.length_cons] at h
    rw [sltK_eq] at h
    simp at h
theorem tail_pan {e0 a0 : Nat} {Y : List AObj} (hr1 : Rel w1 S1 μ1 (tkH s)) (hf2 : Fr S1 μ1 ⟨80, [dD p0 p1 p2]⟩ (T5 l) a2) (hg1 : GOk GG S1) (hst1 : Step 0 w S [] [] w1 S1 μ1 (tkH s)) (r4 : rep S1 μ1 (OP 1 0) p0) (r5 : rep S1 μ1 (OP 2 0) p1) (r6 : rep S1 μ1 (OP 3 0) p2)
    (hR : store_TakeR M [dD p0 p1 p2] (SL (l.map eA)) (OP 0 0) (OP 1 0) (OP 2 0) (OP 3 0) (tkH s) = some (TU [PN (noV e0 a0), OP 1 0, OP 2 0, OP 3 0], tkH u ++ Y)) :
    (endC 4 dC).wp Tryd.prog (bodyPostD Tryd.prog Tryd.f10 (CPost w S [] [] fun r H' => r = takV (St.zero, e0, a0) ∧ H' = [])) a2 w1 := by
  have key := exec_ok (n := 4) (M := M) MIX (store_TakeR_hE M) store_TakeR_c store_TakeR_h _ _ (Nat.le_refl _) hR
  refine wp_mono (key w1 S1 μ1 a2 hr1 hf2 hg1) ?_
  rintro e a3 w3 ⟨⟨H3, T3⟩, S3, μ3, hq3, hr3, hf3, hst3⟩
  rcases slt_some hq3 with ⟨_, h, _⟩ | ⟨v, rfl, h, hH⟩
  · exfalso
    have h := congrArg List.length (TU_inj h)
    try rw [List.length_cons] at h
    rw [sltK_eq] at h
    simp at h
  · dsimp only at hr3 hf3 hst3 hH
    subst hH
    have h := TU_inj h
    rw [sltK_eq] at h
    injection h with gu h
    injection h with g2 h
    injection h with g3 h
    injection h with g4 _
    injection gu with _ gu
    injection gu with gu
    injection gu with gu
    subst gu
    have hd : a3.defers = [dD p0 p1 p2] := hf3.nodef
    show Leaves Tryd.prog _ a3.tmps _ a3.defers (.panicking (pch (noV e0 a0))) w3
    rw [hd]
    have hle : HLe (tkH u ++ Y) (tkH u) := by
      have := HLe.take (tkH u ++ Y) 4
      rwa [List.take_left' (show (tkH u).length = 4 from rfl)] at this
    have hr3' := hr3.le hle (tkH_ok u)
    have hcut : Step 4 w3 S3 μ3 (tkH u ++ Y) w3 S3 (μ3.take 4) (tkH u) := Le.step (s := ⟨tkH u ++ Y, []⟩) (s' := ⟨tkH u, []⟩) ⟨hle, tkH_ok u, trivial⟩ (Nat.le_refl _) w3 S3 μ3
    have hst3' := hst3.trans hcut
    have hx := Step.toExt hr1 hst3'
    refine leaves_cons (f := 37) (args := #[p0, p1, p2]) (by simp) (hinvk w3) ?_
    refine (catch_pan p0 p1 p2 e0 a0 [] w3 (hg1.ext hst3.still) (R3 := ⟨1, ty_api_Store, 0, stC u⟩) hr3' zS_len (r4.ext hx) (r5.ext hx) (r6.ext hx)).mono ?_
    rintro e u' w4 ⟨rfl, rfl, S4, μ4, hr4, hst4⟩
    show Leaves Tryd.prog _ a3.tmps _ [] (settle (.panicking [{ v := noV e0 a0, recovered := true }])) w4
    have hs : settle (.panicking [{ v := noV e0 a0, recovered := true }]) = .returning := rfl
    rw [hs]
    have hf3' : Fr S3 (μ3.take 4) ⟨80, [dD p0 p1 p2]⟩ [(4, OP 1 0), (5, OP 2 0), (6, OP 3 0)] a3 := by
      have := Le.fr (s := ⟨tkH u ++ Y, T3⟩) (s' := ⟨tkH u, [(4, OP 1 0), (5, OP 2 0), (6, OP 3 0)]⟩) ⟨hle, tkH_ok u, g2.symm, rfl, g3.symm, rfl, g4.symm, rfl, trivial⟩ hf3
      exact this
    obtain ⟨y, r, hrun, hrep, rfl⟩ := resultsC_run (P := Tryd.prog) (fn := Tryd.f10) (K := fun r => r = TU [noT (.agg zS), noT (nA e0), noT (nA a0)]) rfl hr4 (hf3'.ext (Step.toExt hr3' hst4)) (resC_mono (fun ds e => e) (res3 zS_len zS_sure rfl rfl rfl))
    have hro := hrep.toRo hr4
    rw [takV_zero] at hro
    exact ⟨y, hrun, y, _, [], S4, [], rfl, ⟨rfl, rfl⟩, hr4.le (H' := []) trivial rfl, hro.take (n := 0) takV_lt, ((hst1.trans (hst3'.less (Nat.zero_le _))).trans (hst4.less (Nat.zero_le _))).trans cut0⟩
end
theorem take_acp {s : St} {l : List Edt} (h : s.t.Ok) (hi : mayT s.t = true → TInv s.t) (hx : ∀ x ∈ l, NumOk (x.it 0)) (hl : l.length ≤ 34359738368) : ACp Tryd.prog GG 10 [stA s, SL (l.map eA)] (takV (takeS s l)) := by
  have hM : l.length < l.length + 1000001 := by omega
  generalize hMM : l.length + 1000001 = M at hM
  have hM2 : 1000000 < M := by omega
  cases hb : (mayS s && decide (s.ver ≠ 2147483647)) with
  | false =>
    have := store_Take_ok M _ _ [] (show store_Take_t M [stA s, SL (l.map eA)] = _ from early_may M s l hM2 h hb)
    unfold takeS
    rw [if_pos hb]
    exact this
  | true =>
  have hb' := hb
  simp only [Bool.and_eq_true, decide_eq_true_eq] at hb'
  obtain ⟨h1, hv⟩ := hb'
  cases hk : takeBad 0 l with
  | some b =>
    have := store_Take_ok M _ _ [] (show store_Take_t M [stA s, SL (l.map eA)] = _ from early_bad M s l hM2 hM hl h h1 hv b hk)
    unfold takeS
    rw [if_neg (by rw [hb]; decide), hk]
    exact this
  | none =>
  have hmt : mayT s.t = true := by
    unfold mayS at h1
    simp only [Bool.and_eq_true] at h1
    exact h1.1.1.1.1.1.1
  have hvr : 0 ≤ s.ver ∧ s.ver < 2147483647 := by
    unfold mayS inB at h1
    simp only [Bool.and_eq_true, decide_eq_true_eq] at h1
    omega
  have hinv := hi hmt
  refine ⟨by kernel_rfl, fun w S μ vs hr hg hlen hvs => ?_⟩
  have hμ : μ = [] := List.eq_nil_of_length_eq_zero hr.len
  subst hμ
  refine calls_of_wp_defers Tryd.func10 (c := dC) rfl ?_
  rw [Tryd.ntmps10]
  have hfr := fr_args (S := S) (μ := []) (N := 80) (args := [stA s, SL (l.map eA)]) (vs := vs) hlen (by simp) hvs
  refine (wpIn_wide (n := 0)).1 (exec_farW (n := 0) MIX (store_TakeA_hE M) 3 dC store_TakeA_h ⟨[], argsT 0 [stA s, SL (l.map eA)]⟩ (by kernel_rfl) (takeA_s M s l hM2 hM hl h h1 hv hk) hr hfr hg ?_ (Nat.le_refl _))
  rintro a w1 ⟨S1, μ1, _, hr1, hf1, hg1, hst1⟩
  refine wpIn_wide.2 ?_
  have ec : endC 3 dC = .seq (cdL (endC 3 dC)) (endC 4 dC) := by kernel_rfl
  rw [ec]
  refine wp_seq (dB (p0 := a.eval (.tmp 4)) (p1 := a.eval (.tmp 5)) (p2 := a.eval (.tmp 6)) rfl rfl rfl hf1.nodef hf1.size fun v => ?_)
  have sz : a.tmps.size = 80 := hf1.size
  have r4 : rep S1 μ1 (OP 1 0) (a.tmps.getD 4 undef) := hf1.slot 4
  have r5 : rep S1 μ1 (OP 2 0) (a.tmps.getD 5 undef) := hf1.slot 5
  have r6 : rep S1 μ1 (OP 3 0) (a.tmps.getD 6 undef) := hf1.slot 6
  have hput := hf1.put (some 40) (fun i e => by cases e; decide) (v := .nil) (u := v) trivial
  generalize hp0 : a.eval (.tmp 4) = p0
  generalize hp1 : a.eval (.tmp 5) = p1
  generalize hp2 : a.eval (.tmp 6) = p2
  have e4 : a.tmps.getD 4 undef = p0 := hp0
  have e5 : a.tmps.getD 5 undef = p1 := hp1
  have e6 : a.tmps.getD 6 undef = p2 := hp2
  rw [e4] at r4
  rw [e5] at r5
  rw [e6] at r6
  show (endC 4 dC).wp Tryd.prog _ _ w1
  have hf2 : Fr S1 μ1 ⟨80, [dD p0 p1 p2]⟩ [(1, SL (l.map eA)), (2, OP 0 0), (4, OP 1 0), (5, OP 2 0), (6, OP 3 0)] { (a.put (some 40) v) with defers := [dD p0 p1 p2] } := by
    have := hput.some (T' := [(1, SL (l.map eA)), (2, OP 0 0), (4, OP 1 0), (5, OP 2 0), (6, OP 3 0)]) (by simp [_root_.Go.Proofs.YtoeajbhlkccekaaDoor.get, ASt.set, tput])
    exact ⟨this.size, rfl, this.slot⟩
  have hR := takeR_s M [dD p0 p1 p2] s l hM hl hinv hx hvr.1 hvr.2
  unfold takeS
  rw [if_neg (by rw [hb]; decide), hk]
  dsimp only
  unfold finT at hR
  by_cases he : (takeG (s.ver + 1) 0 l s.t).2.1 = 0
  · rw [if_pos he] at hR ⊢
    cases hq : overQ s (takeG (s.ver + 1) 0 l s.t).1 with
    | true =>
      rw [hq, if_pos rfl] at hR
      rw [if_pos rfl]
      exact tail_pan (Y := []) hr1 hf2 hg1 hst1 r4 r5 r6 (by rw [List.append_nil]; exact hR)
    | false =>
      rw [hq, if_neg (by decide)] at hR
      rw [if_neg (by decide)]
      exact tail_ok hr1 hf2 hg1 hst1 hR
  · rw [if_neg he] at hR ⊢
    exact tail_pan hr1 hf2 hg1 hst1 r4 r5 r6 hR
end Go.Proofs.YtoeajbhlkccekaaDoor

namespace Go.Proofs.YtoeajbhlkccekaaDoor
open Go.RowKit
set_option maxRecDepth 20000
attribute [local go_sem] tC_len tC_sure tC_ltA tC_lt1 tC_ro tC_take tC_all1 zcT_eq zcI_len zC_len zC_ltA zC_lt1 zC_sure zC_ro zC_take set_tl set_tv sc_tt sc_zt sc_tz sc_zz add16 tA_def lA_def natInt u_tl u_tv st_take35 st_take stC_len st_sure st_ltA st_lt1 st_ro zcS_eq zS_len zS_sure zS_take zS_ltA zS_ro zS_all1 ss_zs ss_zz u_bS0
theorem runM_len {lo hi : Bytes} {most : Int} : ∀ (n : Nat) (u : Tr) (acc : List Item), (runM lo hi most n u acc).length ≤ acc.length + n
  | 0, u, acc => Nat.le_refl _
  | n + 1, u, acc => by
    unfold runM
    split
    · omega
    · split
      · omega
      · have := runM_len (lo := lo) (hi := hi) (most := most) n (pop u (leastT u).toNat) (takeX lo (hdK u (leastT u).toNat) acc)
        have h2 : (takeX lo (hdK u (leastT u).toNat) acc).length ≤ acc.length + 1 := by
          unfold takeX
          split
          · omega
          · simp
        omega
theorem scanR_len {lo hi : Bytes} {most : Int} {t : Tr} (h : t.Ok) : (scanR lo hi most t).length ≤ 16000000 := by
  unfold scanR
  split
  · have := runM_len (lo := lo) (hi := hi) (most := most) (cntT t) t []
    have h2 := cnt_le h
    unfold scanT
    simp at this
    omega
  · simp
def undoR (p q : St) : List Edt := if mayS p && mayS q then undoN ((scanR [] [] 1024 p.t).length + (scanR [] [] 1024 q.t).length) (scanR [] [] 1024 p.t) (scanR [] [] 1024 q.t) [] else []
theorem undo_s (m : Nat) (p q : St) (hm : 40000000 < m) (hp : p.t.Ok) (hq : q.t.Ok) : store_Undo m (stA p) (stA q) = some (TU [SL ((undoR p q).map eA), nA (if mayS p && mayS q then 0 else 1)], []) := by
  rw [store_Undo_eq]
  have h1 := smay_s m p (by omega) hp
  have h2 := smay_s m q (by omega) hq
  have s1 := span_ScanQ_e m p.t [] [] 1024 hp
  have s2 := span_ScanQ_e m q.t [] [] 1024 hq
  rw [tA_def] at s1 s2
  unfold undoR
  rw [stA_def] at h1 h2 ⊢
  rw [stA_def]
  cases e1 : mayS p with
  | false =>
    rw [e1] at h1
    simp (config := {maxSteps := 4000000, implicitDefEqProofs := false}) (disch := omega) only [go_sem, h1, store_Undo_r1_eq]
    try rfl
  | true =>
    rw [e1] at h1
    cases e2 : mayS q with
    | false =>
      rw [e2] at h2
      simp (config := {maxSteps := 4000000, implicitDefEqProofs := false}) (disch := omega) only [go_sem, h1, h2, store_Undo_r1_eq]
      try rfl
    | true =>
      rw [e2] at h2
      have hl1 := scanR_len (lo := []) (hi := []) (most := 1024) hp
      have hl2 := scanR_len (lo := []) (hi := []) (most := 1024) hq
      simp (config := {maxSteps := 4000000, implicitDefEqProofs := false}) (disch := omega) only [go_sem, h1, h2, store_Undo_r1_eq, store_Undo_r2_eq, s1, s2]
      refine (undo_loop m p q (scanR [] [] 1024 p.t) (scanR [] [] 1024 q.t) (by omega) (by omega) (fun _ => none) _ ?_).trans ?_
      · intro acc
        show blockX 0 (seqX (fun s => store_Undo_r3 m ⟨s.H, [(10, gt s.T 10)]⟩) store_Undo_fin) (.exit 0) ⟨_, [(10, OW 2 acc.length)]⟩ = _
        simp (config := {maxSteps := 4000000, implicitDefEqProofs := false}) (disch := omega) only [go_sem, store_Undo_r3_eq]
      · rfl
def SEq (s u : St) : Prop := s.t.Eq16 u.t ∧ s.ver = u.ver ∧ s.bytes = u.bytes ∧ s.keys = u.keys
theorem stA_inj {s u : St} (h : stA s = stA u) : SEq s u := by
  rw [stA_def, stA_def] at h
  injection h with h
  have h1 : tC s.t = tC u.t := by
    have := congrArg (List.take 32) h
    rwa [st_take, st_take] at this
  have h2 : s.tail = u.tail := by
    have := congrArg (List.drop 32) h
    unfold stC at this
    rwa [List.drop_left' tC_len, List.drop_left' tC_len] at this
  refine ⟨tA_inj (by rw [tA_def, tA_def, h1]), ?_⟩
  unfold St.tail at h2
  injection h2 with a h2
  injection h2 with b h2
  injection h2 with c _
  exact ⟨nA_inj a, nA_inj b, nA_inj c⟩
theorem stA_eq {s u : St} (h : SEq s u) : stA s = stA u := by
  obtain ⟨h1, h2, h3, h4⟩ := h
  have e := tA_eq h1
  rw [tA_def, tA_def] at e
  injection e with e
  rw [stA_def, stA_def]
  unfold stC St.tail
  rw [e, h2, h3, h4]
theorem mayS_eq {s u : St} (h : SEq s u) : mayS s = mayS u := by
  obtain ⟨h1, h2, h3, h4⟩ := h
  unfold mayS versB
  rw [mayT_eq h1, h2, h3, h4, weightT_eq h1, countT_eq h1]
  rw [all_range_congr (f := fun i => decide (s.t.ver i ≤ u.ver)) (g := fun i => decide (u.t.ver i ≤ u.ver)) fun i hi => by rw [(h1 i hi).2]]
theorem oneT_eq {t u : Tr} (h : t.Eq16 u) (x : Edt) (v : Int) : tA (oneT t x v).1 = tA (oneT u x v).1 ∧ (oneT t x v).2 = (oneT u x v).2 := by
  unfold oneT
  rw [getT_eq h]
  split
  · split
    · exact delT_eq h x.key v
    · exact ⟨tA_eq h, rfl⟩
  · exact putT_eq h _
theorem takeG_eq {v : Int} : ∀ (l : List Edt) (k : Nat) {t u : Tr} (h : t.Eq16 u), tA (takeG v k l t).1 = tA (takeG v k l u).1 ∧ (takeG v k l t).2 = (takeG v k l u).2
  | [], k, t, u, h => ⟨tA_eq h, rfl⟩
  | x :: r, k, t, u, h => by
    obtain ⟨e1, e2⟩ := oneT_eq h x v
    unfold takeG
    rw [e2]
    split
    · exact takeG_eq r (k + 1) (tA_inj e1)
    · exact ⟨tA_eq h, rfl⟩
theorem takeS_eq {s u : St} (h : SEq s u) (l : List Edt) : takV (takeS s l) = takV (takeS u l) := by
  have hM := mayS_eq h
  obtain ⟨h1, h2, h3, h4⟩ := h
  obtain ⟨e1, e2⟩ := takeG_eq (v := s.ver + 1) l 0 h1
  have e3 := tA_inj e1
  have eO : overQ s (takeG (s.ver + 1) 0 l s.t).1 = overQ u (takeG (s.ver + 1) 0 l u.t).1 := by
    unfold overQ
    rw [weightT_eq e3, countT_eq e3, h3, h4]
  unfold takeS
  rw [hM, h2] at *
  split
  · rfl
  · split
    · rfl
    · rw [e2, eO]
      split
      · split
        · rfl
        · have : SEq ⟨(takeG (u.ver + 1) 0 l s.t).1, u.ver + 1, s.bytes, s.keys⟩ ⟨(takeG (u.ver + 1) 0 l u.t).1, u.ver + 1, u.bytes, u.keys⟩ := ⟨e3, rfl, h3, h4⟩
          unfold takV
          rw [stA_eq this]
      · rfl
theorem ed_inj {x y : Edt} (h : flA Edt.cells x = flA Edt.cells y) : x = y := by
  obtain ⟨k1, d1, i1, s1⟩ := x
  obtain ⟨k2, d2, i2, s2⟩ := y
  rw [ed_it, ed_it] at h
  simp only [DataW.agg.injEq, List.cons.injEq, DataW.held.injEq, Sum.inl.injEq, Value.string.injEq, Value.int.injEq, ByteArray.mk.injEq, Array.mk.injEq, true_and, and_true] at h
  obtain ⟨h1, h2, h3, h4⟩ := h
  have h1 : k1 = k2 := by simpa using h1
  have h4 : s1 = s2 := by simpa using h4
  subst h1 h2 h3 h4
  rfl
noncomputable def store_TakeQ_t (m : Nat) : List AV → RO := orac (ι := St × List Edt) (fun p => [stA p.1, SL (p.2.map eA)]) (fun p => takV (takeS p.1 p.2)) (fun p => p.1.t.Ok ∧ (mayT p.1.t = true → TInv p.1.t) ∧ (∀ x ∈ p.2, NumOk (x.it 0)) ∧ p.2.length ≤ 34359738368)
theorem store_TakeQ_ok (m : Nat) : ∀ args X H', store_TakeQ_t m args = some (X, H') → ACp Tryd.prog GG 10 args X := orac_ok (by
  rintro ⟨s, l⟩ ⟨h1, h2, h3, h4⟩
  exact take_acp h1 h2 h3 h4)
theorem store_TakeQ_e (m : Nat) (s : St) (l : List Edt) (h : s.t.Ok) (hi : mayT s.t = true → TInv s.t) (hx : ∀ x ∈ l, NumOk (x.it 0)) (hl : l.length ≤ 34359738368) : store_TakeQ_t m [stA s, SL (l.map eA)] = some (takV (takeS s l), []) := orac_eq (ι := St × List Edt) (by
  rintro ⟨s, l⟩ ⟨u, k⟩ e
  dsimp only at e ⊢
  simp only [List.cons.injEq, and_true] at e
  obtain ⟨e1, e2⟩ := e
  injection e2 with e2
  have := map_inj (fun _ _ => ed_inj) e2
  subst this
  exact takeS_eq (stA_inj e1) l) (i := (s, l)) ⟨h, hi, hx, hl⟩
end Go.Proofs.YtoeajbhlkccekaaDoor

namespace Go.Proofs.YtoeajbhlkccekaaDoor
open Go.RowKit
set_option maxRecDepth 20000
attribute [local go_sem] tC_len tC_sure tC_ltA tC_lt1 tC_ro tC_take tC_all1 zcT_eq zcI_len zC_len zC_ltA zC_lt1 zC_sure zC_ro zC_take set_tl set_tv sc_tt sc_zt sc_tz sc_zz add16 tA_def lA_def natInt u_tl u_tv st_take35 st_take stC_len st_sure st_ltA st_lt1 st_ro zcS_eq zS_len zS_sure zS_take zS_ltA zS_ro zS_all1 ss_zs ss_zz u_bS0
def newS (b k : Int) : St := ⟨Tr.zero, 0, b, k⟩
def zSb (b k : Int) : List AV := zC ++ [nA 0, nA b, nA k]
section
variable {R : Type} {b k : Int} {n : Nat} {K1 : AV → Option R} {H : List AObj}
theorem zSb_len : (zSb b k).length = 35 := _root_.id rfl
theorem zSb_sure : (zSb b k).all sure = true := _root_.id rfl
theorem zSb_ltA : (zSb b k).all (ltA n) = true := _root_.id rfl
theorem zSb_all1 : ((zSb b k).all fun x => lt1 n (ro1 H x)) = true := _root_.id rfl
theorem zSb_ro : (zSb b k).map (ro1 H) = stC (newS b k) := _root_.id rfl
theorem zSb_take : (zSb b k).take 35 = zSb b k := _root_.id rfl
theorem zSb_set : setCells zS 0 (zSb b k) = zSb b k := set_all rfl
theorem u_bSb : buildE (some pl_api_Store) (some zS) [(2, V (.int .i64 b)), (3, V (.int .i64 k))] K1 = K1 (.agg (zSb b k)) := _root_.id rfl
end
def newR (b k : Int) : St × Nat := if mayS (newS b k) then (newS b k, 0) else (St.zero, 1)
theorem new_s (m : Nat) (b k : Int) (hm : 1000000 < m) : store_New m (nA b) (nA k) = some (TU [stA (newR b k).1, nA (newR b k).2], []) := by
  rw [store_New_eq]
  have hM := smay_s m (newS b k) hm ok_zero
  unfold newR
  rw [stA_def] at hM ⊢
  cases h1 : mayS (newS b k) with
  | false =>
    rw [h1] at hM
    simp (config := {maxSteps := 4000000, implicitDefEqProofs := false}) (disch := omega) only [go_sem, zSb_len, zSb_sure, zSb_ltA, zSb_take, zSb_ro, zSb_set, u_bSb, hM, zSb_all1, stA_def]
    try rfl
  | true =>
    rw [h1] at hM
    simp (config := {maxSteps := 4000000, implicitDefEqProofs := false}) (disch := omega) only [go_sem, zSb_len, zSb_sure, zSb_ltA, zSb_take, zSb_ro, zSb_set, u_bSb, hM, zSb_all1, stA_def]
    try rfl
def roomR (s : St) : Int × Int := if mayS s then (s.bytes - weightT s.t, s.keys - countT s.t) else (0, 0)
theorem mayS_nums {s : St} (h : mayS s = true) : 0 ≤ s.ver ∧ s.ver ≤ 2147483647 ∧ 0 ≤ s.bytes ∧ s.bytes ≤ 65536 ∧ 0 ≤ s.keys ∧ s.keys ≤ 1024 ∧ mayT s.t = true ∧ (weightT s.t : Int) ≤ s.bytes ∧ (countT s.t : Int) ≤ s.keys := by
  unfold mayS inB at h
  simp only [Bool.and_eq_true, decide_eq_true_eq] at h
  exact ⟨h.1.1.1.1.1.2.1, h.1.1.1.1.1.2.2, h.1.1.1.1.2.1, h.1.1.1.1.2.2, h.1.1.1.2.1, h.1.1.1.2.2, h.1.1.1.1.1.1, h.1.2, h.2⟩
theorem room_s (m : Nat) (s : St) (hm : 1000000 < m) (h : s.t.Ok) : store_Room m (stA s) = some (TU [nA (roomR s).1, nA (roomR s).2], []) := by
  rw [store_Room_eq]
  have hM := smay_s m s hm h
  have hW := trunk_Weight_e m s.t h
  have hC := trunk_Count_e m s.t h
  rw [tA_def] at hW hC
  unfold roomR
  rw [stA_def] at hM ⊢
  cases h1 : mayS s with
  | false =>
    rw [h1] at hM
    simp (config := {maxSteps := 4000000, implicitDefEqProofs := false}) (disch := omega) only [go_sem, hM]
    try rfl
  | true =>
    rw [h1] at hM
    have hn := mayS_nums h1
    have w1 : IntKind.i64.wrap (s.bytes - (weightT s.t : Int)) = s.bytes - (weightT s.t : Int) := w_i64 (by omega) (by omega)
    have w2 : IntKind.i64.wrap (s.keys - (countT s.t : Int)) = s.keys - (countT s.t : Int) := w_i64 (by omega) (by omega)
    simp (config := {maxSteps := 4000000, implicitDefEqProofs := false}) (disch := omega) only [go_sem, st_bytes, st_keys, hM, hW, hC, w1, w2]
    try rfl
def getR (s : St) (k : Bytes) : Item × Nat := if mayS s then (if keyB k then (if (getT s.t k).isSome then ((getT s.t k).getD Item.zero, 0) else (Item.zero, 6)) else (Item.zero, 3)) else (Item.zero, 1)
def valV (x : Item) : AV := .agg [V (.int .i64 x.kind), V (.int .i64 x.i), V (.string ⟨x.s.toArray⟩)]
theorem zcV0 : zc_api_Value = [V (.int .i64 0), V (.int .i64 0), V (.string ⟨#[]⟩)] := _root_.id rfl
theorem u_bV0 {R : Type} {K1 : AV → Option R} : buildE (some pl_api_Value) (some [V (.int .i64 0), V (.int .i64 0), V (.string ⟨#[]⟩)]) [] K1 = K1 (.agg [V (.int .i64 0), V (.int .i64 0), V (.string ⟨#[]⟩)]) := _root_.id rfl
theorem get_s (m : Nat) (s : St) (k : Bytes) (hm : 1000000 < m) (h : s.t.Ok) : store_Get m (stA s) (sA k) = some (TU [valV (getR s k).1, nA (getR s k).1.ver, nA (getR s k).2], []) := by
  rw [store_Get_eq]
  have hM := smay_s m s hm h
  have hK := key_Is_e m k
  have hG := trunk_Get_e m s.t k h
  rw [tA_def] at hG
  unfold getR valV
  rw [stA_def] at hM ⊢
  cases h1 : mayS s with
  | false =>
    rw [h1] at hM
    simp (config := {maxSteps := 4000000, implicitDefEqProofs := false}) (disch := omega) only [go_sem, hM, zcV0, u_bV0]
    try rfl
  | true =>
    rw [h1] at hM
    cases h2 : keyB k with
    | false =>
      rw [h2] at hK
      simp (config := {maxSteps := 4000000, implicitDefEqProofs := false}) (disch := omega) only [go_sem, hM, hK, zcV0, u_bV0]
      try rfl
    | true =>
      rw [h2] at hK
      cases h3 : (getT s.t k).isSome with
      | false =>
        rw [h3] at hG
        simp (config := {maxSteps := 4000000, implicitDefEqProofs := false}) (disch := omega) only [go_sem, hM, hK, hG, zcV0, u_bV0, iA_def, zcI0]
        try rfl
      | true =>
        rw [h3] at hG
        simp (config := {maxSteps := 4000000, implicitDefEqProofs := false}) (disch := omega) only [go_sem, hM, hK, hG, zcV0, u_bV0, iA_def, zcI0]
        try rfl
end Go.Proofs.YtoeajbhlkccekaaDoor

namespace Go.Proofs.YtoeajbhlkccekaaDoor
open Go.RowKit
set_option maxRecDepth 100000
noncomputable def plenumlaw13_awake_c : Code := (Tryd.f13.body).getD .skip
def plenumlaw13_awake_h : Hint := (.two .n (.two .n (.two .n (.two .n (.two .n (.two .n (.two .n (.two .n (.two .n .n)))))))))
noncomputable def plenumlaw13_awake_env (m : Nat) : Env := [(27, .tell (store_New_t m)), (45, .tell (plenumref07_Int_t m)), (10, .tell (store_TakeQ_t m)), (16, .tell (store_Get_t m)), (28, .tell (store_Room_t m)), (18, .tell (store_Undo_t m))]
noncomputable abbrev plenumlaw13_awake_fin : KO (AV × List AObj) := tellFK Tryd.prog [.tmp 0]
noncomputable def plenumlaw13_awake (m : Nat) : RO := exec Tryd.prog GG (plenumlaw13_awake_env m) m ⟨142, []⟩ plenumlaw13_awake_c plenumlaw13_awake_h ⟨[], argsT 0 []⟩ (plenumlaw13_awake_fin)
theorem plenumlaw13_awake_eq (m : Nat) : plenumlaw13_awake m =
  tellE (store_New m (V (.int .i64 10)) (V (.int .i64 2))) [(V (.int .i64 10)), (V (.int .i64 2))] fun t20 =>
  extE t20 0 fun t21 =>
  extE t20 1 fun t22 =>
  allocE (some zc_api_Store) ty_api_Store [] fun t1 H1 =>
  storeE 37 H1 t1 t21 fun H2 =>
  loadE 37 H2 t1 fun t24 =>
  tellE (plenumref07_Int m (V (.int .i64 1))) [(V (.int .i64 1))] fun t25 =>
  buildE (some pl_api_Edit) (some zc_api_Edit) [(0, (V (.string ⟨#[97]⟩))), (1, t25)] fun t26 =>
  tellE (plenumref07_Int m (V (.int .i64 2))) [(V (.int .i64 2))] fun t27 =>
  buildE (some pl_api_Edit) (some zc_api_Edit) [(0, (V (.string ⟨#[98]⟩))), (1, t27)] fun t28 =>
  buildSE (some (ty_api_Edit, 4)) 2 [(0, t26), (1, t28)] fun t29 =>
  tellE (store_TakeQ_t m [(ro H2 t24), (ro H2 t29)]) [(ro H2 t24), (ro H2 t29)] fun t30 =>
  extE t30 0 fun t31 =>
  extE t30 1 fun t32 =>
  extE t30 2 fun t33 =>
  allocE (some zc_api_Store) ty_api_Store H2 fun t3 H3 =>
  storeE 37 H3 t3 t31 fun H4 =>
  loadE 37 H4 t3 fun t35 =>
  tellE (store_Get m (ro H4 t35) (V (.string ⟨#[97]⟩))) [(ro H4 t35), (V (.string ⟨#[97]⟩))] fun t36 =>
  extE t36 0 fun t37 =>
  extE t36 1 fun t38 =>
  extE t36 2 fun t39 =>
  allocE (some zc_api_Value) ty_api_Value H4 fun t6 H5 =>
  storeE 5 H5 t6 t37 fun H6 =>
  loadE 37 H6 t3 fun t41 =>
  tellE (store_Room m (ro H6 t41)) [(ro H6 t41)] fun t42 =>
  extE t42 0 fun t43 =>
  extE t42 1 fun t44 =>
  loadE 37 H6 t3 fun t46 =>
  tellE (plenumref07_Int m (V (.int .i64 3))) [(V (.int .i64 3))] fun t47 =>
  buildE (some pl_api_Edit) (some zc_api_Edit) [(0, (V (.string ⟨#[99]⟩))), (1, t47)] fun t48 =>
  buildSE (some (ty_api_Edit, 4)) 1 [(0, t48)] fun t49 =>
  tellE (store_TakeQ_t m [(ro H6 t46), (ro H6 t49)]) [(ro H6 t46), (ro H6 t49)] fun t50 =>
  extE t50 0 fun t51 =>
  extE t50 1 fun t52 =>
  extE t50 2 fun t53 =>
  allocE (some zc_api_Store) ty_api_Store H6 fun t11 H7 =>
  storeE 37 H7 t11 t51 fun H8 =>
  loadE 37 H8 t3 fun t55 =>
  buildE (some pl_api_Edit) (some zc_api_Edit) [(0, (V (.string ⟨#[97]⟩)))] fun t56 =>
  tellE (plenumref07_Int m (V (.int .i64 3))) [(V (.int .i64 3))] fun t57 =>
  buildE (some pl_api_Edit) (some zc_api_Edit) [(0, (V (.string ⟨#[99]⟩))), (1, t57)] fun t58 =>
  buildSE (some (ty_api_Edit, 4)) 2 [(0, t56), (1, t58)] fun t59 =>
  tellE (store_TakeQ_t m [(ro H8 t55), (ro H8 t59)]) [(ro H8 t55), (ro H8 t59)] fun t60 =>
  extE t60 0 fun t61 =>
  extE t60 1 fun t62 =>
  extE t60 2 fun t63 =>
  allocE (some zc_api_Store) ty_api_Store H8 fun t14 H9 =>
  storeE 37 H9 t14 t61 fun H10 =>
  loadE 37 H10 t3 fun t65 =>
  loadE 37 H10 t14 fun t66 =>
  tellE (store_Undo m (ro H10 t65) (ro H10 t66)) [(ro H10 t65), (ro H10 t66)] fun t67 =>
  extE t67 0 fun t68 =>
  extE t67 1 fun t69 =>
  binE none false false .eql t22 (V (.int .i64 0)) fun t71 =>
  condE t71 (
   binE none false false .eql t32 (V (.int .i64 0)) fun t74 =>
   condE t74 (
   loadE 5 H10 t6 fun t77 =>
   tellE (plenumref07_Int m (V (.int .i64 1))) [(V (.int .i64 1))] fun t78 =>
   binE (some [.i .i64, .i .i64, .s]) false false .eql t77 t78 fun t79 =>
   condE t79 (
   binE none false false .eql t38 (V (.int .i64 1)) fun t83 =>
   condE t83 (
   binE none false false .eql t39 (V (.int .i64 0)) fun t87 =>
   condE t87 (
   binE none false false .eql t43 (V (.int .i64 4)) fun t91 =>
   condE t91 (
   binE none false false .eql t44 (V (.int .i64 0)) fun t95 =>
   condE t95 (
   binE none false false .eql t52 (V (.int .i64 17)) fun t99 =>
   condE t99 (
   binE none false false .eql t53 (V (.int .i64 1)) fun t103 =>
   condE t103 (
   binE none false false .eql t62 (V (.int .i64 0)) fun t107 =>
   condE t107 (
   fieldE (some (32, 1)) t14 fun t110 =>
   loadE 1 H10 t110 fun t111 =>
   binE none false false .eql t111 (V (.int .i64 2)) fun t112 =>
   condE t112 (
   lenE false true H10 t68 fun t116 =>
   binE none false false .eql t116 (V (.int .i64 2)) fun t117 =>
   condE t117 (
   idxSE 6 H10 t68 (V (.int .i64 0)) fun t121 =>
   loadE 6 H10 t121 fun t122 =>
   tellE (plenumref07_Int m (V (.int .i64 1))) [(V (.int .i64 1))] fun t123 =>
   buildE (some pl_api_Edit) (some zc_api_Edit) [(0, (V (.string ⟨#[97]⟩))), (1, t123)] fun t124 =>
   binE (some [.s, .i .i64, .i .i64, .s]) false false .eql t122 t124 fun t125 =>
   condE t125 (
   idxSE 6 H10 t68 (V (.int .i64 1)) fun t129 =>
   loadE 6 H10 t129 fun t130 =>
   buildE (some pl_api_Edit) (some zc_api_Edit) [(0, (V (.string ⟨#[99]⟩)))] fun t131 =>
   binE (some [.s, .i .i64, .i .i64, .s]) false false .eql t130 t131 fun t132 =>
   condE t132 (
   binE none false false .eql t69 (V (.int .i64 0)) fun t136 =>
   pickE t136 (V (.bool true)) (V (.bool false)) fun t139 =>
  pickE t139 (V (.bool true)) (V (.bool false)) fun t141 =>
  tellK H10 (ro H10 t141)) (
   tellK H10 (ro H10 (V (.bool false))))) (
   tellK H10 (ro H10 (V (.bool false))))) (
   tellK H10 (ro H10 (V (.bool false))))) (
   tellK H10 (ro H10 (V (.bool false))))) (
   tellK H10 (ro H10 (V (.bool false))))) (
   tellK H10 (ro H10 (V (.bool false))))) (
   tellK H10 (ro H10 (V (.bool false))))) (
   tellK H10 (ro H10 (V (.bool false))))) (
   tellK H10 (ro H10 (V (.bool false))))) (
   tellK H10 (ro H10 (V (.bool false))))) (
   tellK H10 (ro H10 (V (.bool false))))) (
   tellK H10 (ro H10 (V (.bool false))))) (
   tellK H10 (ro H10 (V (.bool false))))) (
   tellK H10 (ro H10 (V (.bool false)))) := by
  refine (tellX Tryd.prog GG (plenumlaw13_awake_env m) m ⟨142, []⟩ plenumlaw13_awake_c plenumlaw13_awake_h ⟨[], argsT 0 []⟩ [.tmp 0]).trans ?_
  kernel_rfl
noncomputable def plenumlaw13_awake_t (m : Nat) : List AV → RO | [] => plenumlaw13_awake m | _ => none
theorem plenumlaw13_awake_ok (m : Nat) : ∀ args X H', plenumlaw13_awake_t m args = some (X, H') → ACp Tryd.prog GG 13 args X := by
  intro args X H' h
  unfold plenumlaw13_awake_t at h
  split at h
  · exact tell_okK MIX (by
    intro f e h
    simp only [plenumlaw13_awake_env, Prod.mk.injEq, List.mem_cons, List.not_mem_nil, or_false] at h
    rcases h with ⟨rfl, rfl⟩ | ⟨rfl, rfl⟩ | ⟨rfl, rfl⟩ | ⟨rfl, rfl⟩ | ⟨rfl, rfl⟩ | ⟨rfl, rfl⟩
    · exact store_New_ok m
    · exact plenumref07_Int_ok m
    · exact store_TakeQ_ok m
    · exact store_Get_ok m
    · exact store_Room_ok m
    · exact store_Undo_ok m) (f := 13) (c := plenumlaw13_awake_c) Tryd.func13 rfl (by kernel_rfl) _ rfl Tryd.ntmps13 (Nat.le_of_ble_eq_true rfl) plenumlaw13_awake_h h
  · cases h
end Go.Proofs.YtoeajbhlkccekaaDoor

namespace Go.Proofs.YtoeajbhlkccekaaDoor
open Go.RowKit
set_option maxRecDepth 20000
theorem takeG_inv {v : Int} : ∀ (l : List Edt) (k : Nat) {t : Tr}, TInv t → (∀ x ∈ l, NumOk (x.it 0)) → TInv (takeG v k l t).1
  | [], k, t, h, _ => h
  | x :: r, k, t, h, hx => by
    unfold takeG
    split
    · rename_i he
      exact takeG_inv r (k + 1) (one_inv h (hx x (List.mem_cons_self ..)) he) fun y hy => hx y (List.mem_cons_of_mem _ hy)
    · exact h
theorem may_zero : mayT Tr.zero = true := by decide +kernel
theorem zero_inv : TInv Tr.zero := ⟨may_zero, fun i x hx => (by cases hx), fun i _ => rfl⟩
theorem takeS_inv {s : St} {l : List Edt} (h : mayT s.t = true → TInv s.t) (hx : ∀ x ∈ l, NumOk (x.it 0)) : TInv (takeS s l).1.t := by
  unfold takeS
  split
  · exact zero_inv
  · rename_i hb
    have hm : mayT s.t = true := by
      simp only [Bool.not_eq_false, Bool.and_eq_true] at hb
      exact (mayS_nums hb.1).2.2.2.2.2.2.1
    split
    · exact zero_inv
    · split
      · split
        · exact zero_inv
        · exact takeG_inv l 0 (h hm) hx
      · exact zero_inv
def S0 : St := newS 10 2
def l1 : List Edt := [⟨[97], 2, 1, []⟩, ⟨[98], 2, 2, []⟩]
def l2 : List Edt := [⟨[99], 2, 3, []⟩]
def l3 : List Edt := [⟨[97], 0, 0, []⟩, ⟨[99], 2, 3, []⟩]
def A1 : St := (takeS S0 l1).1
def B1 : St := (takeS A1 l3).1
theorem hx1 : ∀ x ∈ l1, NumOk (x.it 0) := by intro x hx; simp [l1] at hx; rcases hx with rfl | rfl <;> (constructor <;> decide)
theorem hx2 : ∀ x ∈ l2, NumOk (x.it 0) := by intro x hx; simp [l2] at hx; subst hx; (constructor <;> decide)
theorem hx3 : ∀ x ∈ l3, NumOk (x.it 0) := by intro x hx; simp [l3] at hx; rcases hx with rfl | rfl <;> (constructor <;> decide)
theorem invA : TInv A1.t := takeS_inv (fun _ => zero_inv) hx1
theorem invB : TInv B1.t := takeS_inv (fun _ => invA) hx3
theorem t1_e : (takeS S0 l1).2 = (0, 0) := by decide +kernel
theorem t2_e : (takeS A1 l2).2 = (17, 1) := by decide +kernel
theorem t3_e : (takeS A1 l3).2 = (0, 0) := by decide +kernel
theorem b_ver : B1.ver = 2 := by decide +kernel
theorem new_e : (newR 10 2) = (S0, 0) := by
  unfold newR
  rw [if_pos (by decide +kernel)]
  rfl
theorem room_e : roomR A1 = (4, 0) := by decide +kernel
theorem may_A : mayS A1 = true := by decide +kernel
theorem may_B : mayS B1 = true := by decide +kernel
theorem get_e : (getR A1 [97]).2 = 0 ∧ (getR A1 [97]).1.kind = 2 ∧ (getR A1 [97]).1.i = 1 ∧ (getR A1 [97]).1.s = [] ∧ (getR A1 [97]).1.ver = 1 := by decide +kernel
theorem undo_e : undoR A1 B1 = [⟨[97], 2, 1, []⟩, ⟨[99], 0, 0, []⟩] := by kernel_rfl
theorem u_eqE2 {R : Type} {K1 : AV → Option R} {k : ByteArray} {a b : Int} {s : ByteArray} {isB sl : Bool} : binE (some [.s, .i .i64, .i .i64, .s]) isB sl .eql (.agg [V (.string k), V (.int .i64 a), V (.int .i64 b), V (.string s)]) (.agg [V (.string k), V (.int .i64 a), V (.int .i64 b), V (.string s)]) K1 = K1 (bA true) := by
  show K1 (bA (decide (k.data.toList = k.data.toList) && (decide (a = a) && (decide (b = b) && (decide (s.data.toList = s.data.toList) && true))))) = _
  simp
theorem u_bsE2 {R : Type} {K1 : AV → Option R} {a b c d e f g h : Value} : buildSE (some (ty_api_Edit, 4)) 2 [(0, .agg [V a, V b, V c, V d]), (1, .agg [V e, V f, V g, V h])] K1 = K1 (SL [.agg [V a, V b, V c, V d], .agg [V e, V f, V g, V h]]) := _root_.id rfl
theorem u_bsE1 {R : Type} {K1 : AV → Option R} {a b c d : Value} : buildSE (some (ty_api_Edit, 4)) 1 [(0, .agg [V a, V b, V c, V d])] K1 = K1 (SL [.agg [V a, V b, V c, V d]]) := _root_.id rfl
theorem awake13_s (m : Nat) (hm : 40000000 < m) : plenumlaw13_awake m = some (bA true, []) := by
  rw [plenumlaw13_awake_eq]
  have hN : store_New m (nA 10) (nA 2) = some (TU [.agg (stC S0), nA 0], []) := by
    have := new_s m 10 2 (by omega)
    rw [new_e] at this
    exact this
  have hT1 : store_TakeQ_t m [.agg (stC S0), SL [.agg [V (.string ⟨#[97]⟩), V (.int .i64 2), V (.int .i64 1), V (.string ⟨#[]⟩)], .agg [V (.string ⟨#[98]⟩), V (.int .i64 2), V (.int .i64 2), V (.string ⟨#[]⟩)]]] = some (TU [.agg (stC A1), nA 0, nA 0], []) := by
    have := store_TakeQ_e m S0 l1 zero_inv.ok (fun _ => zero_inv) hx1 (by decide)
    rw [show takeS S0 l1 = (A1, 0, 0) from Prod.ext rfl t1_e] at this
    exact this
  obtain ⟨C1, hT2⟩ : ∃ C1 : St, store_TakeQ_t m [.agg (stC A1), SL [.agg [V (.string ⟨#[99]⟩), V (.int .i64 2), V (.int .i64 3), V (.string ⟨#[]⟩)]]] = some (TU [.agg (stC C1), nA 17, nA 1], []) := by
    have := store_TakeQ_e m A1 l2 invA.ok (fun _ => invA) hx2 (by decide)
    rw [show takeS A1 l2 = ((takeS A1 l2).1, 17, 1) from Prod.ext rfl t2_e] at this
    exact ⟨_, this⟩
  have hT3 : store_TakeQ_t m [.agg (stC A1), SL [.agg [V (.string ⟨#[97]⟩), V (.int .i64 0), V (.int .i64 0), V (.string ⟨#[]⟩)], .agg [V (.string ⟨#[99]⟩), V (.int .i64 2), V (.int .i64 3), V (.string ⟨#[]⟩)]]] = some (TU [.agg (stC B1), nA 0, nA 0], []) := by
    have := store_TakeQ_e m A1 l3 invA.ok (fun _ => invA) hx3 (by decide)
    rw [show takeS A1 l3 = (B1, 0, 0) from Prod.ext rfl t3_e] at this
    exact this
  have hR : store_Room m (.agg (stC A1)) = some (TU [nA 4, nA 0], []) := by
    have := room_s m A1 (by omega) invA.ok
    rw [room_e] at this
    exact this
  have hG : store_Get m (.agg (stC A1)) (V (.string ⟨#[97]⟩)) = some (TU [.agg [V (.int .i64 2), V (.int .i64 1), V (.string ⟨#[]⟩)], nA 1, nA 0], []) := by
    have h := get_s m A1 [97] (by omega) invA.ok
    obtain ⟨g1, g2, g3, g4, g5⟩ := get_e
    unfold valV at h
    rw [g1, g2, g3, g4, g5] at h
    exact h
  have hU : store_Undo m (.agg (stC A1)) (.agg (stC B1)) = some (TU [SL [.agg [V (.string ⟨#[97]⟩), V (.int .i64 2), V (.int .i64 1), V (.string ⟨#[]⟩)], .agg [V (.string ⟨#[99]⟩), V (.int .i64 0), V (.int .i64 0), V (.string ⟨#[]⟩)]], nA 0], []) := by
    have := undo_s m A1 B1 hm invA.ok invB.ok
    rw [undo_e, may_A, may_B] at this
    exact this
  have i1 := rint_s m 1
  have i2 := rint_s m 2
  have i3 := rint_s m 3
  have hbv := b_ver
  generalize A1 = A at *
  generalize B1 = B at *
  simp (config := {maxSteps := 4000000, implicitDefEqProofs := false}) (disch := omega) only [go_sem, tC_len, tC_sure, tC_ltA, tC_lt1, tC_ro, tC_take, tC_all1, zcT_eq, zcI_len, zC_len, zC_ltA, zC_lt1, zC_sure, zC_ro, zC_take, set_tl, set_tv, sc_tt, sc_zt, sc_tz, sc_zz, add16, tA_def, lA_def, natInt, u_tl, u_tv, hN, hT1, hT2, hT3, hR, hG, hU, i1, i2, i3, zcS_eq, zS_len, zS_sure, zS_take, zS_ltA, st_take35, stC_len, st_sure, st_ltA, st_ro, st_lt1, ss_zs, u_bE1, u_bE0, u_bsE2, u_bsE1, zcV0, hbv, st_ver, u_eqE2]
  rfl
end Go.Proofs.YtoeajbhlkccekaaDoor

namespace Go.Proofs.YtoeajbhlkccekaaDoor
open Go.RowKit
set_option maxRecDepth 100000
noncomputable def plenumlaw13_StoreTakes_c : Code := (Tryd.f3.body).getD .skip
def plenumlaw13_StoreTakes_h : Hint := (.two .n (.two .n (.two .n (.two .n (.two .n (.two .n .n))))))
noncomputable def plenumlaw13_StoreTakes_env (m : Nat) : Env := [(8, .tell (plenumlaw13_Few_t m)), (9, .tell (plenumlaw13_edits_t m)), (10, .tell (store_TakeQ_t m)), (11, .tell (plenumref13_Take_t m)), (12, .tell (plenumref13_Same_t m)), (13, .tell (plenumlaw13_awake_t m))]
noncomputable abbrev plenumlaw13_StoreTakes_fin : KO (AV × List AObj) := tellFK Tryd.prog [.tmp 4]
noncomputable def plenumlaw13_StoreTakes (m : Nat) (t0 t1 : AV) : RO := exec Tryd.prog GG (plenumlaw13_StoreTakes_env m) m ⟨53, []⟩ plenumlaw13_StoreTakes_c plenumlaw13_StoreTakes_h ⟨[], argsT 0 [t0, t1]⟩ (plenumlaw13_StoreTakes_fin)
theorem plenumlaw13_StoreTakes_eq (m : Nat) (t0 t1 : AV) : plenumlaw13_StoreTakes m t0 t1 =
  boxE ty_api_Store [] t0 fun t2 H1 =>
  loadE 37 H1 t2 fun t12 =>
  tellE (plenumlaw13_Few m (ro H1 t12)) [(ro H1 t12)] fun t13 =>
  tellE (plenumlaw13_edits m (ro H1 t1)) [(ro H1 t1)] fun t15 =>
  storeE 37 H1 t2 t13 fun H2 =>
  loadE 37 H2 t2 fun t16 =>
  tellE (plenumlaw13_Few m (ro H2 t16)) [(ro H2 t16)] fun t17 =>
  allocE (some zc_api_Store) ty_api_Store H2 fun t5 H3 =>
  storeE 37 H3 t5 t17 fun H4 =>
  loadE 37 H4 t2 fun t19 =>
  tellE (store_TakeQ_t m [(ro H4 t19), (ro H4 t15)]) [(ro H4 t19), (ro H4 t15)] fun t21 =>
  extE t21 0 fun t22 =>
  extE t21 1 fun t23 =>
  extE t21 2 fun t24 =>
  allocE (some zc_api_Store) ty_api_Store H4 fun t6 H5 =>
  storeE 37 H5 t6 t22 fun H6 =>
  loadE 37 H6 t2 fun t26 =>
  tellE (plenumref13_Take m (ro H6 t26) (ro H6 t15)) [(ro H6 t26), (ro H6 t15)] fun t28 =>
  extE t28 0 fun t29 =>
  extE t28 1 fun t30 =>
  extE t28 2 fun t31 =>
  allocE (some zc_api_Store) ty_api_Store H6 fun t9 H7 =>
  storeE 37 H7 t9 t29 fun H8 =>
  loadE 37 H8 t6 fun t32 =>
  loadE 37 H8 t9 fun t33 =>
  tellE (plenumref13_Same m (ro H8 t32) (ro H8 t33)) [(ro H8 t32), (ro H8 t33)] fun t34 =>
  condE t34 (
   binE none false false .eql t23 t30 fun t38 =>
   condE t38 (
   binE none false false .eql t24 t31 fun t43 =>
   condE t43 (
   loadE 37 H8 t2 fun t46 =>
   loadE 37 H8 t5 fun t47 =>
   tellE (plenumref13_Same m (ro H8 t46) (ro H8 t47)) [(ro H8 t46), (ro H8 t47)] fun t48 =>
   condE t48 (
   tellE (plenumlaw13_awake m) [] fun t51 =>
   tellK H8 (ro H8 t51)) (
   tellK H8 (ro H8 (V (.bool false))))) (
   tellK H8 (ro H8 (V (.bool false))))) (
   tellK H8 (ro H8 (V (.bool false))))) (
   tellK H8 (ro H8 (V (.bool false)))) := by
  refine (tellX Tryd.prog GG (plenumlaw13_StoreTakes_env m) m ⟨53, []⟩ plenumlaw13_StoreTakes_c plenumlaw13_StoreTakes_h ⟨[], argsT 0 [t0, t1]⟩ [.tmp 4]).trans ?_
  kernel_rfl
noncomputable def plenumlaw13_StoreTakes_t (m : Nat) : List AV → RO | [t0, t1] => plenumlaw13_StoreTakes m t0 t1 | _ => none
theorem plenumlaw13_StoreTakes_ok (m : Nat) : ∀ args X H', plenumlaw13_StoreTakes_t m args = some (X, H') → ACp Tryd.prog GG 3 args X := by
  intro args X H' h
  unfold plenumlaw13_StoreTakes_t at h
  split at h
  · exact tell_okK MIX (by
    intro f e h
    simp only [plenumlaw13_StoreTakes_env, Prod.mk.injEq, List.mem_cons, List.not_mem_nil, or_false] at h
    rcases h with ⟨rfl, rfl⟩ | ⟨rfl, rfl⟩ | ⟨rfl, rfl⟩ | ⟨rfl, rfl⟩ | ⟨rfl, rfl⟩ | ⟨rfl, rfl⟩
    · exact plenumlaw13_Few_ok m
    · exact plenumlaw13_edits_ok m
    · exact store_TakeQ_ok m
    · exact plenumref13_Take_ok m
    · exact plenumref13_Same_ok m
    · exact plenumlaw13_awake_ok m) (f := 3) (c := plenumlaw13_StoreTakes_c) Tryd.func3 rfl (by kernel_rfl) _ rfl Tryd.ntmps3 (Nat.le_of_ble_eq_true rfl) plenumlaw13_StoreTakes_h h
  · cases h
end Go.Proofs.YtoeajbhlkccekaaDoor

namespace Go.Proofs.YtoeajbhlkccekaaDoor
open Go.RowKit
set_option maxRecDepth 20000
attribute [local go_sem] tC_len tC_sure tC_ltA tC_lt1 tC_ro tC_take tC_all1 zcT_eq zcI_len zC_len zC_ltA zC_lt1 zC_sure zC_ro zC_take set_tl set_tv sc_tt sc_zt sc_tz sc_zz add16 tA_def lA_def natInt u_tl u_tv st_take35 st_take stC_len st_sure st_ltA st_lt1 st_ro zcS_eq zS_len zS_sure zS_take zS_ltA zS_ro zS_all1 ss_zs ss_zz u_bS0
def fewSt (s : St) : St := { s with t := fewT s.t 16 }
theorem few13b_s (m : Nat) (s : St) (h : s.t.In) : plenumlaw13_Few m (stA s) = some (stA (fewSt s), []) := few13_s m s h.len
theorem sameS_self (s : St) : sameS s s = true := by
  unfold sameS
  simp [sameT_iff.2 (fun i _ => ⟨rfl, rfl⟩ : s.t.Eq16 s.t)]
end Go.Proofs.YtoeajbhlkccekaaDoor

namespace Go.Proofs.YtoeajbhlkccekaaDoor
open Go.RowKit
set_option maxRecDepth 20000
attribute [local go_sem] tC_len tC_sure tC_ltA tC_lt1 tC_ro tC_take tC_all1 zcT_eq zcI_len zC_len zC_ltA zC_lt1 zC_sure zC_ro zC_take set_tl set_tv sc_tt sc_zt sc_tz sc_zz add16 tA_def lA_def natInt u_tl u_tv st_take35 st_take stC_len st_sure st_ltA st_lt1 st_ro zcS_eq zS_len zS_sure zS_take zS_ltA zS_ro zS_all1 ss_zs ss_zz u_bS0 u_nthM ed_it ed_lenE zcE0 st_ver st_set zS_lt1 st_bytes st_keys
theorem del_ok {t : Tr} {k : Bytes} {v : Int} (h : mayT t = true) (hv : ∀ i, i < 16 → t.ver i ≤ v) (h0 : 0 ≤ v) (h1 : v ≤ 2147483647) (hg : (getT t k).isSome = true) : (delT t k v).2 = 0 := by
  have hg' := hg
  unfold getT at hg'
  cases hk : keyB k with
  | false => rw [hk] at hg'; simp at hg'
  | true =>
    rw [hk, h, if_pos (by rfl)] at hg'
    have hb := bk_lt hk
    have hvb := hv _ hb
    unfold getK at hg'
    split at hg'
    · rename_i hl
      simp only [Bool.and_eq_true] at hl
      unfold delT
      rw [if_neg (by rw [h]; simp; omega), if_neg (by rw [hg]; decide), if_neg (by omega)]
      unfold chgT delK
      rw [hl.1, hl.2]
      rfl
    · simp at hg'
theorem chg_vers {t : Tr} {b : Nat} {v : Int} {r : List Item × Nat} (hv : ∀ i, i < 16 → t.ver i ≤ v) (he : (chgT t b v r).2 = 0) : ∀ i, i < 16 → (chgT t b v r).1.ver i ≤ v := by
  unfold chgT at he ⊢
  split
  · intro i hi
    show (if i = b then v else t.ver i) ≤ v
    split
    · omega
    · exact hv i hi
  · rename_i q
    rw [if_neg q] at he
    exact absurd he q
theorem one_vers {t : Tr} {x : Edt} {v : Int} (hv : ∀ i, i < 16 → t.ver i ≤ v) (he : (oneT t x v).2 = 0) : ∀ i, i < 16 → (oneT t x v).1.ver i ≤ v := by
  unfold oneT at he ⊢
  by_cases hk : x.kind = 0
  · rw [if_pos hk] at he ⊢
    cases hg : (getT t x.key).isSome with
    | false => exact hv
    | true =>
      rw [hg, if_pos rfl] at he
      rw [if_pos rfl]
      unfold delT at he ⊢
      split
      · rename_i q; rw [if_pos q] at he; cases he
      · rename_i q
        rw [if_neg q] at he
        split
        · rename_i q2; rw [if_pos q2] at he; cases he
        · rename_i q2
          rw [if_neg q2] at he
          split
          · rename_i q3; rw [if_pos q3] at he; cases he
          · rename_i q3
            rw [if_neg q3] at he
            exact chg_vers hv he
  · rw [if_neg hk] at he ⊢
    unfold putT at he ⊢
    split
    · rename_i q; rw [if_pos q] at he; cases he
    · rename_i q
      rw [if_neg q] at he
      split
      · rename_i q2; rw [if_pos q2] at he; cases he
      · rename_i q2
        rw [if_neg q2] at he
        exact chg_vers hv he
theorem takeBad_none : ∀ {k : Nat} {l : List Edt}, takeBad k l = none → ∀ x ∈ l, editB x = true
  | k, [], h, x, hx => by cases hx
  | k, y :: r, h, x, hx => by
    unfold takeBad at h
    split at h
    · rename_i hy
      rcases List.mem_cons.1 hx with rfl | hx
      · exact hy
      · exact takeBad_none h x hx
    · cases h
theorem redit_s (m : Nat) (x : Edt) (hk : x.key.length ≤ maxLen) : plenumref13_Edit m (eA x) = some (bA (editB x), []) := by
  rw [plenumref13_Edit_eq]
  have h1 := plenumref08_Is_e m x.key hk
  have h2 := plenumref07_May_e m x.kind x.i x.s
  unfold editB
  cases hq : keyB x.key with
  | false =>
    rw [hq] at h1
    simp (config := {maxSteps := 4000000, implicitDefEqProofs := false}) (disch := omega) only [go_sem, h1]
  | true =>
    rw [hq] at h1
    simp (config := {maxSteps := 4000000, implicitDefEqProofs := false}) (disch := omega) only [go_sem, h1, h2]
def finS (s : St) (v : Int) (n : Nat) (r : Tr × Nat × Nat × List Edt) : St × Nat × Nat :=
  if r.2.1 = 0 then (if overQ s r.1 then (St.zero, 17, n) else (⟨r.1, v, s.bytes, s.keys⟩, 0, 0)) else (St.zero, r.2.1, r.2.2.1)
theorem zTr : zc_api_Trunk = zC := _root_.id rfl
theorem rtake2 (m : Nat) (s : St) (l : List Edt) (R : AObj) (hm : 40000000 < m) (hlm : l.length < m) (hl : l.length ≤ 34359738368) (hi : TInv s.t) (hx : ∀ x ∈ l, NumOk (x.it 0)) (hv0 : 0 ≤ s.ver) (hv : s.ver < 2147483647) (hvs : versB s = true) (hall : ∀ x ∈ l, editB x = true) (hkl : ∀ x ∈ l, x.key.length ≤ maxLen) :
    plenumref13_Take_r3 m ⟨[⟨1, ty_api_Store, 0, stC s⟩, ⟨1, ty_api_Store, 0, zS⟩], [(1, SL (l.map eA)), (2, OP 0 0), (4, OP 1 0)]⟩ = some (takV (finS s (s.ver + 1) l.length (takeG (s.ver + 1) 0 l s.t)), []) := by
  rw [plenumref13_Take_r3_eq]
  simp (config := {maxSteps := 4000000, implicitDefEqProofs := false}) (disch := omega) only [go_sem, st_setv, w_i64]
  refine iter_go (ι := {p : Nat × Tr // p.1 ≤ l.length ∧ takeG (s.ver + 1) p.1 (l.drop p.1) p.2 = takeG (s.ver + 1) 0 l s.t ∧ TInv p.2 ∧ ∀ i, i < 16 → p.2.ver i ≤ s.ver + 1}) (fun p => ⟨[⟨1, ty_api_Store, 0, stC ⟨p.1.2, s.ver + 1, s.bytes, s.keys⟩⟩, ⟨1, ty_api_Store, 0, zS⟩], [(1, SL (l.map eA)), (2, OP 0 0), (4, OP 1 0), (8, nA p.1.1)]⟩) (fun p => l.length - p.1.1) (fun _ => some (takV (finS s (s.ver + 1) l.length (takeG (s.ver + 1) 0 l s.t)), [])) ?_ ⟨(0, s.t), Nat.zero_le _, rfl, hi, fun i hi => by
    have := List.all_eq_true.1 hvs i (List.mem_range.2 hi)
    simp only [decide_eq_true_eq] at this
    show s.t.ver i ≤ s.ver + 1
    omega⟩ (by dsimp only; omega)
  rintro kx hkx ⟨⟨k, t⟩, hk, htk, hit, hvt⟩ kc hkc
  dsimp only at hk htk hit hvt hkc ⊢
  rw [plenumref13_Take_b2_eq]
  by_cases hlt : k < l.length
  · have hlt' : (k : Int) < (l.length : Int) := by omega
    have hmem := List.getElem_mem hlt
    rw [List.drop_eq_getElem_cons hlt, takeG] at htk
    have hn : NumOk (l[k].it (s.ver + 1)) := hx _ hmem
    have hed := hall _ hmem
    unfold editB at hed
    simp only [Bool.and_eq_true] at hed
    have hnx : (oneT t l[k] (s.ver + 1)).2 = 0 → kc ⟨[⟨1, ty_api_Store, 0, stC ⟨(oneT t l[k] (s.ver + 1)).1, s.ver + 1, s.bytes, s.keys⟩⟩, ⟨1, ty_api_Store, 0, zS⟩], [(1, SL (l.map eA)), (2, OP 0 0), (4, OP 1 0), (8, nA ((k : Int) + 1))]⟩ = some (takV (finS s (s.ver + 1) l.length (takeG (s.ver + 1) 0 l s.t)), []) := by
      intro he
      rw [if_pos he] at htk
      exact hkc ⟨(k + 1, (oneT t l[k] (s.ver + 1)).1), by omega, htk, one_inv hit hn he, one_vers hvt he⟩ (by dsimp only; omega)
    by_cases hk0 : l[k].kind = 0
    · have hD := rdel_s m t l[k].key (s.ver + 1) (by omega) hit.ok hit.may (by omega) (by omega)
      rw [tA_def] at hD
      cases hg : (getT t l[k].key).isSome with
      | true =>
        have hd0 := del_ok hit.may hvt (by omega) (by omega) hg
        have e1 : oneT t l[k] (s.ver + 1) = delT t l[k].key (s.ver + 1) := by unfold oneT; rw [if_pos hk0, hg, if_pos rfl]
        rw [e1] at hnx
        have step := hnx hd0
        rw [hd0] at hD
        rw [tA_def] at hD
        simp (config := {maxSteps := 4000000, implicitDefEqProofs := false}) (disch := omega) only [go_sem, hlt', hk0, hD, w_i64, zTr, plenumref13_Take_r5_eq]
        exact step
      | false =>
        have e1 : oneT t l[k] (s.ver + 1) = (t, 0) := by unfold oneT; rw [if_pos hk0, hg, if_neg (by decide)]
        rw [e1] at hnx
        have step := hnx rfl
        have hne : (delT t l[k].key (s.ver + 1)).2 = 6 := by
          unfold delT
          rw [if_neg (by rw [hit.may]; simp; omega), if_pos hg]
        rw [hne] at hD
        generalize (delT t l[k].key (s.ver + 1)).1 = t9 at hD
        rw [tA_def] at hD
        simp (config := {maxSteps := 4000000, implicitDefEqProofs := false}) (disch := omega) only [go_sem, hlt', hk0, hD, w_i64, zTr, plenumref13_Take_r5_eq]
        exact step
    · have hib : itemB (l[k].it (s.ver + 1)) = true := by
        unfold itemB Edt.it
        simp only [Bool.and_eq_true, decide_eq_true_eq, bne_iff_ne]
        exact ⟨⟨⟨hed, hk0⟩, by omega⟩, by omega⟩
      have hP := rput_s m t (l[k].it (s.ver + 1)) (by omega) hit.ok hit.may hib (hkl _ hmem)
      have e1 : oneT t l[k] (s.ver + 1) = putT t (l[k].it (s.ver + 1)) := by unfold oneT; rw [if_neg hk0]
      rw [e1] at hnx htk
      rw [tA_def, iA_def] at hP
      unfold Edt.it at hP
      dsimp only at hP
      unfold Edt.it at hnx htk
      by_cases he : (putT t ⟨l[k].key, l[k].kind, l[k].i, l[k].s, s.ver + 1⟩).2 = 0
      · have step := hnx he
        rw [he, tA_def] at hP
        simp (config := {maxSteps := 4000000, implicitDefEqProofs := false}) (disch := omega) only [go_sem, hlt', hk0, hP, w_i64, zTr, u_bIt, plenumref13_Take_r5_eq]
        exact step
      · rw [if_neg he] at htk
        have hei : ¬ ((putT t ⟨l[k].key, l[k].kind, l[k].i, l[k].s, s.ver + 1⟩).2 : Int) = 0 := by omega
        rw [tA_def] at hP
        rw [← htk]
        unfold finS takV
        rw [if_neg he]
        simp (config := {maxSteps := 4000000, implicitDefEqProofs := false}) (disch := omega) only [go_sem, hlt', hk0, hP, w_i64, zTr, u_bIt, hei, hkx, stA_def]
        try rfl
  · have hlt' : ¬ (k : Int) < (l.length : Int) := by omega
    have hkl : k = l.length := by omega
    subst hkl
    rw [List.drop_length, takeG] at htk
    rw [← htk, finS, if_pos rfl]
    unfold overQ takV
    have hmt := hit.may
    have e2 : countT t = (allTo t 16).length := by rw [allTo_len]; simp [countT, hmt]
    have e3 : weightT t = weight (allTo t 16) := by rw [← weight_all hmt 16 (Nat.le_refl _)]; simp [weightT, hmt]
    have hW := rweight_s m t (by omega) hit.ok hmt
    have hC := rall_s m t (by omega) hit.ok
    rw [← e3] at hW
    rw [e2]
    rw [tA_def] at hW hC
    dsimp only
    by_cases h1 : s.bytes < (weightT t : Int)
    · rw [if_pos (by simp [h1])]
      simp (config := {maxSteps := 4000000, implicitDefEqProofs := false}) (disch := omega) only [go_sem, hlt', hkx, plenumref13_Take_r4_eq, plenumref13_Take_r6_eq, plenumref13_Take_r7_eq, hW, hC, h1, stA_def]
      try rfl
    · by_cases h2 : s.keys < ((allTo t 16).length : Int)
      · rw [if_pos (by simp [h2])]
        simp (config := {maxSteps := 4000000, implicitDefEqProofs := false}) (disch := omega) only [go_sem, hlt', hkx, plenumref13_Take_r4_eq, plenumref13_Take_r6_eq, plenumref13_Take_r7_eq, hW, hC, h1, h2, stA_def]
        try rfl
      · rw [if_neg (by simp [h1, h2])]
        simp (config := {maxSteps := 4000000, implicitDefEqProofs := false}) (disch := omega) only [go_sem, hlt', hkx, plenumref13_Take_r4_eq, plenumref13_Take_r6_eq, plenumref13_Take_r7_eq, hW, hC, h1, h2, stA_def]
        try rfl
end Go.Proofs.YtoeajbhlkccekaaDoor

namespace Go.Proofs.YtoeajbhlkccekaaDoor
open Go.RowKit
set_option maxRecDepth 20000
attribute [local go_sem] tC_len tC_sure tC_ltA tC_lt1 tC_ro tC_take tC_all1 zcT_eq zcI_len zC_len zC_ltA zC_lt1 zC_sure zC_ro zC_take set_tl set_tv sc_tt sc_zt sc_tz sc_zz add16 tA_def lA_def natInt u_tl u_tv st_take35 st_take stC_len st_sure st_ltA st_lt1 st_ro zcS_eq zS_len zS_sure zS_take zS_ltA zS_ro zS_all1 ss_zs ss_zz u_bS0
theorem rtake_s (m : Nat) (s : St) (l : List Edt) (hm : 40000000 < m) (hlm : l.length < m) (hl : l.length ≤ 34359738368) (h : s.t.Ok) (hi : mayT s.t = true → TInv s.t) (hx : ∀ x ∈ l, NumOk (x.it 0)) (hkl : ∀ x ∈ l, x.key.length ≤ maxLen) :
    plenumref13_Take m (stA s) (SL (l.map eA)) = some (takV (takeS s l), []) := by
  rw [plenumref13_Take_eq]
  have hM := rmayS_s m s (by omega) h
  unfold takeS
  rw [stA_def] at hM ⊢
  cases h1 : mayS s with
  | false =>
    rw [h1] at hM
    rw [if_pos (by rfl)]
    unfold takV
    simp (config := {maxSteps := 4000000, implicitDefEqProofs := false}) (disch := omega) only [go_sem, st_ver, hM, plenumref13_Take_r1_eq, stA_def]
    try rfl
  | true =>
    rw [h1] at hM
    by_cases hv : s.ver = 2147483647
    · rw [if_pos (by simp [hv])]
      unfold takV
      simp (config := {maxSteps := 4000000, implicitDefEqProofs := false}) (disch := omega) only [go_sem, st_ver, hM, hv, plenumref13_Take_r1_eq, stA_def]
      try rfl
    · rw [if_neg (by simp [hv])]
      have hn := mayS_nums h1
      have hinv := hi hn.2.2.2.2.2.2.1
      have hvs : versB s = true := by
        have := h1
        unfold mayS at this
        simp only [Bool.and_eq_true] at this
        exact this.1.1.2
      simp (config := {maxSteps := 4000000, implicitDefEqProofs := false}) (disch := omega) only [go_sem, st_ver, hM, hv, plenumref13_Take_r1_eq, plenumref13_Take_r2_eq]
      refine iter_go (ι := {k : Nat // k ≤ l.length ∧ takeBad k (l.drop k) = takeBad 0 l}) (fun k => ⟨[⟨1, ty_api_Store, 0, stC s⟩, ⟨1, ty_api_Store, 0, zS⟩], [(1, SL (l.map eA)), (2, OP 0 0), (4, OP 1 0), (7, nA k.1)]⟩) (fun k => l.length - k.1) (fun _ => some (takV (match takeBad 0 l with
        | some b => (St.zero, 1, b)
        | none => if (takeG (s.ver + 1) 0 l s.t).2.1 = 0 then (if overQ s (takeG (s.ver + 1) 0 l s.t).1 then (St.zero, 17, l.length) else (⟨(takeG (s.ver + 1) 0 l s.t).1, s.ver + 1, s.bytes, s.keys⟩, 0, 0))
          else (St.zero, (takeG (s.ver + 1) 0 l s.t).2.1, (takeG (s.ver + 1) 0 l s.t).2.2.1)), [])) ?_ ⟨0, Nat.zero_le _, rfl⟩ (by dsimp only; omega)
      rintro kx hkx ⟨k, hk, htk⟩ kc hkc
      dsimp only at hk htk hkc ⊢
      rw [plenumref13_Take_b1_eq]
      by_cases hlt : k < l.length
      · have hlt' : (k : Int) < (l.length : Int) := by omega
        have hmem := List.getElem_mem hlt
        rw [List.drop_eq_getElem_cons hlt, takeBad] at htk
        have hE := redit_s m l[k] (hkl _ hmem)
        rw [show eA l[k] = _ from ed_it l[k]] at hE
        cases hq : editB l[k] with
        | false =>
          rw [hq] at hE htk
          rw [if_neg (by decide)] at htk
          rw [← htk]
          unfold takV
          simp (config := {maxSteps := 4000000, implicitDefEqProofs := false}) (disch := omega) only [go_sem, hlt', u_nthM, ed_it, ed_lenE, hE, hkx, stA_def]
          try rfl
        | true =>
          rw [hq] at hE htk
          rw [if_pos rfl] at htk
          have step := hkc ⟨k + 1, by omega, htk⟩ (by dsimp only; omega)
          dsimp only at step
          simp (config := {maxSteps := 4000000, implicitDefEqProofs := false}) (disch := omega) only [go_sem, hlt', u_nthM, ed_it, ed_lenE, hE, zS_lt1, w_i64]
          exact step
      · have hlt' : ¬ (k : Int) < (l.length : Int) := by omega
        have hkl' : k = l.length := by omega
        subst hkl'
        rw [List.drop_length, takeBad] at htk
        rw [← htk]
        have hr := rtake2 m s l ⟨0, 0, 0, []⟩ hm hlm hl hinv hx (by omega) (by omega) hvs (takeBad_none htk.symm) hkl
        unfold finS at hr
        simp (config := {maxSteps := 4000000, implicitDefEqProofs := false}) (disch := omega) only [go_sem, hlt', hkx, hr]
def Edt.one (x : Edt) : Edt := ⟨(x.it 0).one.key, x.kind, x.i, (x.it 0).one.s⟩
def editsL (l : List Edt) : List Edt := (l.take 90).map Edt.one
theorem u_bIt0 {R : Type} {K1 : AV → Option R} {k s : ByteArray} {a b : Int} : buildE (some pl_api_Item) (some zc_api_Item) [(0, V (.string k)), (1, .agg [V (.int .i64 a), V (.int .i64 b), V (.string s)])] K1 = K1 (.agg [V (.string k), V (.int .i64 a), V (.int .i64 b), V (.string s), V (.int .i64 0)]) := _root_.id rfl
theorem u_bIt0' {R : Type} {K1 : AV → Option R} {k s : ByteArray} {a b : Int} : buildE (some pl_api_Item) (some [V (.string ⟨#[]⟩), V (.int .i64 0), V (.int .i64 0), V (.string ⟨#[]⟩), V (.int .i64 0)]) [(0, V (.string k)), (1, .agg [V (.int .i64 a), V (.int .i64 b), V (.string s)])] K1 = K1 (.agg [V (.string k), V (.int .i64 a), V (.int .i64 b), V (.string s), V (.int .i64 0)]) := _root_.id rfl
theorem editsN_s (m : Nat) (l : List Edt) (hm : l.length < m) (hl : l.length ≤ 90) : plenumlaw13_edits_r1 m ⟨[], [(0, SL (l.map eA))]⟩ = some (SL ((l.map Edt.one).map eA), []) := by
  rw [plenumlaw13_edits_r1_eq]
  simp (config := {maxSteps := 4000000, implicitDefEqProofs := false}) (disch := omega) only [go_sem, ]
  refine iter_go (ι := {k : Nat // k ≤ l.length}) (fun k => ⟨[⟨2, ty_api_Edit, 4, ((l.take k.1).map Edt.one).map (flA Edt.cells)⟩], [(0, SL (l.map eA)), (3, OW 0 k.1), (4, nA k.1)]⟩) (fun k => l.length - k.1) (fun _ => some (SL ((l.map Edt.one).map eA), [])) ?_ ⟨0, Nat.zero_le _⟩ (by dsimp only; omega)
  rintro kx hkx ⟨k, hk⟩ kc hkc
  dsimp only at hk hkc ⊢
  rw [plenumlaw13_edits_b1_eq]
  by_cases hlt : k < l.length
  · have hlt' : (k : Int) < (l.length : Int) := by omega
    have hO := plenumlaw10_One_e m (l[k].it 0)
    rw [iA_def, iA_def] at hO
    unfold Edt.it at hO
    dsimp only at hO
    have step := hkc ⟨k + 1, by omega⟩ (by dsimp only; omega)
    dsimp only at step
    rw [List.take_succ_eq_append_getElem hlt, List.map_append, List.map_append] at step
    have hkm : k ≤ 34359738367 := by omega
    simp (config := {maxSteps := 4000000, implicitDefEqProofs := false}) (disch := omega) only [go_sem, hlt', u_nthM, ed_it, ed_lenE, u_bIt0, u_bIt0', hO, zcI0, u_bE1, ed_all, ed_allA, hkm, w_i64, List.length_take, Nat.min_eq_left]
    exact step
  · have hlt' : ¬ (k : Int) < (l.length : Int) := by omega
    have : k = l.length := by omega
    subst this
    simp (config := {maxSteps := 4000000, implicitDefEqProofs := false}) (disch := omega) only [go_sem, hlt', hkx, plenumlaw13_edits_r2_eq, List.length_take, List.take_length]
theorem edits_s (m : Nat) (l : List Edt) (hm : 90 < m) (hl : l.length ≤ maxLen) : plenumlaw13_edits m (SL (l.map eA)) = some (SL ((editsL l).map eA), []) := by
  rw [plenumlaw13_edits_eq]
  unfold editsL
  by_cases h : 90 < l.length
  · have h' : (90 : Int) < (l.length : Int) := by omega
    have hq := editsN_s m (l.take 90) (by simp; omega) (by simp; omega)
    have hc : cutE (l.map eA) 0 90 = (l.take 90).map eA := by
      unfold cutE
      show ((l.map eA).take 90).drop 0 = _
      rw [List.drop_zero, List.map_take]
    simp (config := {maxSteps := 4000000, implicitDefEqProofs := false}) (disch := omega) only [go_sem, h', hc, hq]
    have ha : (l.all fun x => decide ((cellsOf (eA x)).length = 4)) = true := ed_all
    rw [ha, whenE_t, decide_eq_true (by omega), whenE_t]
  · have h' : ¬ (90 : Int) < (l.length : Int) := by omega
    have hq := editsN_s m l (by omega) (by omega)
    rw [List.take_of_length_le (by omega)]
    simp (config := {maxSteps := 4000000, implicitDefEqProofs := false}) (disch := omega) only [go_sem, h', hq]
theorem one_inv2 {x : Edt} (h : NumOk (x.it 0)) : NumOk (x.one.it 0) := h
theorem edits_ok {l : List Edt} (h : ∀ x ∈ l, NumOk (x.it 0)) : (∀ x ∈ editsL l, NumOk (x.it 0)) ∧ (editsL l).length ≤ 90 ∧ ∀ x ∈ editsL l, x.key.length ≤ maxLen := by
  refine ⟨fun x hx => ?_, by simp [editsL]; omega, fun x hx => ?_⟩
  · obtain ⟨y, hy, rfl⟩ := List.mem_map.1 hx
    exact one_inv2 (h y (List.mem_of_mem_take hy))
  · obtain ⟨y, hy, rfl⟩ := List.mem_map.1 hx
    show (y.key.take 60).length ≤ _
    rw [List.length_take]
    exact Nat.le_trans (Nat.min_le_left _ _) (by decide)
theorem one_one (x : Item) : x.one.one = x.one := by simp [Item.one, List.take_take]
theorem fewL_few (l : List Item) : fewL (fewL l) = fewL l := by
  unfold fewL
  rw [List.take_of_length_le (by simp; omega), List.map_map]
  exact List.map_congr_left fun x _ => one_one x
theorem few_few (t : Tr) : (fewT (fewT t 16) 16).Eq16 (fewT t 16) := fun i hi => by
  simp only [fewT, hi, if_true]
  exact ⟨fewL_few _, trivial⟩
theorem fewfew (s : St) : stA (fewSt (fewSt s)) = stA (fewSt s) := stA_eq ⟨few_few s.t, rfl, rfl, rfl⟩
theorem few_in {t : Tr} (h : t.In) : (fewT t 16).In := fun i => by
  have hk := few_ok h i
  refine ⟨Nat.le_trans hk.1 (by decide), fun x hx => (hk.2.1 x hx).2, fun hi => ?_⟩
  have : ¬ i < 16 := by omega
  simp only [fewT, this, if_false]
  exact (h i).2.2 hi
theorem takes_s (m : Nat) (s : St) (l : List Edt) (hm : 40000000 < m) (h : s.t.In) (hl : l.length ≤ maxLen) (hx : ∀ x ∈ l, NumOk (x.it 0)) : plenumlaw13_StoreTakes m (stA s) (SL (l.map eA)) = some (bA true, []) := by
  rw [plenumlaw13_StoreTakes_eq]
  have hF := few13b_s m s h
  have hF2 := few13b_s m (fewSt s) (few_in h)
  rw [fewfew] at hF2
  have hE := edits_s m l (by omega) hl
  obtain ⟨o1, o2, o3⟩ := edits_ok hx
  have hok : (fewSt s).t.Ok := few_ok h
  have hinv : mayT (fewSt s).t = true → TInv (fewSt s).t := fun q => few_inv h q
  have hT := store_TakeQ_e m (fewSt s) (editsL l) hok hinv o1 (by omega)
  have hR := rtake_s m (fewSt s) (editsL l) hm (by omega) (by omega) hok hinv o1 o3
  have hA := awake13_s m hm
  have hti : ∀ i, ((takeS (fewSt s) (editsL l)).1.t.leaf i).length ≤ 34359738368 := (takeS_inv hinv o1).ok.len2
  generalize takeS (fewSt s) (editsL l) = r at hT hR hti
  have hS := rsameS_s m r.1 r.1 (by omega) hti hti
  have hS2 := rsameS_s m (fewSt s) (fewSt s) (by omega) hok.len2 hok.len2
  rw [sameS_self] at hS hS2
  unfold takV at hT hR
  generalize fewSt s = u at *
  generalize editsL l = k at *
  rw [stA_def] at hF hF2 hT hR hS hS2 ⊢
  rw [stA_def] at hF hT hR
  simp (config := {maxSteps := 4000000, implicitDefEqProofs := false}) (disch := omega) only [go_sem, hF, hF2, hE, hT, hR, hS, hS2, hA, ss_set]
end Go.Proofs.YtoeajbhlkccekaaDoor

namespace Go.Proofs.YtoeajbhlkccekaaDoor
open Go.RowKit
set_option maxRecDepth 100000
theorem gok_sig {W : World} (h : Sig W) : GOk GG (SW W) := by
  intro g d hg j y hy
  simp only [GG, List.mem_singleton, Prod.mk.injEq] at hg
  obtain ⟨rfl, rfl⟩ := hg
  match j with
  | 0 => simp [cellsOf] at hy; subst hy; exact ⟨1, _, h.2.1, rfl, rfl, rfl⟩
  | 1 => simp [cellsOf] at hy; subst hy; exact ⟨1, _, h.2.2, rfl, rfl, rfl⟩
  | j + 2 => simp [cellsOf] at hy
theorem ofT_val {n : Nat} {ds : List AV} (h : ofT Tryd.prog n 43 ds) : ∃ (k i : Int) (s : Bytes), ds = [nA k, nA i, sA s] ∧ (-9223372036854775808 ≤ i ∧ i < 9223372036854775808) ∧ s.length ≤ maxLen := by
  obtain ⟨m, a1, b1, rfl, h1, a2, b2, rfl, h2, a3, b3, rfl, h3, rfl⟩ := ofT_struct Tryd.underlying43 h
  obtain ⟨k, rfl, _⟩ := ofT_i64 Tryd.underlying3 h1
  obtain ⟨i, rfl, hi⟩ := ofT_i64 Tryd.underlying2 h2
  obtain ⟨s, rfl, hs⟩ := ofT_str Tryd.underlying9 h3
  exact ⟨k, i, s, rfl, hi, hs⟩
theorem ofT_item {n : Nat} {ds : List AV} (h : ofT Tryd.prog n 58 ds) : ∃ x : Item, ds = x.cells.map (fun u => V u) ∧ ItemIn x := by
  obtain ⟨m, a1, b1, rfl, h1, a2, b2, rfl, h2, a3, b3, rfl, h3, rfl⟩ := ofT_struct Tryd.underlying58 h
  obtain ⟨k, rfl, hk⟩ := ofT_str Tryd.underlying9 h1
  obtain ⟨kd, i, s, rfl, hi, hs⟩ := ofT_val h2
  obtain ⟨v, rfl, _⟩ := ofT_i64 Tryd.underlying3 h3
  exact ⟨⟨k, kd, i, s, v⟩, rfl, hk, hs, hi⟩
theorem agg_item : aggT Tryd.prog 58 = true := by kernel_rfl
theorem ofT_items {n : Nat} {ds : List AV} (h : ofT Tryd.prog n 22 ds) : ∃ l : List Item, ds = [lA l] ∧ l.length ≤ maxLen ∧ ∀ x ∈ l, ItemIn x := by
  obtain ⟨m, es, rfl, hl, he⟩ := ofT_slice Tryd.underlying22 h
  obtain ⟨l, rfl, hi⟩ := list_of (f := flA Item.cells) (Q := ItemIn) fun x hx => by
    obtain ⟨q1, q2⟩ := he x hx
    obtain ⟨y, hy, hi⟩ := ofT_item q1
    exact ⟨y, by rw [cells_agg (q2.trans agg_item), hy]; rfl, hi⟩
  exact ⟨l, rfl, by simpa using hl, hi⟩
theorem flat_one {α β : Type} {f : β → α} {k : List β} : (k.map fun y => [f y]).flatten = k.map f := by
  induction k with
  | nil => rfl
  | cons x r ih => simp [ih]
theorem map_get {α β : Type} (f : α → β) (l : List α) (d : α) : l.map f = (List.range l.length).map fun i => f (l.getD i d) := by
  refine List.ext_getElem (by simp) fun i h1 h2 => ?_
  simp only [List.length_map] at h1
  simp [List.getElem_map, h1]
theorem ofT_trunk {n : Nat} {ds : List AV} (h : ofT Tryd.prog n 26 ds) : ∃ t : Tr, ds = tC t ∧ t.In := by
  obtain ⟨m, a1, b1, rfl, h1, a2, b2, rfl, h2, rfl⟩ := ofT_struct Tryd.underlying26 h
  obtain ⟨m1, ps, hp, rfl, hq⟩ := ofT_array Tryd.underlying23 h1
  obtain ⟨m2, qs, hp2, rfl, hq2⟩ := ofT_array Tryd.underlying24 h2
  obtain ⟨L, rfl, hL⟩ := list_of (f := fun l : List Item => [lA l]) (Q := fun l => l.length ≤ maxLen ∧ ∀ x ∈ l, ItemIn x) fun x hx => ofT_items (hq x hx)
  obtain ⟨Z, rfl, hZ⟩ := list_of (f := fun z : Int => [nA z]) (Q := fun _ => True) fun x hx => by
    obtain ⟨i, e, _⟩ := ofT_i64 Tryd.underlying3 (hq2 x hx)
    exact ⟨i, e, trivial⟩
  rw [List.length_map] at hp hp2
  refine ⟨⟨fun i => L.getD i [], fun i => Z.getD i 0⟩, ?_, fun i => ?_⟩
  · rw [List.append_nil, flat_one, flat_one, map_get lA L [], map_get nA Z 0, hp, hp2]
    rfl
  · dsimp only
    by_cases hi : i < L.length
    · have e : L.getD i [] = L[i] := by simp [hi]
      have hm := hL L[i] (List.getElem_mem hi)
      rw [e]
      exact ⟨hm.1, fun x hx => (hm.2 x hx).2.2, fun q => by omega⟩
    · have e : L.getD i [] = [] := by simp [List.getD, List.getElem?_eq_none (Nat.le_of_not_lt hi)]
      rw [e]
      exact ⟨Nat.zero_le _, (by intro x hx; cases hx), fun _ => rfl⟩
theorem ofT_store {n : Nat} {ds : List AV} (h : ofT Tryd.prog n 28 ds) : ∃ s : St, ds = stC s ∧ s.t.In := by
  obtain ⟨m, a1, b1, rfl, h1, a2, b2, rfl, h2, a3, b3, rfl, h3, a4, b4, rfl, h4, rfl⟩ := ofT_struct Tryd.underlying28 h
  obtain ⟨t, rfl, ht⟩ := ofT_trunk h1
  obtain ⟨v, rfl, _⟩ := ofT_i64 Tryd.underlying3 h2
  obtain ⟨b, rfl, _⟩ := ofT_i64 Tryd.underlying3 h3
  obtain ⟨k, rfl, _⟩ := ofT_i64 Tryd.underlying3 h4
  exact ⟨⟨t, v, b, k⟩, rfl, ht⟩
theorem mk_store {ds : List AV} : mkA Tryd.prog 28 ds = .agg ds := by
  unfold mkA
  rw [if_pos (show aggT Tryd.prog 28 = true by kernel_rfl)]
theorem ofT_edit {n : Nat} {ds : List AV} (h : ofT Tryd.prog n 47 ds) : ∃ x : Edt, ds = x.cells.map (fun u => V u) ∧ (x.key.length ≤ maxLen ∧ x.s.length ≤ maxLen ∧ NumOk (x.it 0)) := by
  obtain ⟨m, a1, b1, rfl, h1, a2, b2, rfl, h2, rfl⟩ := ofT_struct Tryd.underlying47 h
  obtain ⟨k, rfl, hk⟩ := ofT_str Tryd.underlying9 h1
  obtain ⟨kd, i, s, rfl, hi, hs⟩ := ofT_val h2
  exact ⟨⟨k, kd, i, s⟩, rfl, hk, hs, hi⟩
theorem agg_edit : aggT Tryd.prog 47 = true := by kernel_rfl
def EdIn (x : Edt) : Prop := x.key.length ≤ maxLen ∧ x.s.length ≤ maxLen ∧ NumOk (x.it 0)
theorem ofT_edits {n : Nat} {ds : List AV} (h : ofT Tryd.prog n 29 ds) : ∃ l : List Edt, ds = [SL (l.map eA)] ∧ l.length ≤ maxLen ∧ ∀ x ∈ l, EdIn x := by
  obtain ⟨m, es, rfl, hl, he⟩ := ofT_slice Tryd.underlying29 h
  obtain ⟨l, rfl, hi⟩ := list_of (f := flA Edt.cells) (Q := EdIn) fun x hx => by
    obtain ⟨q1, q2⟩ := he x hx
    obtain ⟨y, hy, hi⟩ := ofT_edit q1
    exact ⟨y, by rw [cells_agg (q2.trans agg_edit), hy]; rfl, hi⟩
  exact ⟨l, rfl, by simpa using hl, hi⟩
theorem mk_edits {d : AV} : mkA Tryd.prog 29 [d] = d := by
  unfold mkA
  rw [if_neg (by rw [show aggT Tryd.prog 29 = false by kernel_rfl]; decide)]
  rfl
theorem arg_store {W : World} {v : Value} (h : Arg Tryd.prog W 28 v) : ∃ s : St, s.t.In ∧ rep (SW W) [] (stA s) v := by
  obtain ⟨n, ds, h1, h2⟩ := h
  obtain ⟨t, rfl, ht⟩ := ofT_store h1
  rw [mk_store] at h2
  exact ⟨t, ht, h2⟩
theorem arg_edits {W : World} {v : Value} (h : Arg Tryd.prog W 29 v) : ∃ l : List Edt, (l.length ≤ maxLen ∧ ∀ x ∈ l, EdIn x) ∧ rep (SW W) [] (SL (l.map eA)) v := by
  obtain ⟨n, ds, h1, h2⟩ := h
  obtain ⟨t, rfl, ht⟩ := ofT_edits h1
  rw [mk_edits] at h2
  exact ⟨t, ht, h2⟩
theorem reps2 {S : SS} {d0 d1 : AV} {v0 v1 : Value} (h0 : rep S [] d0 v0) (h1 : rep S [] d1 v1) : ∀ (j : Nat) (d : AV) (v : Value), [d0, d1][j]? = some d → [v0, v1][j]? = some v → rep S [] d v := by
  intro j d v hd hv
  match j with
  | 0 => simp at hd hv; subst hd hv; exact h0
  | 1 => simp at hd hv; subst hd hv; exact h1
  | j + 2 => simp at hd
theorem walk_StoreTakes (W : World) (hS : Sig W) (v0 : Value) (h0 : Arg Tryd.prog W 28 v0) (v1 : Value) (h1 : Arg Tryd.prog W 29 v1) :
    Calls Tryd.prog 3 #[v0, v1] W fun e W' => e = .returned (.bool true) ∧ Below W.heap.size W W' := by
  obtain ⟨s, hs, r0⟩ := arg_store h0
  obtain ⟨l, ⟨hl, hx⟩, r1⟩ := arg_edits h1
  exact run_tells (plenumlaw13_StoreTakes_ok 40000001 [_, _] _ _ (takes_s _ s l (by omega) hs hl fun x hx' => (hx x hx').2.2)) (gok_sig hS) (vs := [v0, v1]) rfl (reps2 r0 r1)
end Go.Proofs.YtoeajbhlkccekaaDoor
