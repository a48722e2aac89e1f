/-
  Texts laid together, part 7 of 7: laws of a walk over data, contracts of functions, each whole by itself.
-/
import Derived.Test.YtoeajbhlkccekaaDoorMgf
import Derived.Test.YtoeajbhlkccekaaDoorMge
import Derived.Test.YtoeajbhlkccekaaDoorMgb
import Derived.Test.YtoeajbhlkccekaaDoorMga
import Derived.Shelf.Spec.SlicesInsert
import Derived.Lib.AppendZerosOnto
import Derived.Laws.CopyRow
import Derived.Test.YtoeajbhlkccekaaDoorMgd
import Derived.StillTail
set_option maxRecDepth 100000
set_option linter.unusedVariables false
set_option linter.unusedSimpArgs false
namespace Go.Proofs.YtoeajbhlkccekaaDoor
open Go.RowKit
attribute [local go_sem] tC_len tC_sure tC_ltA tC_lt1 tC_ro tC_take tC_all1 zcT_eq zcI_len zC_len zC_ltA zC_lt1 zC_sure zC_ro zC_take set_tl set_tv sc_tt sc_zt sc_tz sc_zz add16 tA_def lA_def natInt u_tl u_tv st_take35 st_take stC_len st_sure st_ltA st_lt1 st_ro zcS_eq zS_len zS_sure zS_take zS_ltA zS_ro zS_all1 ss_zs ss_zz u_bS0
theorem runM_len {lo hi : Bytes} {most : Int} : ∀ (n : Nat) (u : Tr) (acc : List Item),(runM lo hi most n u acc).length ≤ acc.length + n
 |0,u,acc=>Nat.le_refl _
 |n + 1,u,acc=>by
  unfold runM
  split
  ·omega
  ·split
   ·omega
   ·have := runM_len (lo := lo) (hi := hi) (most := most) n (pop u (leastT u).toNat) (takeX lo (hdK u (leastT u).toNat) acc)
    have h2 : (takeX lo (hdK u (leastT u).toNat) acc).length ≤ acc.length + 1 := by
     unfold takeX
     split
     ·omega
     ·simp
    omega
theorem scanR_len {lo hi : Bytes} {most : Int} {t : Tr} (h : t.Ok) : (scanR lo hi most t).length ≤ 16000000 := by
 unfold scanR
 split
 ·have := runM_len (lo := lo) (hi := hi) (most := most) (cntT t) t []
  have h2 := cnt_le h
  unfold scanT
  simp at this
  omega
 ·simp
def undoR (p q : St) : List Edt := if mayS p && mayS q then undoN ((scanR [] [] 1024 p.t).length + (scanR [] [] 1024 q.t).length) (scanR [] [] 1024 p.t) (scanR [] [] 1024 q.t) [] else []
theorem undo_s (m : Nat) (p q : St) (hm : 40000000 < m) (hp : p.t.Ok) (hq : q.t.Ok) : store_Undo m (stA p) (stA q) = some (TU [SL ((undoR p q).map eA),nA (if mayS p && mayS q then 0 else 1)],[]) := by
 rw [store_Undo_eq]
 have h1 := smay_s m p (by omega) hp
 have h2 := smay_s m q (by omega) hq
 have s1 := span_ScanQ_e m p.t [] [] 1024 hp
 have s2 := span_ScanQ_e m q.t [] [] 1024 hq
 rw [tA_def] at s1 s2
 unfold undoR
 rw [stA_def] at h1 h2 ⊢
 rw [stA_def]
 cases e1 : mayS p with
 |false =>
  rw [e1] at h1
  simp (config := {maxSteps := 4000000,implicitDefEqProofs := false}) (disch := omega) only [go_sem,h1,store_Undo_r1_eq]
  try rfl
 |true =>
  rw [e1] at h1
  cases e2 : mayS q with
  |false =>
   rw [e2] at h2
   simp (config := {maxSteps := 4000000,implicitDefEqProofs := false}) (disch := omega) only [go_sem,h1,h2,store_Undo_r1_eq]
   try rfl
  |true =>
   rw [e2] at h2
   have hl1 := scanR_len (lo := []) (hi := []) (most := 1024) hp
   have hl2 := scanR_len (lo := []) (hi := []) (most := 1024) hq
   simp (config := {maxSteps := 4000000,implicitDefEqProofs := false}) (disch := omega) only [go_sem,h1,h2,store_Undo_r1_eq,store_Undo_r2_eq,s1,s2]
   refine (undo_loop m p q (scanR [] [] 1024 p.t) (scanR [] [] 1024 q.t) (by omega) (by omega) (fun _=>none) _ ?_).trans ?_
   ·intro acc
    show blockX 0 (seqX (fun s=>store_Undo_r3 m ⟨s.H,[(10,gt s.T 10)]⟩) store_Undo_fin) (.exit 0) ⟨_,[(10,OW 2 acc.length)]⟩ = _
    simp (config := {maxSteps := 4000000,implicitDefEqProofs := false}) (disch := omega) only [go_sem,store_Undo_r3_eq]
   ·rfl
def SEq (s u : St) : Prop := s.t.Eq16 u.t ∧ s.ver = u.ver ∧ s.bytes = u.bytes ∧ s.keys = u.keys
theorem stA_inj {s u : St} (h : stA s = stA u) : SEq s u := by
 rw [stA_def,stA_def] at h
 injection h with h
 have h1 : tC s.t = tC u.t := by
  have := congrArg (List.take 32) h
  rwa [st_take,st_take] at this
 have h2 : s.tail = u.tail := by
  have := congrArg (List.drop 32) h
  unfold stC at this
  rwa [List.drop_left' tC_len,List.drop_left' tC_len] at this
 refine ⟨tA_inj (by rw [tA_def,tA_def,h1]),?_⟩
 unfold St.tail at h2
 injection h2 with a h2
 injection h2 with b h2
 injection h2 with c _
 exact ⟨nA_inj a,nA_inj b,nA_inj c⟩
theorem stA_eq {s u : St} (h : SEq s u) : stA s = stA u := by
 obtain ⟨h1,h2,h3,h4⟩ := h
 have e := tA_eq h1
 rw [tA_def,tA_def] at e
 injection e with e
 rw [stA_def,stA_def]
 unfold stC St.tail
 rw [e,h2,h3,h4]
theorem mayS_eq {s u : St} (h : SEq s u) : mayS s = mayS u := by
 obtain ⟨h1,h2,h3,h4⟩ := h
 unfold mayS versB
 rw [mayT_eq h1,h2,h3,h4,weightT_eq h1,countT_eq h1]
 rw [all_range_congr (f := fun i=>decide (s.t.ver i ≤ u.ver)) (g := fun i=>decide (u.t.ver i ≤ u.ver)) fun i hi=>by rw [(h1 i hi).2]]
theorem oneT_eq {t u : Tr} (h : t.Eq16 u) (x : Edt) (v : Int) : tA (oneT t x v).1 = tA (oneT u x v).1 ∧ (oneT t x v).2 = (oneT u x v).2 := by
 unfold oneT
 rw [getT_eq h]
 split
 ·split
  ·exact delT_eq h x.key v
  ·exact ⟨tA_eq h,rfl⟩
 ·exact putT_eq h _
theorem takeG_eq {v : Int} : ∀ (l : List Edt) (k : Nat) {t u : Tr} (h : t.Eq16 u),tA (takeG v k l t).1 = tA (takeG v k l u).1 ∧ (takeG v k l t).2 = (takeG v k l u).2
 |[],k,t,u,h=>⟨tA_eq h,rfl⟩
 |x :: r,k,t,u,h=>by
  obtain ⟨e1,e2⟩ := oneT_eq h x v
  unfold takeG
  rw [e2]
  split
  ·exact takeG_eq r (k + 1) (tA_inj e1)
  ·exact ⟨tA_eq h,rfl⟩
theorem takeS_eq {s u : St} (h : SEq s u) (l : List Edt) : takV (takeS s l) = takV (takeS u l) := by
 have hM := mayS_eq h
 obtain ⟨h1,h2,h3,h4⟩ := h
 obtain ⟨e1,e2⟩ := takeG_eq (v := s.ver + 1) l 0 h1
 have e3 := tA_inj e1
 have eO : overQ s (takeG (s.ver + 1) 0 l s.t).1 = overQ u (takeG (s.ver + 1) 0 l u.t).1 := by
  unfold overQ
  rw [weightT_eq e3,countT_eq e3,h3,h4]
 unfold takeS
 rw [hM,h2] at *
 split
 ·rfl
 ·split
  ·rfl
  ·rw [e2,eO]
   split
   ·split
    ·rfl
    ·have : SEq ⟨(takeG (u.ver + 1) 0 l s.t).1,u.ver + 1,s.bytes,s.keys⟩ ⟨(takeG (u.ver + 1) 0 l u.t).1,u.ver + 1,u.bytes,u.keys⟩ := ⟨e3,rfl,h3,h4⟩
     unfold takV
     rw [stA_eq this]
   ·rfl
theorem ed_inj {x y : Edt} (h : flA Edt.cells x = flA Edt.cells y) : x = y := by
 obtain ⟨k1,d1,i1,s1⟩ := x
 obtain ⟨k2,d2,i2,s2⟩ := y
 rw [ed_it,ed_it] at h
 simp only [DataW.agg.injEq,List.cons.injEq,DataW.held.injEq,Sum.inl.injEq,Value.string.injEq,Value.int.injEq,ByteArray.mk.injEq,Array.mk.injEq,true_and,and_true] at h
 obtain ⟨h1,h2,h3,h4⟩ := h
 have h1 : k1 = k2 := by simpa using h1
 have h4 : s1 = s2 := by simpa using h4
 subst h1 h2 h3 h4
 rfl
noncomputable def store_TakeQ_t (m : Nat) : List AV → RO := orac (ι := St × List Edt) (fun p=>[stA p.1,SL (p.2.map eA)]) (fun p=>takV (takeS p.1 p.2)) (fun p=>p.1.t.Ok ∧ (mayT p.1.t = true → TInv p.1.t) ∧ (∀ x ∈ p.2,NumOk (x.it 0)) ∧ p.2.length ≤ 34359738368)
theorem store_TakeQ_ok (m : Nat) : ∀ args X H',store_TakeQ_t m args = some (X,H') → ACp Tryd.prog GG 10 args X := orac_ok (by
 rintro ⟨s,l⟩ ⟨h1,h2,h3,h4⟩
 exact take_acp h1 h2 h3 h4)
theorem store_TakeQ_e (m : Nat) (s : St) (l : List Edt) (h : s.t.Ok) (hi : mayT s.t = true → TInv s.t) (hx : ∀ x ∈ l,NumOk (x.it 0)) (hl : l.length ≤ 34359738368) : store_TakeQ_t m [stA s,SL (l.map eA)] = some (takV (takeS s l),[]) := orac_eq (ι := St × List Edt) (by
 rintro ⟨s,l⟩ ⟨u,k⟩ e
 dsimp only at e ⊢
 simp only [List.cons.injEq,and_true] at e
 obtain ⟨e1,e2⟩ := e
 injection e2 with e2
 have := map_inj (fun _ _=>ed_inj) e2
 subst this
 exact takeS_eq (stA_inj e1) l) (i := (s,l)) ⟨h,hi,hx,hl⟩
end Go.Proofs.YtoeajbhlkccekaaDoor

namespace Go.Proofs.YtoeajbhlkccekaaDoor
open Go.RowKit
attribute [local go_sem] tC_len tC_sure tC_ltA tC_lt1 tC_ro tC_take tC_all1 zcT_eq zcI_len zC_len zC_ltA zC_lt1 zC_sure zC_ro zC_take set_tl set_tv sc_tt sc_zt sc_tz sc_zz add16 tA_def lA_def natInt u_tl u_tv st_take35 st_take stC_len st_sure st_ltA st_lt1 st_ro zcS_eq zS_len zS_sure zS_take zS_ltA zS_ro zS_all1 ss_zs ss_zz u_bS0
def newS (b k : Int) : St := ⟨Tr.zero,0,b,k⟩
def zSb (b k : Int) : List AV := zC ++ [nA 0,nA b,nA k]
section
variable {R : Type} {b k : Int} {n : Nat} {K1 : AV → Option R} {H : List AObj}
theorem zSb_len : (zSb b k).length = 35 := _root_.id rfl
theorem zSb_sure : (zSb b k).all sure = true := _root_.id rfl
theorem zSb_ltA : (zSb b k).all (ltA n) = true := _root_.id rfl
theorem zSb_all1 : ((zSb b k).all fun x=>lt1 n (ro1 H x)) = true := _root_.id rfl
theorem zSb_ro : (zSb b k).map (ro1 H) = stC (newS b k) := _root_.id rfl
theorem zSb_take : (zSb b k).take 35 = zSb b k := _root_.id rfl
theorem zSb_set : setCells zS 0 (zSb b k) = zSb b k := set_all rfl
theorem u_bSb : buildE (some pl_api_Store) (some zS) [(2,V (.int .i64 b)),(3,V (.int .i64 k))] K1 = K1 (.agg (zSb b k)) := _root_.id rfl
end
def newR (b k : Int) : St × Nat := if mayS (newS b k) then (newS b k,0) else (St.zero,1)
theorem new_s (m : Nat) (b k : Int) (hm : 1000000 < m) : store_New m (nA b) (nA k) = some (TU [stA (newR b k).1,nA (newR b k).2],[]) := by
 rw [store_New_eq]
 have hM := smay_s m (newS b k) hm ok_zero
 unfold newR
 rw [stA_def] at hM ⊢
 cases h1 : mayS (newS b k) with
 |false =>
  rw [h1] at hM
  simp (config := {maxSteps := 4000000,implicitDefEqProofs := false}) (disch := omega) only [go_sem,zSb_len,zSb_sure,zSb_ltA,zSb_take,zSb_ro,zSb_set,u_bSb,hM,zSb_all1,stA_def]
  try rfl
 |true =>
  rw [h1] at hM
  simp (config := {maxSteps := 4000000,implicitDefEqProofs := false}) (disch := omega) only [go_sem,zSb_len,zSb_sure,zSb_ltA,zSb_take,zSb_ro,zSb_set,u_bSb,hM,zSb_all1,stA_def]
  try rfl
def roomR (s : St) : Int × Int := if mayS s then (s.bytes - weightT s.t,s.keys - countT s.t) else (0,0)
theorem mayS_nums {s : St} (h : mayS s = true) : 0 ≤ s.ver ∧ s.ver ≤ 2147483647 ∧ 0 ≤ s.bytes ∧ s.bytes ≤ 65536 ∧ 0 ≤ s.keys ∧ s.keys ≤ 1024 ∧ mayT s.t = true ∧ (weightT s.t : Int) ≤ s.bytes ∧ (countT s.t : Int) ≤ s.keys := by
 unfold mayS inB at h
 simp only [Bool.and_eq_true,decide_eq_true_eq] at h
 exact ⟨h.1.1.1.1.1.2.1,h.1.1.1.1.1.2.2,h.1.1.1.1.2.1,h.1.1.1.1.2.2,h.1.1.1.2.1,h.1.1.1.2.2,h.1.1.1.1.1.1,h.1.2,h.2⟩
theorem room_s (m : Nat) (s : St) (hm : 1000000 < m) (h : s.t.Ok) : store_Room m (stA s) = some (TU [nA (roomR s).1,nA (roomR s).2],[]) := by
 rw [store_Room_eq]
 have hM := smay_s m s hm h
 have hW := trunk_Weight_e m s.t h
 have hC := trunk_Count_e m s.t h
 rw [tA_def] at hW hC
 unfold roomR
 rw [stA_def] at hM ⊢
 cases h1 : mayS s with
 |false =>
  rw [h1] at hM
  simp (config := {maxSteps := 4000000,implicitDefEqProofs := false}) (disch := omega) only [go_sem,hM]
  try rfl
 |true =>
  rw [h1] at hM
  have hn := mayS_nums h1
  have w1 : IntKind.i64.wrap (s.bytes - (weightT s.t : Int)) = s.bytes - (weightT s.t : Int) := w_i64 (by omega) (by omega)
  have w2 : IntKind.i64.wrap (s.keys - (countT s.t : Int)) = s.keys - (countT s.t : Int) := w_i64 (by omega) (by omega)
  simp (config := {maxSteps := 4000000,implicitDefEqProofs := false}) (disch := omega) only [go_sem,st_bytes,st_keys,hM,hW,hC,w1,w2]
  try rfl
def getR (s : St) (k : Bytes) : Item × Nat := if mayS s then (if keyB k then (if (getT s.t k).isSome then ((getT s.t k).getD Item.zero,0) else (Item.zero,6)) else (Item.zero,3)) else (Item.zero,1)
def valV (x : Item) : AV := .agg [V (.int .i64 x.kind),V (.int .i64 x.i),V (.string ⟨x.s.toArray⟩)]
theorem zcV0 : zc_api_Value = [V (.int .i64 0),V (.int .i64 0),V (.string ⟨#[]⟩)] := _root_.id rfl
theorem u_bV0 {R : Type} {K1 : AV → Option R} : buildE (some pl_api_Value) (some [V (.int .i64 0),V (.int .i64 0),V (.string ⟨#[]⟩)]) [] K1 = K1 (.agg [V (.int .i64 0),V (.int .i64 0),V (.string ⟨#[]⟩)]) := _root_.id rfl
theorem get_s (m : Nat) (s : St) (k : Bytes) (hm : 1000000 < m) (h : s.t.Ok) : store_Get m (stA s) (sA k) = some (TU [valV (getR s k).1,nA (getR s k).1.ver,nA (getR s k).2],[]) := by
 rw [store_Get_eq]
 have hM := smay_s m s hm h
 have hK := key_Is_e m k
 have hG := trunk_Get_e m s.t k h
 rw [tA_def] at hG
 unfold getR valV
 rw [stA_def] at hM ⊢
 cases h1 : mayS s with
 |false =>
  rw [h1] at hM
  simp (config := {maxSteps := 4000000,implicitDefEqProofs := false}) (disch := omega) only [go_sem,hM,zcV0,u_bV0]
  try rfl
 |true =>
  rw [h1] at hM
  cases h2 : keyB k with
  |false =>
   rw [h2] at hK
   simp (config := {maxSteps := 4000000,implicitDefEqProofs := false}) (disch := omega) only [go_sem,hM,hK,zcV0,u_bV0]
   try rfl
  |true =>
   rw [h2] at hK
   cases h3 : (getT s.t k).isSome with
   |false =>
    rw [h3] at hG
    simp (config := {maxSteps := 4000000,implicitDefEqProofs := false}) (disch := omega) only [go_sem,hM,hK,hG,zcV0,u_bV0,iA_def,zcI0]
    try rfl
   |true =>
    rw [h3] at hG
    simp (config := {maxSteps := 4000000,implicitDefEqProofs := false}) (disch := omega) only [go_sem,hM,hK,hG,zcV0,u_bV0,iA_def,zcI0]
    try rfl
end Go.Proofs.YtoeajbhlkccekaaDoor

namespace Go.Proofs.YtoeajbhlkccekaaDoor
open Go.RowKit
noncomputable def plenumlaw13_awake_c : Code := (Tryd.f13.body).getD .skip
def plenumlaw13_awake_h : Hint := (.two .n (.two .n (.two .n (.two .n (.two .n (.two .n (.two .n (.two .n (.two .n .n)))))))))
noncomputable def plenumlaw13_awake_env (m : Nat) : Env := [(27, .tell (store_New_t m)),(45, .tell (plenumref07_Int_t m)),(10, .tell (store_TakeQ_t m)),(16, .tell (store_Get_t m)),(28, .tell (store_Room_t m)),(18, .tell (store_Undo_t m))]
noncomputable abbrev plenumlaw13_awake_fin : KO (AV × List AObj) := tellFK Tryd.prog [.tmp 0]
noncomputable def plenumlaw13_awake (m : Nat) : RO := exec Tryd.prog GG (plenumlaw13_awake_env m) m ⟨142,[]⟩ plenumlaw13_awake_c plenumlaw13_awake_h ⟨[],argsT 0 []⟩ (plenumlaw13_awake_fin)
theorem plenumlaw13_awake_eq (m : Nat) : plenumlaw13_awake m =
 tellE (store_New m (V (.int .i64 10)) (V (.int .i64 2))) [(V (.int .i64 10)),(V (.int .i64 2))] fun t20 =>
 extE t20 0 fun t21 =>
 extE t20 1 fun t22 =>
 allocE (some zc_api_Store) ty_api_Store [] fun t1 H1 =>
 storeE 37 H1 t1 t21 fun H2 =>
 loadE 37 H2 t1 fun t24 =>
 tellE (plenumref07_Int m (V (.int .i64 1))) [(V (.int .i64 1))] fun t25 =>
 buildE (some pl_api_Edit) (some zc_api_Edit) [(0,(V (.string ⟨#[97]⟩))),(1,t25)] fun t26 =>
 tellE (plenumref07_Int m (V (.int .i64 2))) [(V (.int .i64 2))] fun t27 =>
 buildE (some pl_api_Edit) (some zc_api_Edit) [(0,(V (.string ⟨#[98]⟩))),(1,t27)] fun t28 =>
 buildSE (some (ty_api_Edit,4)) 2 [(0,t26),(1,t28)] fun t29 =>
 tellE (store_TakeQ_t m [(ro H2 t24),(ro H2 t29)]) [(ro H2 t24),(ro H2 t29)] fun t30 =>
 extE t30 0 fun t31 =>
 extE t30 1 fun t32 =>
 extE t30 2 fun t33 =>
 allocE (some zc_api_Store) ty_api_Store H2 fun t3 H3 =>
 storeE 37 H3 t3 t31 fun H4 =>
 loadE 37 H4 t3 fun t35 =>
 tellE (store_Get m (ro H4 t35) (V (.string ⟨#[97]⟩))) [(ro H4 t35),(V (.string ⟨#[97]⟩))] fun t36 =>
 extE t36 0 fun t37 =>
 extE t36 1 fun t38 =>
 extE t36 2 fun t39 =>
 allocE (some zc_api_Value) ty_api_Value H4 fun t6 H5 =>
 storeE 5 H5 t6 t37 fun H6 =>
 loadE 37 H6 t3 fun t41 =>
 tellE (store_Room m (ro H6 t41)) [(ro H6 t41)] fun t42 =>
 extE t42 0 fun t43 =>
 extE t42 1 fun t44 =>
 loadE 37 H6 t3 fun t46 =>
 tellE (plenumref07_Int m (V (.int .i64 3))) [(V (.int .i64 3))] fun t47 =>
 buildE (some pl_api_Edit) (some zc_api_Edit) [(0,(V (.string ⟨#[99]⟩))),(1,t47)] fun t48 =>
 buildSE (some (ty_api_Edit,4)) 1 [(0,t48)] fun t49 =>
 tellE (store_TakeQ_t m [(ro H6 t46),(ro H6 t49)]) [(ro H6 t46),(ro H6 t49)] fun t50 =>
 extE t50 0 fun t51 =>
 extE t50 1 fun t52 =>
 extE t50 2 fun t53 =>
 allocE (some zc_api_Store) ty_api_Store H6 fun t11 H7 =>
 storeE 37 H7 t11 t51 fun H8 =>
 loadE 37 H8 t3 fun t55 =>
 buildE (some pl_api_Edit) (some zc_api_Edit) [(0,(V (.string ⟨#[97]⟩)))] fun t56 =>
 tellE (plenumref07_Int m (V (.int .i64 3))) [(V (.int .i64 3))] fun t57 =>
 buildE (some pl_api_Edit) (some zc_api_Edit) [(0,(V (.string ⟨#[99]⟩))),(1,t57)] fun t58 =>
 buildSE (some (ty_api_Edit,4)) 2 [(0,t56),(1,t58)] fun t59 =>
 tellE (store_TakeQ_t m [(ro H8 t55),(ro H8 t59)]) [(ro H8 t55),(ro H8 t59)] fun t60 =>
 extE t60 0 fun t61 =>
 extE t60 1 fun t62 =>
 extE t60 2 fun t63 =>
 allocE (some zc_api_Store) ty_api_Store H8 fun t14 H9 =>
 storeE 37 H9 t14 t61 fun H10 =>
 loadE 37 H10 t3 fun t65 =>
 loadE 37 H10 t14 fun t66 =>
 tellE (store_Undo m (ro H10 t65) (ro H10 t66)) [(ro H10 t65),(ro H10 t66)] fun t67 =>
 extE t67 0 fun t68 =>
 extE t67 1 fun t69 =>
 binE none false false .eql t22 (V (.int .i64 0)) fun t71 =>
 condE t71 (
  binE none false false .eql t32 (V (.int .i64 0)) fun t74 =>
  condE t74 (
  loadE 5 H10 t6 fun t77 =>
  tellE (plenumref07_Int m (V (.int .i64 1))) [(V (.int .i64 1))] fun t78 =>
  binE (some [.i .i64, .i .i64, .s]) false false .eql t77 t78 fun t79 =>
  condE t79 (
  binE none false false .eql t38 (V (.int .i64 1)) fun t83 =>
  condE t83 (
  binE none false false .eql t39 (V (.int .i64 0)) fun t87 =>
  condE t87 (
  binE none false false .eql t43 (V (.int .i64 4)) fun t91 =>
  condE t91 (
  binE none false false .eql t44 (V (.int .i64 0)) fun t95 =>
  condE t95 (
  binE none false false .eql t52 (V (.int .i64 17)) fun t99 =>
  condE t99 (
  binE none false false .eql t53 (V (.int .i64 1)) fun t103 =>
  condE t103 (
  binE none false false .eql t62 (V (.int .i64 0)) fun t107 =>
  condE t107 (
  fieldE (some (32,1)) t14 fun t110 =>
  loadE 1 H10 t110 fun t111 =>
  binE none false false .eql t111 (V (.int .i64 2)) fun t112 =>
  condE t112 (
  lenE false true H10 t68 fun t116 =>
  binE none false false .eql t116 (V (.int .i64 2)) fun t117 =>
  condE t117 (
  idxSE 6 H10 t68 (V (.int .i64 0)) fun t121 =>
  loadE 6 H10 t121 fun t122 =>
  tellE (plenumref07_Int m (V (.int .i64 1))) [(V (.int .i64 1))] fun t123 =>
  buildE (some pl_api_Edit) (some zc_api_Edit) [(0,(V (.string ⟨#[97]⟩))),(1,t123)] fun t124 =>
  binE (some [.s, .i .i64, .i .i64, .s]) false false .eql t122 t124 fun t125 =>
  condE t125 (
  idxSE 6 H10 t68 (V (.int .i64 1)) fun t129 =>
  loadE 6 H10 t129 fun t130 =>
  buildE (some pl_api_Edit) (some zc_api_Edit) [(0,(V (.string ⟨#[99]⟩)))] fun t131 =>
  binE (some [.s, .i .i64, .i .i64, .s]) false false .eql t130 t131 fun t132 =>
  condE t132 (
  binE none false false .eql t69 (V (.int .i64 0)) fun t136 =>
  pickE t136 (V (.bool true)) (V (.bool false)) fun t139 =>
 pickE t139 (V (.bool true)) (V (.bool false)) fun t141 =>
 tellK H10 (ro H10 t141)) (
  tellK H10 (ro H10 (V (.bool false))))) (
  tellK H10 (ro H10 (V (.bool false))))) (
  tellK H10 (ro H10 (V (.bool false))))) (
  tellK H10 (ro H10 (V (.bool false))))) (
  tellK H10 (ro H10 (V (.bool false))))) (
  tellK H10 (ro H10 (V (.bool false))))) (
  tellK H10 (ro H10 (V (.bool false))))) (
  tellK H10 (ro H10 (V (.bool false))))) (
  tellK H10 (ro H10 (V (.bool false))))) (
  tellK H10 (ro H10 (V (.bool false))))) (
  tellK H10 (ro H10 (V (.bool false))))) (
  tellK H10 (ro H10 (V (.bool false))))) (
  tellK H10 (ro H10 (V (.bool false))))) (
  tellK H10 (ro H10 (V (.bool false)))) := by
 refine (tellX _ _ _ _ _ _ _ _ _).trans ?_
 kernel_rfl
noncomputable def plenumlaw13_awake_t (m : Nat) : List AV → RO|[]=>plenumlaw13_awake m|_=>none
theorem plenumlaw13_awake_ok (m : Nat) : ∀ args X H',plenumlaw13_awake_t m args = some (X,H') → ACp Tryd.prog GG 13 args X := by
 intro args X H' h
 unfold plenumlaw13_awake_t at h
 split at h
 ·exact tell_okK MIX (by
  intro f e h
  simp only [plenumlaw13_awake_env,Prod.mk.injEq,List.mem_cons,List.not_mem_nil,or_false] at h
  rcases h with ⟨rfl,rfl⟩|⟨rfl,rfl⟩|⟨rfl,rfl⟩|⟨rfl,rfl⟩|⟨rfl,rfl⟩|⟨rfl,rfl⟩
  ·exact store_New_ok m
  ·exact plenumref07_Int_ok m
  ·exact store_TakeQ_ok m
  ·exact store_Get_ok m
  ·exact store_Room_ok m
  ·exact store_Undo_ok m) (f := 13) (c := plenumlaw13_awake_c) Tryd.func13 rfl (by kernel_rfl) _ rfl Tryd.ntmps13 (Nat.le_of_ble_eq_true rfl) plenumlaw13_awake_h h
 ·cases h
end Go.Proofs.YtoeajbhlkccekaaDoor

namespace Go.Proofs.YtoeajbhlkccekaaDoor
open Go.RowKit
theorem takeG_inv {v : Int} : ∀ (l : List Edt) (k : Nat) {t : Tr},TInv t → (∀ x ∈ l,NumOk (x.it 0)) → TInv (takeG v k l t).1
 |[],k,t,h,_=>h
 |x :: r,k,t,h,hx=>by
  unfold takeG
  split
  ·rename_i he
   exact takeG_inv r (k + 1) (one_inv h (hx x (List.mem_cons_self ..)) he) fun y hy=>hx y (List.mem_cons_of_mem _ hy)
  ·exact h
theorem may_zero : mayT Tr.zero = true := by decide +kernel
theorem zero_inv : TInv Tr.zero := ⟨may_zero,fun i x hx=>(by cases hx),fun i _=>rfl⟩
theorem takeS_inv {s : St} {l : List Edt} (h : mayT s.t = true → TInv s.t) (hx : ∀ x ∈ l,NumOk (x.it 0)) : TInv (takeS s l).1.t := by
 unfold takeS
 split
 ·exact zero_inv
 ·rename_i hb
  have hm : mayT s.t = true := by
   simp only [Bool.not_eq_false,Bool.and_eq_true] at hb
   exact (mayS_nums hb.1).2.2.2.2.2.2.1
  split
  ·exact zero_inv
  ·split
   ·split
    ·exact zero_inv
    ·exact takeG_inv l 0 (h hm) hx
   ·exact zero_inv
def S0 : St := newS 10 2
def l1 : List Edt := [⟨[97],2,1,[]⟩,⟨[98],2,2,[]⟩]
def l2 : List Edt := [⟨[99],2,3,[]⟩]
def l3 : List Edt := [⟨[97],0,0,[]⟩,⟨[99],2,3,[]⟩]
def A1 : St := (takeS S0 l1).1
def B1 : St := (takeS A1 l3).1
theorem hx1 : ∀ x ∈ l1,NumOk (x.it 0) := by intro x hx;simp [l1] at hx;rcases hx with rfl|rfl <;> (constructor <;> decide)
theorem hx2 : ∀ x ∈ l2,NumOk (x.it 0) := by intro x hx;simp [l2] at hx;subst hx;(constructor <;> decide)
theorem hx3 : ∀ x ∈ l3,NumOk (x.it 0) := by intro x hx;simp [l3] at hx;rcases hx with rfl|rfl <;> (constructor <;> decide)
theorem invA : TInv A1.t := takeS_inv (fun _=>zero_inv) hx1
theorem invB : TInv B1.t := takeS_inv (fun _=>invA) hx3
theorem t1_e : (takeS S0 l1).2 = (0,0) := by decide +kernel
theorem t2_e : (takeS A1 l2).2 = (17,1) := by decide +kernel
theorem t3_e : (takeS A1 l3).2 = (0,0) := by decide +kernel
theorem b_ver : B1.ver = 2 := by decide +kernel
theorem new_e : (newR 10 2) = (S0,0) := by
 unfold newR
 rw [if_pos (by decide +kernel)]
 rfl
theorem room_e : roomR A1 = (4,0) := by decide +kernel
theorem may_A : mayS A1 = true := by decide +kernel
theorem may_B : mayS B1 = true := by decide +kernel
theorem get_e : (getR A1 [97]).2 = 0 ∧ (getR A1 [97]).1.kind = 2 ∧ (getR A1 [97]).1.i = 1 ∧ (getR A1 [97]).1.s = [] ∧ (getR A1 [97]).1.ver = 1 := by decide +kernel
theorem undo_e : undoR A1 B1 = [⟨[97],2,1,[]⟩,⟨[99],0,0,[]⟩] := by kernel_rfl
theorem u_eqE2 {R : Type} {K1 : AV → Option R} {k : ByteArray} {a b : Int} {s : ByteArray} {isB sl : Bool} : binE (some [.s, .i .i64, .i .i64, .s]) isB sl .eql (.agg [V (.string k),V (.int .i64 a),V (.int .i64 b),V (.string s)]) (.agg [V (.string k),V (.int .i64 a),V (.int .i64 b),V (.string s)]) K1 = K1 (bA true) := by
 show K1 (bA (decide (k.data.toList = k.data.toList) && (decide (a = a) && (decide (b = b) && (decide (s.data.toList = s.data.toList) && true))))) = _
 simp
theorem u_bsE2 {R : Type} {K1 : AV → Option R} {a b c d e f g h : Value} : buildSE (some (ty_api_Edit,4)) 2 [(0, .agg [V a,V b,V c,V d]),(1, .agg [V e,V f,V g,V h])] K1 = K1 (SL [.agg [V a,V b,V c,V d], .agg [V e,V f,V g,V h]]) := _root_.id rfl
theorem u_bsE1 {R : Type} {K1 : AV → Option R} {a b c d : Value} : buildSE (some (ty_api_Edit,4)) 1 [(0, .agg [V a,V b,V c,V d])] K1 = K1 (SL [.agg [V a,V b,V c,V d]]) := _root_.id rfl
theorem awake13_s (m : Nat) (hm : 40000000 < m) : plenumlaw13_awake m = some (bA true,[]) := by
 rw [plenumlaw13_awake_eq]
 have hN : store_New m (nA 10) (nA 2) = some (TU [.agg (stC S0),nA 0],[]) := by
  have := new_s m 10 2 (by omega)
  rw [new_e] at this
  exact this
 have hT1 : store_TakeQ_t m [.agg (stC S0),SL [.agg [V (.string ⟨#[97]⟩),V (.int .i64 2),V (.int .i64 1),V (.string ⟨#[]⟩)], .agg [V (.string ⟨#[98]⟩),V (.int .i64 2),V (.int .i64 2),V (.string ⟨#[]⟩)]]] = some (TU [.agg (stC A1),nA 0,nA 0],[]) := by
  have := store_TakeQ_e m S0 l1 zero_inv.ok (fun _=>zero_inv) hx1 (by decide)
  rw [show takeS S0 l1 = (A1,0,0) from Prod.ext rfl t1_e] at this
  exact this
 obtain ⟨C1,hT2⟩ : ∃ C1 : St,store_TakeQ_t m [.agg (stC A1),SL [.agg [V (.string ⟨#[99]⟩),V (.int .i64 2),V (.int .i64 3),V (.string ⟨#[]⟩)]]] = some (TU [.agg (stC C1),nA 17,nA 1],[]) := by
  have := store_TakeQ_e m A1 l2 invA.ok (fun _=>invA) hx2 (by decide)
  rw [show takeS A1 l2 = ((takeS A1 l2).1,17,1) from Prod.ext rfl t2_e] at this
  exact ⟨_,this⟩
 have hT3 : store_TakeQ_t m [.agg (stC A1),SL [.agg [V (.string ⟨#[97]⟩),V (.int .i64 0),V (.int .i64 0),V (.string ⟨#[]⟩)], .agg [V (.string ⟨#[99]⟩),V (.int .i64 2),V (.int .i64 3),V (.string ⟨#[]⟩)]]] = some (TU [.agg (stC B1),nA 0,nA 0],[]) := by
  have := store_TakeQ_e m A1 l3 invA.ok (fun _=>invA) hx3 (by decide)
  rw [show takeS A1 l3 = (B1,0,0) from Prod.ext rfl t3_e] at this
  exact this
 have hR : store_Room m (.agg (stC A1)) = some (TU [nA 4,nA 0],[]) := by
  have := room_s m A1 (by omega) invA.ok
  rw [room_e] at this
  exact this
 have hG : store_Get m (.agg (stC A1)) (V (.string ⟨#[97]⟩)) = some (TU [.agg [V (.int .i64 2),V (.int .i64 1),V (.string ⟨#[]⟩)],nA 1,nA 0],[]) := by
  have h := get_s m A1 [97] (by omega) invA.ok
  obtain ⟨g1,g2,g3,g4,g5⟩ := get_e
  unfold valV at h
  rw [g1,g2,g3,g4,g5] at h
  exact h
 have hU : store_Undo m (.agg (stC A1)) (.agg (stC B1)) = some (TU [SL [.agg [V (.string ⟨#[97]⟩),V (.int .i64 2),V (.int .i64 1),V (.string ⟨#[]⟩)], .agg [V (.string ⟨#[99]⟩),V (.int .i64 0),V (.int .i64 0),V (.string ⟨#[]⟩)]],nA 0],[]) := by
  have := undo_s m A1 B1 hm invA.ok invB.ok
  rw [undo_e,may_A,may_B] at this
  exact this
 have i1 := rint_s m 1
 have i2 := rint_s m 2
 have i3 := rint_s m 3
 have hbv := b_ver
 generalize A1 = A at *
 generalize B1 = B at *
 simp (config := {maxSteps := 4000000,implicitDefEqProofs := false}) (disch := omega) only [go_sem,tC_len,tC_sure,tC_ltA,tC_lt1,tC_ro,tC_take,tC_all1,zcT_eq,zcI_len,zC_len,zC_ltA,zC_lt1,zC_sure,zC_ro,zC_take,set_tl,set_tv,sc_tt,sc_zt,sc_tz,sc_zz,add16,tA_def,lA_def,natInt,u_tl,u_tv,hN,hT1,hT2,hT3,hR,hG,hU,i1,i2,i3,zcS_eq,zS_len,zS_sure,zS_take,zS_ltA,st_take35,stC_len,st_sure,st_ltA,st_ro,st_lt1,ss_zs,u_bE1,u_bE0,u_bsE2,u_bsE1,zcV0,hbv,st_ver,u_eqE2]
 rfl
end Go.Proofs.YtoeajbhlkccekaaDoor

namespace Go.Proofs.YtoeajbhlkccekaaDoor
open Go.RowKit
end Go.Proofs.YtoeajbhlkccekaaDoor

namespace Go.Proofs.YtoeajbhlkccekaaDoor
open Go.RowKit
attribute [local go_sem] tC_len tC_sure tC_ltA tC_lt1 tC_ro tC_take tC_all1 zcT_eq zcI_len zC_len zC_ltA zC_lt1 zC_sure zC_ro zC_take set_tl set_tv sc_tt sc_zt sc_tz sc_zz add16 tA_def lA_def natInt u_tl u_tv st_take35 st_take stC_len st_sure st_ltA st_lt1 st_ro zcS_eq zS_len zS_sure zS_take zS_ltA zS_ro zS_all1 ss_zs ss_zz u_bS0
def fewSt (s : St) : St := { s with t := fewT s.t 16 }
theorem few13b_s (m : Nat) (s : St) (h : s.t.In) : plenumlaw13_Few m (stA s) = some (stA (fewSt s),[]) := few13_s m s h.len
def sameM (a b : St) : Bool := mayS a && (mayS b && (decide (a.ver = b.ver) && (decide (a.bytes = b.bytes) && (decide (a.keys = b.keys) && decide ((unlikeL a.t b.t 16).length = 0)))))
theorem tsame_s (m : Nat) (t u : Tr) (ht : t.Ok) (hu : u.Ok) (h1 : mayT t = true) (h2 : mayT u = true) : trunk_Same m (tA t) (tA u) = some (bA (decide ((unlikeL t u 16).length = 0)),[]) := by
 rw [trunk_Same_eq]
 have hU := trunk_Unlike_e m t u ht hu
 have e : unlikeT t u = (unlikeL t u 16,0) := by unfold unlikeT;rw [h1,h2];rfl
 rw [e] at hU
 rw [tA_def,tA_def] at hU ⊢
 have hz : (nLs (unlikeL t u 16)).length = (unlikeL t u 16).length := by unfold nLs;simp
 simp (config := {maxSteps := 4000000,implicitDefEqProofs := false}) (disch := omega) only [go_sem,hU,hz]
 have : decide (((unlikeL t u 16).length : Int) = 0) = decide ((unlikeL t u 16).length = 0) := decide_eq_decide.2 (by omega)
 rw [this]
theorem same_s (m : Nat) (a b : St) (hm : 1000000 < m) (ha : a.t.Ok) (hb : b.t.Ok) : store_Same m (stA a) (stA b) = some (bA (sameM a b),[]) := by
 rw [store_Same_eq]
 have h1 := smay_s m a hm ha
 have h2 := smay_s m b hm hb
 unfold sameM
 rw [stA_def] at h1 h2 ⊢
 rw [stA_def]
 cases e1 : mayS a with
 |false =>
  rw [e1] at h1
  simp (config := {maxSteps := 4000000,implicitDefEqProofs := false}) (disch := omega) only [go_sem,h1]
  try rfl
 |true =>
  rw [e1] at h1
  cases e2 : mayS b with
  |false =>
   rw [e2] at h2
   simp (config := {maxSteps := 4000000,implicitDefEqProofs := false}) (disch := omega) only [go_sem,h1,h2]
   try rfl
  |true =>
   rw [e2] at h2
   have hT := tsame_s m a.t b.t ha hb (mayS_nums e1).2.2.2.2.2.2.1 (mayS_nums e2).2.2.2.2.2.2.1
   rw [tA_def,tA_def] at hT
   by_cases q1 : a.ver = b.ver
   ·by_cases q2 : a.bytes = b.bytes
    ·by_cases q3 : a.keys = b.keys
     ·simp (config := {maxSteps := 4000000,implicitDefEqProofs := false}) (disch := omega) only [go_sem,st_ver,st_bytes,st_keys,h1,h2,q1,q2,q3,hT]
      try rfl
     ·simp (config := {maxSteps := 4000000,implicitDefEqProofs := false}) (disch := omega) only [go_sem,st_ver,st_bytes,st_keys,h1,h2,q1,q2,q3,hT]
      try simp [q3]
    ·simp (config := {maxSteps := 4000000,implicitDefEqProofs := false}) (disch := omega) only [go_sem,st_ver,st_bytes,st_keys,h1,h2,q1,q2,hT]
     try simp [q2]
   ·simp (config := {maxSteps := 4000000,implicitDefEqProofs := false}) (disch := omega) only [go_sem,st_ver,st_bytes,st_keys,h1,h2,q1,hT]
    try simp [q1]
end Go.Proofs.YtoeajbhlkccekaaDoor

namespace Go.Proofs.YtoeajbhlkccekaaDoor
open Go.RowKit
attribute [local go_sem] tC_len tC_sure tC_ltA tC_lt1 tC_ro tC_take tC_all1 zcT_eq zcI_len zC_len zC_ltA zC_lt1 zC_sure zC_ro zC_take set_tl set_tv sc_tt sc_zt sc_tz sc_zz add16 tA_def lA_def natInt u_tl u_tv st_take35 st_take stC_len st_sure st_ltA st_lt1 st_ro zcS_eq zS_len zS_sure zS_take zS_ltA zS_ro zS_all1 ss_zs ss_zz u_bS0 u_nthM ed_it ed_lenE zcE0 st_ver st_set zS_lt1 st_bytes st_keys
end Go.Proofs.YtoeajbhlkccekaaDoor

namespace Go.Proofs.YtoeajbhlkccekaaDoor
open Go.RowKit
attribute [local go_sem] tC_len tC_sure tC_ltA tC_lt1 tC_ro tC_take tC_all1 zcT_eq zcI_len zC_len zC_ltA zC_lt1 zC_sure zC_ro zC_take set_tl set_tv sc_tt sc_zt sc_tz sc_zz add16 tA_def lA_def natInt u_tl u_tv st_take35 st_take stC_len st_sure st_ltA st_lt1 st_ro zcS_eq zS_len zS_sure zS_take zS_ltA zS_ro zS_all1 ss_zs ss_zz u_bS0
def Edt.one (x : Edt) : Edt := ⟨(x.it 0).one.key,x.kind,x.i,(x.it 0).one.s⟩
end Go.Proofs.YtoeajbhlkccekaaDoor

namespace Go.Proofs.YtoeajbhlkccekaaDoor
open Go.RowKit
def mergeM : Nat → Tr → List Item
 |0,_=>[]
 |n + 1,u=>if leastT u < 0 then [] else hdK u (leastT u).toNat :: mergeM n (pop u (leastT u).toNat)
def scanL (lo hi : Bytes) (most : Int) : List Item → List Item → List Item
 |[],acc=>acc
 |x :: r,acc=>if stopB hi most x acc then acc else scanL lo hi most r (takeX lo x acc)
theorem runM_scan {lo hi : Bytes} {most : Int} : ∀ (n : Nat) (u : Tr) (acc : List Item),runM lo hi most n u acc = scanL lo hi most (mergeM n u) acc
 |0,u,acc=>rfl
 |n + 1,u,acc=>by
  unfold runM mergeM
  split
  ·rfl
  ·unfold scanL
   split
   ·rfl
   ·exact runM_scan n _ _
abbrev Srt (l : List Item) : Prop := l.Pairwise fun a b=>less a.key b.key = true
structure Front (u : Tr) : Prop where
 srt : ∀ i,i < 16 → Srt (u.leaf i)
 dis : ∀ i j,i < 16 → j < 16 → i ≠ j → ∀ x ∈ u.leaf i,∀ y ∈ u.leaf j,x.key ≠ y.key
theorem hd_mem {u : Tr} {i : Nat} (h : 0 < (u.leaf i).length) : hdK u i ∈ u.leaf i := by
 unfold hdK
 cases hl : u.leaf i with
 |nil=>rw [hl] at h;simp at h
 |cons x r=>simp
theorem best_min {u : Tr} (hf : Front u) : ∀ k,k ≤ 16 → ∀ j,j < k → 0 < (u.leaf j).length → ∃ b : Nat,b < k ∧ bestN u k = b ∧ 0 < (u.leaf b).length ∧ (j = b ∨ less (hdK u b).key (hdK u j).key = true)
 |0,_,j,hj,_=>by omega
 |k + 1,hk,j,hj,hl=>by
  have neq : ∀ i j,i < 16 → j < 16 → i ≠ j → 0 < (u.leaf i).length → 0 < (u.leaf j).length → less (hdK u i).key (hdK u j).key = false → less (hdK u j).key (hdK u i).key = true := by
   intro i j hi hj hne h1 h2 h3
   cases h4 : less (hdK u j).key (hdK u i).key with
   |true=>rfl
   |false=>exact absurd (less_tri _ _ h3 h4) (hf.dis i j hi hj hne _ (hd_mem h1) _ (hd_mem h2))
  unfold bestN stepB
  by_cases hk0 : (u.leaf k).length = 0
  ·rw [if_pos hk0]
   have hjk : j < k := by
    rcases Nat.lt_or_ge j k with q|q
    ·exact q
    ·have : j = k := by omega
     subst this;omega
   obtain ⟨b,h1,h2,h3,h4⟩ := best_min hf k (by omega) j hjk hl
   exact ⟨b,by omega,h2,h3,h4⟩
  ·rw [if_neg hk0]
   rcases bestN_at u k with hb|⟨b,hb1,hb2,hb3⟩
   ·rw [hb,if_pos (by omega)]
    refine ⟨k,by omega,rfl,by omega,?_⟩
    rcases Nat.lt_or_ge j k with q|q
    ·obtain ⟨b,h1,h2,h3,h4⟩ := best_min hf k (by omega) j q hl
     rw [hb] at h2;omega
    ·exact .inl (by omega)
   ·rw [hb2,if_neg (by omega),Int.toNat_natCast]
    have key : ∀ j,j < k → 0 < (u.leaf j).length → j = b ∨ less (hdK u b).key (hdK u j).key = true := by
     intro j hj hl
     obtain ⟨b',h1,h2,h3,h4⟩ := best_min hf k (by omega) j hj hl
     rw [hb2] at h2
     have : b' = b := by omega
     subst this;exact h4
    cases hlt : less (hdK u k).key (hdK u b).key with
    |true =>
     rw [if_pos rfl]
     refine ⟨k,by omega,rfl,by omega,?_⟩
     rcases Nat.lt_or_ge j k with q|q
     ·right
      rcases key j q hl with rfl|h
      ·exact hlt
      ·exact less_trans _ _ _ hlt h
     ·exact .inl (by omega)
    |false =>
     rw [if_neg (by decide)]
     refine ⟨b,by omega,rfl,hb3,?_⟩
     rcases Nat.lt_or_ge j k with q|q
     ·exact key j q hl
     ·have : j = k := by omega
      subst this
      exact .inr (neq j b (by omega) (by omega) (by omega) (by omega) hb3 hlt)
theorem least_min {u : Tr} (hf : Front u) {j : Nat} (hj : j < 16) (hl : 0 < (u.leaf j).length) : ∃ b : Nat,b < 16 ∧ leastT u = b ∧ 0 < (u.leaf b).length ∧ (j = b ∨ less (hdK u b).key (hdK u j).key = true) := best_min hf 16 (Nat.le_refl _) j hj hl
theorem pop_leaf {u : Tr} {b i : Nat} : (pop u b).leaf i = if i = b then (u.leaf b).tail else u.leaf i := rfl
theorem pop_front {u : Tr} (hf : Front u) (b : Nat) : Front (pop u b) := by
 have sub : ∀ i,∀ x ∈ (pop u b).leaf i,x ∈ u.leaf i := by
  intro i x hx
  rw [pop_leaf] at hx
  split at hx
  ·rename_i e;subst e;exact List.mem_of_mem_tail hx
  ·exact hx
 refine ⟨fun i hi=>?_,fun i j hi hj hne x hx y hy=>hf.dis i j hi hj hne x (sub i x hx) y (sub j y hy)⟩
 rw [pop_leaf]
 split
 ·rename_i e;subst e
  exact (hf.srt i hi).sublist (List.tail_sublist _)
 ·exact hf.srt i hi
theorem merge_mem : ∀ (n : Nat) (u : Tr) (x : Item),x ∈ mergeM n u → ∃ i,i < 16 ∧ x ∈ u.leaf i
 |0,u,x,h=>by cases h
 |n + 1,u,x,h=>by
  unfold mergeM at h
  split at h
  ·cases h
  ·rename_i hneg
   rcases bestN_at u 16 with q|⟨b,q1,q2,q3⟩
   ·unfold leastT at hneg;omega
   ·have hb : (leastT u).toNat = b := by unfold leastT;rw [q2];exact Int.toNat_natCast b
    rw [hb] at h
    rcases List.mem_cons.1 h with rfl|h
    ·exact ⟨b,q1,hd_mem q3⟩
    ·obtain ⟨i,hi,hx⟩ := merge_mem n (pop u b) x h
     refine ⟨i,hi,?_⟩
     rw [pop_leaf] at hx
     split at hx
     ·rename_i e;subst e;exact List.mem_of_mem_tail hx
     ·exact hx
theorem merge_all : ∀ (n : Nat) {u : Tr} (hf : Front u) (hn : cntT u ≤ n) (x : Item) (i : Nat),i < 16 → x ∈ u.leaf i → x ∈ mergeM n u
 |n,u,hf,hn,x,i,hi,hx=>by
  have hl : 0 < (u.leaf i).length := List.length_pos_of_mem hx
  obtain ⟨b,h1,h2,h3,h4⟩ := least_min hf hi hl
  have hc := cnt_pop h1 h3
  cases n with
  |zero=>omega
  |succ n =>
   unfold mergeM
   rw [h2,if_neg (by omega),Int.toNat_natCast]
   by_cases e : x = hdK u b
   ·rw [e];exact List.mem_cons_self ..
   ·refine List.mem_cons_of_mem _ (merge_all n (pop_front hf b) (by omega) x i hi ?_)
    rw [pop_leaf]
    split
    ·rename_i e2;subst e2
     unfold hdK at e
     cases hq : u.leaf i with
     |nil=>rw [hq] at hx;cases hx
     |cons y r =>
      rw [hq] at hx e
      rcases List.mem_cons.1 hx with rfl|hx
      ·exact absurd rfl e
      ·exact hx
    ·exact hx
theorem merge_srt : ∀ (n : Nat) {u : Tr} (hf : Front u),Srt (mergeM n u)
 |0,u,hf=>List.Pairwise.nil
 |n + 1,u,hf=>by
  unfold mergeM
  split
  ·exact List.Pairwise.nil
  ·rename_i hneg
   refine List.Pairwise.cons ?_ (merge_srt n (pop_front hf _))
   intro y hy
   obtain ⟨i,hi,hyi⟩ := merge_mem n _ y hy
   rcases bestN_at u 16 with q|⟨b0,q1,q2,q3⟩
   ·unfold leastT at hneg;omega
   ·have hb : (leastT u).toNat = b0 := by unfold leastT;rw [q2];exact Int.toNat_natCast b0
    rw [hb] at hyi ⊢
    rw [pop_leaf] at hyi
    split at hyi
    ·rename_i e;subst e
     unfold hdK
     cases hq : u.leaf i with
     |nil=>rw [hq] at q3;simp at q3
     |cons z r =>
      rw [hq] at hyi
      have := hf.srt i hi
      rw [hq] at this
      exact (List.pairwise_cons.1 this).1 y hyi
    ·rename_i hne
     have hl : 0 < (u.leaf i).length := List.length_pos_of_mem hyi
     obtain ⟨b,h1,h2,h3,h4⟩ := least_min hf hi hl
     have hbb : b = b0 := by
      have : leastT u = (b0 : Nat) := q2
      omega
     subst hbb
     rcases h4 with rfl|h4
     ·exact absurd rfl hne
     ·unfold hdK at h4 ⊢
      cases hq : u.leaf i with
      |nil=>rw [hq] at hyi;cases hyi
      |cons z r =>
       rw [hq] at hyi h4
       have := hf.srt i hi
       rw [hq] at this
       rcases List.mem_cons.1 hyi with rfl|hyr
       ·exact h4
       ·exact less_trans _ _ _ h4 ((List.pairwise_cons.1 this).1 y hyr)
theorem srt_ext : ∀ {l k : List Item},Srt l → Srt k → (∀ x,x ∈ l ↔ x ∈ k) → l = k
 |[],[],_,_,_=>rfl
 |[],y :: k,_,_,h=>by have := (h y).2 (List.mem_cons_self ..);cases this
 |x :: l,[],_,_,h=>by have := (h x).1 (List.mem_cons_self ..);cases this
 |x :: l,y :: k,hl,hk,h=>by
  obtain ⟨l1,l2⟩ := List.pairwise_cons.1 hl
  obtain ⟨k1,k2⟩ := List.pairwise_cons.1 hk
  have e : x = y := by
   rcases List.mem_cons.1 ((h x).1 (List.mem_cons_self ..)) with e|hx
   ·exact e
   ·rcases List.mem_cons.1 ((h y).2 (List.mem_cons_self ..)) with e|hy
    ·exact e.symm
    ·have a := k1 x hx
     have b := l1 y hy
     rw [less_asymm _ _ a] at b
     cases b
  subst e
  have : l = k := srt_ext l2 k2 fun z=>by
   constructor
   ·intro hz
    rcases List.mem_cons.1 ((h z).1 (List.mem_cons_of_mem _ hz)) with e|hz'
    ·subst e;have := l1 z hz;rw [less_irrefl] at this;cases this
    ·exact hz'
   ·intro hz
    rcases List.mem_cons.1 ((h z).2 (List.mem_cons_of_mem _ hz)) with e|hz'
    ·subst e;have := k1 z hz;rw [less_irrefl] at this;cases this
    ·exact hz'
  rw [this]
end Go.Proofs.YtoeajbhlkccekaaDoor

namespace Go.Proofs.YtoeajbhlkccekaaDoor
open Go.RowKit
def foldW (l : List Item) : List Item := l.foldl withK []
theorem withK_srt {l : List Item} (h : Srt l) (x : Item) : Srt (withK l x) := by
 unfold withK
 rw [List.append_assoc]
 refine List.pairwise_append.2 ⟨h.sublist List.filter_sublist,?_,?_⟩
 ·refine List.pairwise_append.2 ⟨List.pairwise_singleton _ _,h.sublist List.filter_sublist,?_⟩
  intro a ha b hb
  simp at ha;subst ha
  exact (List.mem_filter.1 hb).2
 ·intro a ha b hb
  have h1 := (List.mem_filter.1 ha).2
  rcases List.mem_append.1 hb with hb|hb
  ·simp at hb;subst hb;exact h1
  ·exact less_trans _ _ _ h1 (List.mem_filter.1 hb).2
theorem withK_mem {l : List Item} {x y : Item} (hne : ∀ z ∈ l,z.key ≠ x.key) : y ∈ withK l x ↔ y ∈ l ∨ y = x := by
 unfold withK
 simp only [List.mem_append,List.mem_filter,List.mem_singleton]
 constructor
 ·rintro ((⟨h,_⟩|h)|⟨h,_⟩)
  ·exact .inl h
  ·exact .inr h
  ·exact .inl h
 ·rintro (h|h)
  ·cases h1 : less y.key x.key with
   |true=>exact .inl (.inl ⟨h,rfl⟩)
   |false =>
    cases h2 : less x.key y.key with
    |true=>exact .inr ⟨h,rfl⟩
    |false=>exact absurd (less_tri _ _ h1 h2) (hne y h)
  ·exact .inl (.inr h)
theorem fold_law : ∀ (l acc : List Item),Srt acc → (l.Pairwise fun a b=>a.key ≠ b.key) → (∀ x ∈ l,∀ z ∈ acc,z.key ≠ x.key) → Srt (l.foldl withK acc) ∧ ∀ y,y ∈ l.foldl withK acc ↔ y ∈ acc ∨ y ∈ l
 |[],acc,h,_,_=>⟨h,fun y=>by simp⟩
 |x :: r,acc,h,hp,hd=>by
  obtain ⟨p1,p2⟩ := List.pairwise_cons.1 hp
  have hm := fun y=>withK_mem (l := acc) (x := x) (y := y) (hd x (List.mem_cons_self ..))
  obtain ⟨f1,f2⟩ := fold_law r (withK acc x) (withK_srt h x) p2 (by
   intro a ha z hz
   rcases (hm z).1 hz with q|q
   ·exact hd a (List.mem_cons_of_mem _ ha) z q
   ·subst q;exact p1 a ha)
  refine ⟨f1,fun y=>?_⟩
  show y ∈ r.foldl withK (withK acc x) ↔ _
  rw [f2 y,hm y,List.mem_cons]
  constructor
  ·rintro ((q|q)|q)
   ·exact .inl q
   ·exact .inr (.inl q)
   ·exact .inr (.inr q)
  ·rintro (q|q|q)
   ·exact .inl (.inl q)
   ·exact .inl (.inr q)
   ·exact .inr q
theorem front_of {t : Tr} (h : mayT t = true) : Front t := by
 refine ⟨fun i hi=>((leafB_iff _).1 (fits_leaf h hi)).2.2,fun i j hi hj hne x hx y hy e=>?_⟩
 have h1 := (fits_key h hi hx).2.1
 have h2 := (fits_key h hj hy).2.1
 rw [e,h2] at h1
 omega
theorem all_pair {t : Tr} (h : Front t) : ∀ k,k ≤ 16 → (allTo t k).Pairwise fun a b=>a.key ≠ b.key
 |0,_=>by simp [allTo]
 |k + 1,hk=>by
  rw [allTo_succ]
  refine List.pairwise_append.2 ⟨all_pair h k (by omega),?_,?_⟩
  ·refine (h.srt k (by omega)).imp ?_
   intro a b hab e
   rw [e,less_irrefl] at hab
   cases hab
  ·intro a ha b hb
   obtain ⟨i,hi,hai⟩ := allTo_mem ha
   exact h.dis i k (by omega) (by omega) (by omega) a hai b hb
theorem allTo_of {t : Tr} : ∀ k {i : Nat},i < k → ∀ x ∈ t.leaf i,x ∈ allTo t k
 |0,i,hi,x,hx=>by omega
 |k + 1,i,hi,x,hx=>by
  rw [allTo_succ]
  rcases Nat.lt_or_ge i k with q|q
  ·exact List.mem_append_left _ (allTo_of k q x hx)
  ·have : i = k := by omega
   subst this
   exact List.mem_append_right _ hx
theorem merge_fold {t : Tr} (h : mayT t = true) : mergeM (cntT t) t = foldW (allTo t 16) := by
 have hf := front_of h
 obtain ⟨f1,f2⟩ := fold_law (allTo t 16) [] List.Pairwise.nil (all_pair hf 16 (Nat.le_refl _)) (fun x _ z hz=>by cases hz)
 refine srt_ext (merge_srt _ hf) f1 fun x=>?_
 show _ ↔ x ∈ (allTo t 16).foldl withK []
 rw [f2 x]
 constructor
 ·intro hx
  obtain ⟨i,hi,hx⟩ := merge_mem _ _ x hx
  exact .inr (allTo_of 16 hi x hx)
 ·rintro (hx|hx)
  ·cases hx
  ·obtain ⟨i,hi,hx⟩ := allTo_mem hx
   exact merge_all _ hf (Nat.le_refl _) x i hi hx
def inR (lo hi : Bytes) (x : Item) : Bool := !less x.key lo && (hi.isEmpty || less x.key hi)
theorem scan_law {lo hi : Bytes} {most : Nat} : ∀ (l acc : List Item),Srt l → acc.length ≤ most → scanL lo hi most l acc = (acc ++ l.filter (inR lo hi)).take most
 |[],acc,_,h=>by
  show acc = _
  rw [List.filter_nil,List.append_nil,List.take_of_length_le h]
 |x :: r,acc,hs,h=>by
  obtain ⟨s1,s2⟩ := List.pairwise_cons.1 hs
  unfold scanL stopB
  by_cases h1 : (most : Int) ≤ (acc.length : Int)
  ·rw [if_pos (by simp [h1])]
   have : acc.length = most := by omega
   rw [List.take_append_of_le_length (by omega),List.take_of_length_le h]
  ·by_cases h2 : (!hi.isEmpty && !less x.key hi) = true
   ·rw [if_pos (by simp [h2])]
    have hno : ∀ y ∈ x :: r,inR lo hi y = false := by
     simp only [Bool.and_eq_true,Bool.not_eq_true'] at h2
     intro y hy
     unfold inR
     rw [h2.1]
     have : less y.key hi = false := by
      rcases List.mem_cons.1 hy with rfl|hy
      ·exact h2.2
      ·cases hq : less y.key hi with
       |false=>rfl
       |true =>
        have := less_trans _ _ _ (s1 y hy) hq
        rw [h2.2] at this;cases this
     rw [this];simp
    rw [List.filter_eq_nil_iff.2 (fun y hy=>by rw [hno y hy];decide),List.append_nil,List.take_of_length_le h]
   ·rw [if_neg (by simp only [Bool.or_eq_true,decide_eq_true_eq,not_or];exact ⟨h1,h2⟩)]
    have hin : inR lo hi x = !less x.key lo := by
     unfold inR
     have : (hi.isEmpty || less x.key hi) = true := by
      cases hq : hi.isEmpty <;> cases hq2 : less x.key hi <;> simp_all
     rw [this,Bool.and_true]
    unfold takeX
    cases hl : less x.key lo with
    |true =>
     rw [if_pos rfl,scan_law r acc s2 h,List.filter_cons,hin,hl]
     rfl
    |false =>
     rw [if_neg (by decide),scan_law r (acc ++ [x]) s2 (by simp;omega),List.filter_cons,hin,hl]
     simp
def sortA (t : Tr) : List Item := foldW (allTo t 16)
theorem scanR_law {t : Tr} {lo hi : Bytes} {most : Nat} (h : mayT t = true) (h1 : patB lo = true) (h2 : patB hi = true) : scanR lo hi most t = ((sortA t).filter (inR lo hi)).take most := by
 unfold scanR okS scanT
 rw [h,h1,h2,if_pos (by decide),runM_scan,merge_fold h,scan_law _ _ ?_ (Nat.zero_le _),List.nil_append]
 ·rfl
 ·rw [← merge_fold h];exact merge_srt _ (front_of h)
end Go.Proofs.YtoeajbhlkccekaaDoor

namespace Go.Proofs.YtoeajbhlkccekaaDoor
open Go.RowKit
attribute [local go_sem] tC_len tC_sure tC_ltA tC_lt1 tC_ro tC_take tC_all1 zcT_eq zcI_len zC_len zC_ltA zC_lt1 zC_sure zC_ro zC_take set_tl set_tv sc_tt sc_zt sc_tz sc_zz add16 tA_def lA_def natInt u_tl u_tv st_take35 st_take stC_len st_sure st_ltA st_lt1 st_ro zcS_eq zS_len zS_sure zS_take zS_ltA zS_ro zS_all1 ss_zs ss_zz u_bS0
def foldK (l : List Item) (k : Nat) : List Item := (l.take k).foldl withK []
theorem foldK_succ {l : List Item} {k : Nat} (h : k < l.length) : foldK l (k + 1) = withK (foldK l k) l[k] := by
 unfold foldK
 rw [List.take_succ_eq_append_getElem h,List.foldl_append]
 rfl
def slot3 (l : List Item) : Nat → AV
 |0=>V (.slice none 0 0)
 |k + 1=>lA (foldK l (k + 1))
theorem slot3_ro {l : List Item} {H : List AObj} : ∀ k,ro H (slot3 l k) = lA (foldK l k)
 |0=>rfl
 |k + 1=>rfl
end Go.Proofs.YtoeajbhlkccekaaDoor

namespace Go.Proofs.YtoeajbhlkccekaaDoor
open Go.RowKit
attribute [local go_sem] tC_len tC_sure tC_ltA tC_lt1 tC_ro tC_take tC_all1 zcT_eq zcI_len zC_len zC_ltA zC_lt1 zC_sure zC_ro zC_take set_tl set_tv sc_tt sc_zt sc_tz sc_zz add16 tA_def lA_def natInt u_tl u_tv st_take35 st_take stC_len st_sure st_ltA st_lt1 st_ro zcS_eq zS_len zS_sure zS_take zS_ltA zS_ro zS_all1 ss_zs ss_zz u_bS0
theorem sortA_facts {t : Tr} (h : TInv t) : (sortA t).length ≤ 1024 ∧ ∀ x ∈ sortA t,keyB x.key = true := by
 have hf := front_of h.may
 have hmem : ∀ x ∈ sortA t,∃ i,i < 16 ∧ x ∈ t.leaf i := by
  intro x hx
  rw [show sortA t = mergeM (cntT t) t from (merge_fold h.may).symm] at hx
  exact merge_mem _ _ x hx
 constructor
 ·rw [show sortA t = mergeM (cntT t) t from (merge_fold h.may).symm]
  have l1 : ∀ (n : Nat) (u : Tr),(mergeM n u).length ≤ n := by
   intro n
   induction n with
   |zero=>intro u;exact Nat.le_refl _
   |succ n ih =>
    intro u
    unfold mergeM
    split
    ·exact Nat.zero_le _
    ·simp only [List.length_cons]
     have := ih (pop u (leastT u).toNat)
     omega
  have l2 : ∀ k,k ≤ 16 → cntN t k ≤ k * 64 := by
   intro k
   induction k with
   |zero=>intro _;exact Nat.le_refl _
   |succ k ih =>
    intro hk
    have := ih (by omega)
    have := ((leafB_iff _).1 (fits_leaf h.may (show k < 16 by omega))).1
    unfold cntN
    omega
  have := l1 (cntT t) t
  have := l2 16 (Nat.le_refl _)
  unfold cntT at *
  omega
 ·intro x hx
  obtain ⟨i,hi,hx⟩ := hmem x hx
  exact itemB_key (fits_key h.may hi hx).1
end Go.Proofs.YtoeajbhlkccekaaDoor

namespace Go.Proofs.YtoeajbhlkccekaaDoor
open Go.RowKit
theorem gok_sig {W : World} (h : Sig W) : GOk GG (SW W) := by
 intro g d hg j y hy
 simp only [GG,List.mem_singleton,Prod.mk.injEq] at hg
 obtain ⟨rfl,rfl⟩ := hg
 match j with
 |0=>simp [cellsOf] at hy;subst hy;exact ⟨1,_,h.2.1,rfl,rfl,rfl⟩
 |1=>simp [cellsOf] at hy;subst hy;exact ⟨1,_,h.2.2,rfl,rfl,rfl⟩
 |j + 2=>simp [cellsOf] at hy
theorem ofT_val {n : Nat} {ds : List AV} (h : ofT Tryd.prog n 43 ds) : ∃ (k i : Int) (s : Bytes),ds = [nA k,nA i,sA s] ∧ (-9223372036854775808 ≤ i ∧ i < 9223372036854775808) ∧ s.length ≤ maxLen := by
 obtain ⟨m,a1,b1,rfl,h1,a2,b2,rfl,h2,a3,b3,rfl,h3,rfl⟩ := ofT_struct Tryd.underlying43 h
 obtain ⟨k,rfl,_⟩ := ofT_i64 Tryd.underlying3 h1
 obtain ⟨i,rfl,hi⟩ := ofT_i64 Tryd.underlying2 h2
 obtain ⟨s,rfl,hs⟩ := ofT_str Tryd.underlying9 h3
 exact ⟨k,i,s,rfl,hi,hs⟩
theorem ofT_item {n : Nat} {ds : List AV} (h : ofT Tryd.prog n 58 ds) : ∃ x : Item,ds = x.cells.map (fun u=>V u) ∧ ItemIn x := by
 obtain ⟨m,a1,b1,rfl,h1,a2,b2,rfl,h2,a3,b3,rfl,h3,rfl⟩ := ofT_struct Tryd.underlying58 h
 obtain ⟨k,rfl,hk⟩ := ofT_str Tryd.underlying9 h1
 obtain ⟨kd,i,s,rfl,hi,hs⟩ := ofT_val h2
 obtain ⟨v,rfl,_⟩ := ofT_i64 Tryd.underlying3 h3
 exact ⟨⟨k,kd,i,s,v⟩,rfl,hk,hs,hi⟩
theorem agg_item : aggT Tryd.prog 58 = true := by kernel_rfl
theorem ofT_items {n : Nat} {ds : List AV} (h : ofT Tryd.prog n 22 ds) : ∃ l : List Item,ds = [lA l] ∧ l.length ≤ maxLen ∧ ∀ x ∈ l,ItemIn x := by
 obtain ⟨m,es,rfl,hl,he⟩ := ofT_slice Tryd.underlying22 h
 obtain ⟨l,rfl,hi⟩ := list_of (f := flA Item.cells) (Q := ItemIn) fun x hx=>by
  obtain ⟨q1,q2⟩ := he x hx
  obtain ⟨y,hy,hi⟩ := ofT_item q1
  exact ⟨y,by rw [cells_agg (q2.trans agg_item),hy];rfl,hi⟩
 exact ⟨l,rfl,by simpa using hl,hi⟩
theorem flat_one {α β : Type} {f : β → α} {k : List β} : (k.map fun y=>[f y]).flatten = k.map f := by
 induction k with
 |nil=>rfl
 |cons x r ih=>simp [ih]
theorem map_get {α β : Type} (f : α → β) (l : List α) (d : α) : l.map f = (List.range l.length).map fun i=>f (l.getD i d) := by
 refine List.ext_getElem (by simp) fun i h1 h2=>?_
 simp only [List.length_map] at h1
 simp [List.getElem_map,h1]
theorem ofT_trunk {n : Nat} {ds : List AV} (h : ofT Tryd.prog n 26 ds) : ∃ t : Tr,ds = tC t ∧ t.In := by
 obtain ⟨m,a1,b1,rfl,h1,a2,b2,rfl,h2,rfl⟩ := ofT_struct Tryd.underlying26 h
 obtain ⟨m1,ps,hp,rfl,hq⟩ := ofT_array Tryd.underlying23 h1
 obtain ⟨m2,qs,hp2,rfl,hq2⟩ := ofT_array Tryd.underlying24 h2
 obtain ⟨L,rfl,hL⟩ := list_of (f := fun l : List Item=>[lA l]) (Q := fun l=>l.length ≤ maxLen ∧ ∀ x ∈ l,ItemIn x) fun x hx=>ofT_items (hq x hx)
 obtain ⟨Z,rfl,hZ⟩ := list_of (f := fun z : Int=>[nA z]) (Q := fun _=>True) fun x hx=>by
  obtain ⟨i,e,_⟩ := ofT_i64 Tryd.underlying3 (hq2 x hx)
  exact ⟨i,e,trivial⟩
 rw [List.length_map] at hp hp2
 refine ⟨⟨fun i=>L.getD i [],fun i=>Z.getD i 0⟩,?_,fun i=>?_⟩
 ·rw [List.append_nil,flat_one,flat_one,map_get lA L [],map_get nA Z 0,hp,hp2]
  rfl
 ·dsimp only
  by_cases hi : i < L.length
  ·have e : L.getD i [] = L[i] := by simp [hi]
   have hm := hL L[i] (List.getElem_mem hi)
   rw [e]
   exact ⟨hm.1,fun x hx=>(hm.2 x hx).2.2,fun q=>by omega⟩
  ·have e : L.getD i [] = [] := by simp [List.getD,List.getElem?_eq_none (Nat.le_of_not_lt hi)]
   rw [e]
   exact ⟨Nat.zero_le _,(by intro x hx;cases hx),fun _=>rfl⟩
theorem ofT_store {n : Nat} {ds : List AV} (h : ofT Tryd.prog n 28 ds) : ∃ s : St,ds = stC s ∧ s.t.In := by
 obtain ⟨m,a1,b1,rfl,h1,a2,b2,rfl,h2,a3,b3,rfl,h3,a4,b4,rfl,h4,rfl⟩ := ofT_struct Tryd.underlying28 h
 obtain ⟨t,rfl,ht⟩ := ofT_trunk h1
 obtain ⟨v,rfl,_⟩ := ofT_i64 Tryd.underlying3 h2
 obtain ⟨b,rfl,_⟩ := ofT_i64 Tryd.underlying3 h3
 obtain ⟨k,rfl,_⟩ := ofT_i64 Tryd.underlying3 h4
 exact ⟨⟨t,v,b,k⟩,rfl,ht⟩
theorem mk_store {ds : List AV} : mkA Tryd.prog 28 ds = .agg ds := by
 unfold mkA
 rw [if_pos (show aggT Tryd.prog 28 = true by kernel_rfl)]
theorem arg_store {W : World} {v : Value} (h : Arg Tryd.prog W 28 v) : ∃ s : St,s.t.In ∧ rep (SW W) [] (stA s) v := by
 obtain ⟨n,ds,h1,h2⟩ := h
 obtain ⟨t,rfl,ht⟩ := ofT_store h1
 rw [mk_store] at h2
 exact ⟨t,ht,h2⟩
theorem reps2 {S : SS} {d0 d1 : AV} {v0 v1 : Value} (h0 : rep S [] d0 v0) (h1 : rep S [] d1 v1) : ∀ (j : Nat) (d : AV) (v : Value),[d0,d1][j]? = some d → [v0,v1][j]? = some v → rep S [] d v := by
 intro j d v hd hv
 match j with
 |0=>simp at hd hv;subst hd hv;exact h0
 |1=>simp at hd hv;subst hd hv;exact h1
 |j + 2=>simp at hd
end Go.Proofs.YtoeajbhlkccekaaDoor

namespace Go.Proofs.YtoeajbhlkccekaaDoor
open Go.RowKit
section
variable {P : Program}
theorem cell_row {w : World} {g : Nat} {cur : Array Value} {t : TypeId} {fr : Nat × Nat} {m : Nat} {us : List Value} (hg : w.heap[g]? = some (.cells cur t fr)) (htk : cur.toList.take m = us) {j : Nat} {u : Value} (h : us[j]? = some u) : w.cell? ⟨g,j,none⟩ = some u := by
 rw [cell_of_row w g j cur t fr hg,← Array.getElem?_toList]
 rw [← htk,List.getElem?_take] at h
 split at h
 ·exact h
 ·cases h
end
end Go.Proofs.YtoeajbhlkccekaaDoor

namespace Go.Proofs.YtoeajbhlkccekaaDoor
open Go.RowKit
theorem own_mono {w : World} {base base' : Nat} {e : TypeId} {z : Nat} {v : Value} {n : Nat} {xs : List Value} (h : w.ownsRow base e z v n xs) (hb : base' ≤ base) : w.ownsRow base' e z v n xs := by
 refine ⟨h.1,?_⟩
 rcases h.2 with q|⟨g,cap,cur,q1,q2,r⟩
 ·exact .inl q
 ·exact .inr ⟨g,cap,cur,q1,Nat.le_trans hb q2,r⟩
theorem own_cpost {w : World} {S : SS} {μ : List Value} {H : List AObj} (hr : Rel w S μ H) {w' : World} (hb : Below w.heap.size w w') {e : TypeId} {z : Nat} {es : List AV} (hall : allC z es) {us : List Value} (hus : reps S [] (flat es) us) {A : Option Addr} {cap : Nat}
  (hown : w'.ownsRow w.heap.size e z (.slice A es.length cap) es.length us) : CPost w S μ H (Is (OW H.length es.length) (H ++ [⟨2,e,z,es⟩])) (.returned (.slice A es.length cap)) w' := by
 obtain ⟨A',c',e1,hc1,hc2⟩ := own_le hown
 injection e1 with e1 e2 e3
 subst e1 e3
 have hown0 := own_mono hown (Nat.zero_le _)
 let S' : SS := fun b j d=>S b j d ∨ (w.heap.size ≤ b ∧ (∃ q,A = some ⟨b,q,none⟩) ∧ cap ≠ 0 ∧ (flat es)[j]? = some d)
 have hcell : ∀ b j d,w.heap.size ≤ b → (∃ q,A = some ⟨b,q,none⟩) → (flat es)[j]? = some d → ∃ u,w'.cell? ⟨b,j,none⟩ = some u ∧ u.oneCell' = true ∧ rep1 S [] d u := by
  rintro b j d hbb ⟨q,rfl⟩ hd
  rcases hown.2 with ⟨q1,_⟩|⟨g,cp,cur,q1,_,hg,h1,h2,h3,h4⟩
  ·cases q1
  ·injection q1 with q1 q2 q3
   injection q1 with q1
   injection q1 with q1 _ _
   subst q1 q3
   have hj : j < us.length := by rw [hus.1];exact (List.getElem?_eq_some_iff.1 hd).1
   obtain ⟨k1,k2⟩ := hus.2 j d _ hd (List.getElem?_eq_getElem hj)
   exact ⟨_,cell_row hg h4 (List.getElem?_eq_getElem hj),k1,k2⟩
 obtain ⟨q1,q2⟩ := hr.grow (S' := S') hb (fun _ _ _ q=>.inl q) (fun b j d q=>q.imp id fun k=>k.1) (fun b j d q hb'=>by
  rcases q with q|⟨k1,k2,_,k3⟩
  ·have := hr.still_lt q;omega
  ·obtain ⟨u,h1,h2,h3⟩ := hcell b j d k1 k2 k3
   exact ⟨u,h1,h2,h3.ext ⟨fun _ _ _ q=>.inl q,fun i x hx=>by simp at hx⟩⟩)
 have hbl : ∀ b,blkOf (.slice A es.length cap) = some b → w.heap.size ≤ b ∧ cap ≠ 0 := by
  intro b hbk
  cases A with
  |none=>simp [blkOf] at hbk
  |some a =>
   simp only [blkOf] at hbk
   split at hbk
   ·cases hbk
   ·rename_i hc
    injection hbk with hbk
    subst hbk
    rcases hown.2 with ⟨q1,_⟩|⟨g,cp,cur,q1,hbg,_⟩
    ·cases q1
    ·injection q1 with q1;injection q1 with q1;subst q1
     exact ⟨hbg,hc⟩
 have q3 : Rel w' S' (μ ++ [.slice A es.length cap]) (H ++ [⟨2,e,z,es⟩]) := by
  refine q1.add (.inr (.inr (.inl rfl))) ⟨fun h=>by simp at h,fun _=>⟨us,A,cap,rfl,hc1,hc2,fun _=>hown0,fun hne=>?_⟩,fun h=>by simp at h⟩ fun b hbk=>?_
  ·have hpos : 0 < es.length := List.length_pos_iff.2 hne
   rcases hown.2 with ⟨q1,_⟩|⟨g,cp,cur,q1,hbg,_⟩
   ·injection q1 with _ q1;omega
   ·injection q1 with q1
    refine ⟨g,q1,inS_flat hall fun j y hy=>.inr ⟨hbg,⟨0,q1⟩,by have : es.length ≤ cap := hc1;omega,by simpa using hy⟩⟩
  ·obtain ⟨k1,k2⟩ := hbl b hbk
   refine ⟨?_,fun j d hs=>⟨rfl,?_⟩⟩
   ·rintro ⟨k,y,o,hy,ho,hk,hb'⟩
    have := hr.own_lt hy ho hk hb';omega
   ·rcases hs with hs|⟨_,_,_,hd⟩
    ·have := hr.still_lt hs;omega
    ·have := (List.getElem?_eq_some_iff.1 hd).1
     rw [flatE_length hall] at this
     exact this
 refine ⟨_,_,_,S',_,rfl,⟨rfl,rfl⟩,q3,⟨A,es.length,cap,A,cap,by rw [← hr.len];simp,Nat.le_refl _,rfl,fun _=>⟨rfl,rfl⟩⟩,q2.add hr.len fun b hbk=>?_⟩
 exact (hbl b hbk).1
end Go.Proofs.YtoeajbhlkccekaaDoor

namespace Go.Proofs.YtoeajbhlkccekaaDoor
open Go.RowKit
inductive Unbad (bad : AV → Prop) : AV → Prop
 |nil : Unbad bad .nil
 |held (x) : Unbad bad (.held x)
 |slice (es : List AV) : (∀ d ∈ es,∀ y ∈ cellsOf d,¬ bad y) → (∀ d ∈ es,∀ y ∈ cellsOf d,Unbad bad y) → Unbad bad (.slice es [])
 |ptr (d : AV) : (∀ y ∈ cellsOf d,¬ bad y) → (∀ y ∈ cellsOf d,Unbad bad y) → Unbad bad (.ptr d)
section
variable {P : Program} {G : Gl} {S S2 : SS} {n0 : Nat} {bad : AV → Prop}
theorem rel_none {w : World} {μ : List Value} {H : List AObj} (hr : Rel w S μ H) : Rel w S [] [] :=
 ⟨rfl,hr.still,fun i x o hi=>by simp at hi,fun i x o hi=>by simp at hi,fun i i' x x' o o' b hi=>by simp at hi,fun i x o b hi=>by simp at hi⟩
theorem flat_inS {b z : Nat} : ∀ {es : List AV} {o : Nat},inS S b o z es → ∀ (j : Nat) (y : AV),(flat es)[j]? = some y → S b (o + j) y
 |[],o,h,j,y,hy=>by simp [flat] at hy
 |d :: r,o,h,j,y,hy=>by
  obtain ⟨h1,h2⟩ := h 0 d rfl
  have hf : flat (d :: r) = cellsOf d ++ flat r := by simp [flat]
  rw [hf] at hy
  by_cases hj : j < (cellsOf d).length
  ·rw [List.getElem?_append_left hj] at hy
   have := h2 j y hy
   simpa using this
  ·rw [List.getElem?_append_right (by omega)] at hy
   have := flat_inS (es := r) (o := o + z) (fun i d' hd=>⟨(h (i + 1) d' (by simpa using hd)).1,fun k y hk=>by
    have := (h (i + 1) d' (by simpa using hd)).2 k y hk
    rwa [show o + (i + 1) * z + k = o + z + i * z + k by rw [Nat.succ_mul];omega] at this⟩) (j - z) y (by rw [← h1];exact hy)
   rwa [show o + z + (j - z) = o + j by omega] at this
theorem row_core {w w' : World} {H3 : List AObj} {μ' : List Value} {e : TypeId} {z i : Nat} {es : List AV} {v : Value} (hall : allC z es) (hes : ∀ y ∈ flat es,∃ u,y = V u) (hrel : Rel w' S2 μ' H3) (hi : H3[i]? = some ⟨2,e,z,es⟩) (hst : Step 0 w S [] [] w' S2 μ' H3) (hrep : rep S2 μ' (OW i es.length) v) :
  ∃ A c,v = .slice A es.length c ∧ es.length ≤ c ∧ c ≤ maxLen ∧ (∀ b,blkOf (.slice A es.length c) = some b → w.heap.size ≤ b) ∧ (c ≠ 0 → ∃ us,w'.ownsRow w.heap.size e z (.slice A es.length c) es.length us ∧ reps S [] (flat es) us) := by
 obtain ⟨A,m,c,A',c',hμ,hn,rfl,heq⟩ := hrep
 obtain ⟨us,A2,c2,e2,l1,l2,hown,hin⟩ := (hrel.objs i _ _ hμ hi).2.1 rfl
 dsimp only at e2 l1 hown hin
 injection e2 with e2 e3 e4
 subst e2 e3 e4
 obtain ⟨rfl,rfl⟩ := heq rfl
 have hblk : ∀ b,blkOf (.slice A' es.length c') = some b → w.heap.size ≤ b := by
  intro b hb
  apply Nat.le_of_not_lt
  intro hlt
  obtain ⟨i0,x0,o0,hx0,_⟩ := hst.mine b ⟨i,_,_,hμ,hi,by simp,hb⟩ hlt
  simp at hx0
 refine ⟨A',c',rfl,l1,l2,hblk,fun h0=>⟨us,⟨(hown h0).1,?_⟩,?_⟩⟩
 ·rcases (hown h0).2 with q|⟨g,cap,cur,q,hb,r⟩
  ·exact .inl q
  ·refine .inr ⟨g,cap,cur,q,hblk g ?_,r⟩
   injection q with q _ _
   subst q
   simp only [blkOf]
   rw [if_neg h0]
 ·rcases (hown h0).2 with ⟨q,_⟩|⟨g,cap,cur,q,_,hg2,k1,k2,k3,k4⟩
  ·injection q with _ _ q;exact absurd q h0
  injection q with q _ qc
  subst q qc
  have hlen : us.length = (flat es).length := by rw [(hown h0).1,flatE_length hall]
  refine ⟨hlen,fun j y u hy hu=>?_⟩
  have hne : es ≠ [] := by rintro rfl;simp [flat] at hy
  obtain ⟨b,hb,hin⟩ := hin hne
  injection hb with hb;injection hb with hb
  subst hb
  have hs := flat_inS hin j y hy
  rw [Nat.zero_add] at hs
  obtain ⟨u',h1,h2,h3⟩ := hrel.still _ _ _ hs
  have hc := cell_row hg2 k4 hu
  rw [hc] at h1
  injection h1 with h1
  subst h1
  obtain ⟨u2,rfl⟩ := hes y (List.mem_of_getElem? hy)
  exact ⟨h2,h3⟩
end
end Go.Proofs.YtoeajbhlkccekaaDoor

namespace Go.Proofs.YtoeajbhlkccekaaDoor
open Go.RowKit
theorem flat_items (l : List Item) : flat (l.map (flA Item.cells)) = (l.flatMap Item.cells).map fun u=>V u := by
 unfold flat
 induction l with
 |nil=>rfl
 |cons x l ih=>rw [List.map_cons,List.flatMap_cons,ih,List.flatMap_cons,List.map_append];rfl
theorem allC_items (l : List Item) : allC 5 (l.map (flA Item.cells)) := fun d hd=>by
 obtain ⟨b,_,rfl⟩ := List.mem_map.1 hd
 rfl
theorem reps_items (S : SS) (l : List Item) : reps S [] (flat (l.map (flA Item.cells))) (l.flatMap Item.cells) := by
 rw [flat_items]
 refine ⟨by simp,fun j d u hd hu=>?_⟩
 rw [List.getElem?_map,hu] at hd
 injection hd with hd
 subst hd
 obtain ⟨x,_,hx⟩ := List.mem_flatMap.1 (List.mem_of_getElem? hu)
 have := it_one x u hx
 exact ⟨this,rfl,this⟩
theorem with_ac (l : List Item) (x : Item) (hl : l.length ≤ 1000000) (hxk : x.key.length ≤ maxLen) (hk : ∀ x ∈ l,x.key.length ≤ maxLen) (H : List AObj) :
  AC Tryd.prog GG 58 [lA l,iA x] H (Is (OW H.length (withK l x).length) (H ++ [⟨2,58,5,(withK l x).map (flA Item.cells)⟩])) := by
 refine ⟨by kernel_rfl,fun w S μ vs hr hg hlen hv=>?_⟩
 rcases vs with _|⟨v1,_|⟨v2,_|⟨_,_⟩⟩⟩ <;> simp at hlen
 obtain ⟨A1,c1,rfl,hc1,hm1,hF1⟩ := fs_of (f := Item.cells) it_five (by omega) (rel_none hr) ((hv 0 _ v1 rfl rfl).none rfl)
 have e2 := arg_fl ((hv 1 _ v2 rfl rfl).none rfl);subst e2
 refine (rwith_any A1 l c1 x.key x.kind x.i x.s x.ver w hF1 hl hxk hk).mono ?_
 rintro e w' ⟨A,cap,rfl,ho,hb⟩
 have hn : (withK l x).length = ((withK l x).map (flA Item.cells)).length := (List.length_map ..).symm
 rw [hn] at ho ⊢
 exact own_cpost hr hb (allC_items _) (reps_items S _) ho
def rowsA (l : List Item) (k : Nat) : List AObj := (List.range k).map fun j=>⟨2,58,5,(foldK l (j + 1)).map (flA Item.cells)⟩
theorem rowsA_succ (l : List Item) (k : Nat) : rowsA l (k + 1) = rowsA l k ++ [⟨2,58,5,(foldK l (k + 1)).map (flA Item.cells)⟩] := by
 unfold rowsA
 rw [List.range_succ,List.map_append];rfl
theorem rowsA_len (l : List Item) (k : Nat) : (rowsA l k).length = k := by simp [rowsA]
def slO (l : List Item) : Nat → AV
 |0=>V (.slice none 0 0)
 |k + 1=>OW (k + 1) (foldK l (k + 1)).length
theorem slO_ro (l : List Item) (o : AObj) : ∀ k,ro (o :: rowsA l k) (slO l k) = lA (foldK l k)
 |0=>rfl
 |k + 1=>by
  have h : (o :: rowsA l (k + 1))[k + 1]? = some ⟨2,58,5,(foldK l (k + 1)).map (flA Item.cells)⟩ := by
   rw [List.getElem?_cons_succ,rowsA_succ,List.getElem?_append_right (by rw [rowsA_len];omega),rowsA_len,Nat.sub_self];rfl
  show ro1 (o :: rowsA l (k + 1)) (OW (k + 1) (foldK l (k + 1)).length) = _
  show (match (o :: rowsA l (k + 1))[k + 1]? with
   |some ob=>if ob.k = 2 ∧ (foldK l (k + 1)).length = ob.c.length then SL ob.c else OW (k + 1) (foldK l (k + 1)).length
   |none=>OW (k + 1) (foldK l (k + 1)).length) = _
  rw [h]
  show (if _ then _ else _) = _
  rw [if_pos ⟨rfl,(List.length_map ..).symm⟩]
  rfl
end Go.Proofs.YtoeajbhlkccekaaDoor

namespace Go.Proofs.YtoeajbhlkccekaaDoor
open Go.RowKit
theorem all_facts {t : Tr} (h : TInv t) : (allTo t 16).length ≤ 1024 ∧ (∀ x ∈ allTo t 16,x.key.length ≤ maxLen) ∧ sortA t = foldK (allTo t 16) (allTo t 16).length ∧ ∀ k,k ≤ (allTo t 16).length → (∀ y ∈ foldK (allTo t 16) k,y ∈ allTo t 16) ∧ (foldK (allTo t 16) k).length ≤ k := by
 have hf := front_of h.may
 have hp := all_pair hf 16 (Nat.le_refl _)
 have hmem : ∀ x ∈ allTo t 16,x.key.length ≤ maxLen := by
  intro x hx
  obtain ⟨i,hi,hx⟩ := allTo_mem hx
  exact ((h.ok i).2.1 x hx).1
 have hsort : sortA t = foldK (allTo t 16) (allTo t 16).length := by unfold sortA foldW foldK;rw [List.take_length]
 have h64 : (allTo t 16).length ≤ 1024 := by
  have key : ∀ k,k ≤ 16 → (allTo t k).length ≤ k * 64 := by
   intro k
   induction k with
   |zero=>intro _;simp [allTo]
   |succ k ih =>
    intro hk
    rw [allTo_succ,List.length_append]
    have := ih (by omega)
    have := ((leafB_iff _).1 (fits_leaf h.may (show k < 16 by omega))).1
    omega
  exact key 16 (Nat.le_refl _)
 refine ⟨h64,hmem,hsort,fun k hk=>?_⟩
 induction k with
 |zero=>exact ⟨fun y hy=>(by cases hy),Nat.le_refl _⟩
 |succ k ih =>
  obtain ⟨i1,i2⟩ := ih (by omega)
  rw [foldK_succ (by omega)]
  refine ⟨fun y hy=>?_,?_⟩
  ·unfold withK at hy
   simp only [List.mem_append,List.mem_filter,List.mem_singleton] at hy
   rcases hy with (⟨hy,_⟩|hy)|⟨hy,_⟩
   ·exact i1 y hy
   ·rw [hy];exact List.getElem_mem _
   ·exact i1 y hy
  ·have hs : Srt (foldK (allTo t 16) k) := (fold_law ((allTo t 16).take k) [] List.Pairwise.nil (hp.sublist (List.take_sublist _ _)) (fun x _ z hz=>by cases hz)).1
   have := withK_len hs (allTo t 16)[k]
   split at this <;> omega
theorem rall_acp (t : Tr) (h : t.Ok) : ACp Tryd.prog GG 31 [tA t] (lA (allTo t 16)) := plenumref10_All_ok 17 [_] _ _ (rall_s 17 t (by omega) h)
theorem hle_refl : ∀ H : List AObj,HLe H H
 |[]=>trivial
 |o :: H=>⟨.inl rfl,hle_refl H⟩
theorem rows_all {l : List Item} {k n : Nat} : (rowsA l k).all (ltO n) = true := by
 rw [List.all_eq_true]
 intro o ho
 obtain ⟨j,_,rfl⟩ := List.mem_map.1 ho
 exact lt_it _ _
theorem slO_lt {l : List Item} : ∀ {k n : Nat},k < n → ltT n (slO l k) = true
 |0,_,_=>rfl
 |k + 1,n,h=>by show decide (k + 1 < n) = true;exact decide_eq_true h
attribute [local go_sem_proc] Nat.reduceEqDiff Nat.reduceAdd Nat.reduceSub Nat.reduceMul Nat.reduceLeDiff Nat.reduceLT Int.reduceEq Int.reduceNe Int.reduceLT Int.reduceLE Int.reduceAdd Int.reduceSub Int.reduceMul Int.reduceNeg Int.reduceToNat reduceCtorEq
attribute [local go_sem_proc ↓] reduceIte
attribute [local go_sem ↓] str_size pk_tt pk_ff hold_one hold_two gO_some gA_tt gA_tf gA_ft gA_ff cA_true cA_false yP_n yP_r yK_n yK_r yQ_n yQ_r yC_nil yC_tmp yC_cell yo_nil yo_cons yo_none yo_guard yo_guardN ys_move ys_assign ys_pick ys_bin ys_un ys_build ys_buildSlice ys_load ys_nilCheck ys_conv ys_extract ys_fieldAddr ys_field ys_indexAddr ys_index ys_slice ys_len ys_alloc ys_box ys_store ys_call ys_append ys_makeFunc ys_callv yd_nil yd_alloc yd_store yd_move yg_move yd_assign yg_assign yd_pick yg_pick yd_bin yg_bin yd_un yg_un yd_build yg_build yd_buildSlice yg_buildSlice yd_load yg_load yd_nilCheck yg_nilCheck yd_conv yg_conv yd_extract yg_extract yd_fieldAddr yg_fieldAddr yd_field yg_field yd_indexAddr yg_indexAddr yd_index yg_index yd_slice yg_slice yd_len yg_len yd_call yg_call ixA_eq sl_es sl_row sl_nil ap_eq bs_eq bl_eq cv_eq ixV_agg thenA_n thenA_r thenA_x inB_n inB_r inB_x loop_r loop_x dstAt_zero dstAt_succ retP_n retP_r
attribute [local go_sem] hle_nil hle_cons oO_one oO_two oO_three oO_nil r1_r0 r1_r1 r1_r2 r1_r3 ro_OW roA_OW go_some al_some okX_f okX_t tells regOnly cv_cl cap0_V cap0_OP cap0_ptr ixA_s ixA_p ixA_o szOf_one szOf_two ixV_str ixW_some sl_str slE_some apE_nil apE_row bsE_one flE_some pget_zero pget_succ blE_some fil_nil fil_cons filB_some cvE_some cv_str' str_list str_cut str_data cut_all cut_to s_eql s_neq s_add s_lss s_geq s_leq s_gtr lt1 set_some set_none get_cons ev_tmp ev_const ev_func ev_global glob_cons cv_int cv_bool cv_str cv_slice cv_ptr cv_agg one_int one_bool one_str one_slice one_ptr b_add b_sub b_mul b_quo b_rem b_and b_or b_xor b_andNot b_shl b_shr b_eql b_neq b_lss b_leq b_gtr b_geq b_str b_beq b_bne u_not u_neg g_tt g_tf g_ft g_ff c_true c_false ex_tu nth_zero nth_succ nthO_zero nthO_succ l_ptr l_ptrV l_ptrS l_op cP_one pP_one oc_one oc_agg st_op f_ptr f_op fv_agg co_agg co_V co_slice co_OW co_OP co_ptr sure_V sure_slice sure_OW sure_OP sure_ptr sure_agg sc_nil sc_cons ixS ixSW ixSN bsV_nil bsV_cons el_slice el_row el_nil len_str len_slice len_row len_nil asI_none asI_some nil_op nil_ptr ro_int ro_bool ro_str ro_nils ro_slice ro_ptr ro_OP ro_OW ro_agg ro_tu roA_agg roA_V roA_slice roA_OW roA_OP roA_ptr r1_int r1_bool r1_str r1_nils r1_slice r1_ptr r1_OP resA_one resA_two resA_three noT_V noT_agg noT_slice noT_OW noT_OP noT_ptr noT_nil argsT_nil argsT_cons allC_nil allC_cons allC_append hle_nil hle_cons le_nil le_cons tT_V tT_SL tT_ptr tT_OW tT_OP tT_agg tT_TU tA_V tA_SL tA_ptr tA_OW tA_OP tA_agg t1_V t1_SL t1_ptr t1_OW t1_OP tO_mk get_cons beq_self_eq_true Nat.zero_lt_succ Nat.lt_add_one true_or or_true Bool.or_self Nat.zero_add Nat.add_zero Nat.mul_one Int.toNat_natCast Int.natCast_zero Int.natCast_add Int.cast_ofNat_Int or_false false_or or_true true_or Nat.sub_zero Int.natCast_nonneg Int.toNat_zero Bool.true_and Bool.and_true Bool.false_and Bool.and_false Bool.true_or Bool.or_true Bool.false_or Bool.or_false Bool.not_true Bool.not_false Bool.not_not true_and and_true false_and and_false not_true_eq_false not_false_eq_true eq_self decide_true decide_false ne_eq implies_true forall_const true_implies false_implies Bool.true_eq_false Bool.false_eq_true List.map_cons List.map_nil List.all_cons List.all_nil List.length_cons List.length_nil List.length_map List.length_append List.nil_append List.cons_append List.set_cons_zero List.set_cons_succ List.set_nil List.drop_zero List.drop_succ_cons List.drop_nil List.take_zero List.take_succ_cons List.take_nil Option.map_some Option.map_none Option.isSome_some tk_2 tk_3 tk_9 tk_22 tk_23 tk_24 tk_26 tk_28 tk_32 tk_43 tk_47 tk_58 tk_74 tk_109 tf_26_0 tf_26_1 tf_28_0 tf_28_1 tf_28_2 tf_28_3 tf_43_0 tf_43_1 tf_43_2 tf_47_0 tf_47_1 tf_58_0 tf_58_1 tf_58_2 tf_74_0 tf_74_1 ts_9 ts_22 ts_23 ts_24 ts_29 ts_104 ts_107 ts_121 ts_124 ta_9 ta_22 ta_23 ta_24 ta_29 ta_121 ta_124 tp_26 tp_28 tp_43 tp_47 tp_58 tp_74 tq_22 tq_29 tq_104 tq_107 tq_121 ti_3 ti_5 ti_109 tz_43 tz_58 tv_2 tv_3 tu_4 tv_4 tv_5 tu_9 tv_9 tv_32 tv_109 iA_def fl_it allC_it foldA_all lt_it lt_fold lA_def leC_lt1 tC_len zC_len tC_sure tC_lt1 tC_ltA zC_ltA zC_lt1 tC_ro zC_sure zC_ro tC_take zC_take tC_take16 sc_tt sc_zt sc_tz sc_zz add16 tz_T tA_def
set_option maxHeartbeats 400000 in
theorem all_ac (t : Tr) (h : TInv t) : AC Tryd.prog GG 53 [tA t] [] (Is (slO (allTo t 16) (allTo t 16).length) (⟨1, 26, 0, tC t⟩ :: rowsA (allTo t 16) (allTo t 16).length)) := by
  obtain ⟨h1, h2, h3, h4⟩ := all_facts h
  have hA := rall_acp t h.ok
  generalize allTo t 16 = l at *
  refine ac_of_wpC (c := _) Tryd.func53 rfl (by kernel_rfl) [.tmp 2] rfl _ Tryd.ntmps53 (Nat.le_of_ble_eq_true rfl) ?_
  repeat' (first | (refine call_pure hA rfl ?_) | (with_reducible first | refine aq ?_ | refine yr (by kernel_rfl) (Nat.le_of_ble_eq_true rfl) ?_ | refine yx MIX (by kernel_rfl) (by kernel_rfl) (by kernel_rfl) (Nat.le_of_ble_eq_true rfl) ?_ | refine yc ?_ | refine yseq ?_ | refine awp_block ?_ | refine awp_ret ?_ | refine awp_exit ?_ | refine awp_skip ?_ | refine yr1 (by kernel_rfl) (Nat.le_of_ble_eq_true rfl) ?_ | refine yx1 MIX (by kernel_rfl) (by kernel_rfl) (by kernel_rfl) (Nat.le_of_ble_eq_true rfl) ?_) | (simp only [go_sem]) | ((with_reducible first | refine cA_t (by first | assumption | (simp only [decide_eq_true_eq, decide_eq_false_iff_not]; first | assumption | omega)) (fun h => ?_) | refine cA_f (by first | assumption | (simp only [decide_eq_true_eq, decide_eq_false_iff_not]; first | assumption | omega)) (fun h => ?_) | refine gA_t (by first | assumption | (simp only [decide_eq_true_eq, decide_eq_false_iff_not]; first | assumption | omega)) (fun h => ?_) | refine gA_f (by first | assumption | (simp only [decide_eq_true_eq, decide_eq_false_iff_not]; first | assumption | omega)) (fun h => ?_) | refine pk_t (by first | assumption | (simp only [decide_eq_true_eq, decide_eq_false_iff_not]; first | assumption | omega)) (fun h => ?_) | refine pk_f (by first | assumption | (simp only [decide_eq_true_eq, decide_eq_false_iff_not]; first | assumption | omega)) (fun h => ?_)) <;> (try rewrite [h]) <;> clear h) | (with_reducible refine pk_if ?_) | ((with_reducible first | refine cA_split (fun h => ?_) (fun h => ?_) | refine gA_split (fun h => ?_) (fun h => ?_)) <;> (try rewrite [h]) <;> (try simp (disch := omega) only [w_i64, w_u64, tdiv_pos, tmod_pos, nth_map, foldA_len, nth_le, nth_tl, nth_tv, set_tl, set_tv] at h) <;> (try simp only [decide_eq_true_eq, decide_eq_false_iff_not, Bool.not_eq_true, Bool.not_eq_false, Bool.not_eq_true', Bool.not_eq_false', not_true_eq_false, not_false_eq_true] at h) <;> (try (exfalso; omega))) | (simp (disch := omega) only [w_i64, w_u64, tdiv_pos, tmod_pos, nth_map, foldA_len, nth_le, nth_tl, nth_tv, set_tl, set_tv]) | (with_reducible first | refine And.intro (by first | assumption | rfl | omega) ?_ | refine And.intro ?_ ?_))
  refine awp_loop (ι := {k : Nat // k ≤ l.length}) (fun k => ⟨⟨1, 26, 0, tC t⟩ :: rowsA l k.1, [(3, slO l k.1), (4, SL (l.map (flA Item.cells))), (5, V (.int .i64 k.1))]⟩) (fun k => l.length - k.1) ⟨0, Nat.zero_le _⟩ ?_ (Nat.zero_le _) ?_
  · (refine le_mk ?_ ?_ ?_ <;> (try simp (disch := omega) only [go_sem, w_i64, w_u64, tdiv_pos, tmod_pos, nth_map, foldA_len, nth_le, nth_tl, nth_tv, set_tl, set_tv]))
    all_goals first | rfl | exact ⟨rfl, rfl⟩ | exact trivial
  rintro ⟨k, hk⟩
  dsimp only
  have hro := slO_ro l ⟨1, 26, 0, tC t⟩ k
  generalize hX : (⟨1, 26, 0, tC t⟩ :: rowsA l k : List AObj) = X at hro ⊢
  generalize hY : slO l k = Y at hro ⊢
  have hXl : X.length = k + 1 := by rw [← hX]; simp [rowsA_len]
  have hXs : ∀ hk2 : k < l.length, X ++ [⟨2, 58, 5, (withK (foldK l k) l[k]).map (flA Item.cells)⟩] = ⟨1, 26, 0, tC t⟩ :: rowsA l (k + 1) := fun hk2 => by rw [← hX, rowsA_succ, foldK_succ hk2]; rfl
  have hYs : ∀ hk2 : k < l.length, OW X.length (withK (foldK l k) l[k]).length = slO l (k + 1) := fun hk2 => by rw [hXl, ← foldK_succ hk2]; rfl
  repeat' (first | (refine call_keep (with_ac (foldK l k) (l[k]'(by omega)) (by have := (h4 k hk).2; omega) (h2 _ (List.getElem_mem _)) (fun x hx => h2 x ((h4 k hk).1 x hx)) _) ?_) | (refine loop_n ⟨k + 1, by omega⟩ ?_ (Nat.zero_le _) (by dsimp only; omega)) | (with_reducible first | refine aq ?_ | refine yr (by kernel_rfl) (Nat.le_of_ble_eq_true rfl) ?_ | refine yx MIX (by kernel_rfl) (by kernel_rfl) (by kernel_rfl) (Nat.le_of_ble_eq_true rfl) ?_ | refine yc ?_ | refine yseq ?_ | refine awp_block ?_ | refine awp_ret ?_ | refine awp_exit ?_ | refine awp_skip ?_ | refine yr1 (by kernel_rfl) (Nat.le_of_ble_eq_true rfl) ?_ | refine yx1 MIX (by kernel_rfl) (by kernel_rfl) (by kernel_rfl) (Nat.le_of_ble_eq_true rfl) ?_) | (simp only [go_sem, hro]) | ((with_reducible first | refine cA_t (by first | assumption | (simp only [decide_eq_true_eq, decide_eq_false_iff_not]; first | assumption | omega)) (fun h => ?_) | refine cA_f (by first | assumption | (simp only [decide_eq_true_eq, decide_eq_false_iff_not]; first | assumption | omega)) (fun h => ?_) | refine gA_t (by first | assumption | (simp only [decide_eq_true_eq, decide_eq_false_iff_not]; first | assumption | omega)) (fun h => ?_) | refine gA_f (by first | assumption | (simp only [decide_eq_true_eq, decide_eq_false_iff_not]; first | assumption | omega)) (fun h => ?_) | refine pk_t (by first | assumption | (simp only [decide_eq_true_eq, decide_eq_false_iff_not]; first | assumption | omega)) (fun h => ?_) | refine pk_f (by first | assumption | (simp only [decide_eq_true_eq, decide_eq_false_iff_not]; first | assumption | omega)) (fun h => ?_)) <;> (try rewrite [h]) <;> clear h) | (with_reducible refine pk_if ?_) | ((with_reducible first | refine cA_split (fun h => ?_) (fun h => ?_) | refine gA_split (fun h => ?_) (fun h => ?_)) <;> (try rewrite [h]) <;> (try simp (disch := omega) only [w_i64, w_u64, tdiv_pos, tmod_pos, nth_map, foldA_len, nth_le, nth_tl, nth_tv, set_tl, set_tv] at h) <;> (try simp only [decide_eq_true_eq, decide_eq_false_iff_not, Bool.not_eq_true, Bool.not_eq_false, Bool.not_eq_true', Bool.not_eq_false', not_true_eq_false, not_false_eq_true] at h) <;> (try (exfalso; omega))) | (simp (disch := omega) only [w_i64, w_u64, tdiv_pos, tmod_pos, nth_map, foldA_len, nth_le, nth_tl, nth_tv, set_tl, set_tv]) | (with_reducible first | refine And.intro (by first | assumption | rfl | omega) ?_ | refine And.intro ?_ ?_))
  · rw [hXs (by omega), hYs (by omega)]
    have e1 : (rowsA l (k + 1)).length = k + 1 := rowsA_len l _
    (refine le_mk ?_ ?_ ?_ <;> (try simp (disch := omega) only [go_sem, w_i64, w_u64, tdiv_pos, tmod_pos, nth_map, foldA_len, nth_le, nth_tl, nth_tv, set_tl, set_tv, e1, rows_all, slO_lt]))
    all_goals exact hle_refl _
  · obtain rfl : k = l.length := by omega
    subst hX hY
    refine ⟨_, _, .inl rfl, hle_refl _, ?_, Nat.zero_le _, ?_, rfl, rfl⟩
    · rw [List.all_cons, rows_all, Bool.and_true]; exact (tC_ltA (t := t) (m := (⟨1, 26, 0, tC t⟩ :: rowsA l l.length : List AObj).length))
    · exact slO_lt (by simp [rowsA_len])
theorem all_any (t : Tr) (h : TInv t) {w : World} {S : SS} (hr : Rel w S [] []) (hg : GOk GG S) {v : Value} (hv : rep S [] (tA t) v) : Calls Tryd.prog 53 #[v] w (FsOut Item.cells 5 58 w (sortA t)) := by
 obtain ⟨h1,h2,h3,h4⟩ := all_facts h
 have key := (all_ac t h).2 w S [] [v] hr hg rfl (fun j d u hd hu=>by
  rcases j with _|j
  ·cases hd;cases hu;exact hv
  ·cases hd)
 refine key.mono ?_
 rintro e w' ⟨u,r,H',S2,μ',he,⟨rfl,rfl⟩,hrel,hrep,hst⟩
 rw [h3]
 generalize hl : allTo t 16 = l at *
 cases hk : l.length with
 |zero =>
  rw [hk] at hrep
  have e0 : foldK l 0 = [] := rfl
  rw [e0]
  have : u = .slice none 0 0 := hrep.1
  subst this
  exact ⟨none,0,he,World.ownsRow_nil _ _ _ _,hst.below⟩
 |succ k =>
  rw [hk] at hrep hrel hst
  have hi : ((⟨1,26,0,tC t⟩ : AObj) :: rowsA l (k + 1))[k + 1]? = some ⟨2,58,5,(foldK l (k + 1)).map (flA Item.cells)⟩ := by
   rw [List.getElem?_cons_succ,rowsA_succ,List.getElem?_append_right (by rw [rowsA_len];omega),rowsA_len,Nat.sub_self];rfl
  have hn : (foldK l (k + 1)).length = ((foldK l (k + 1)).map (flA Item.cells)).length := (List.length_map ..).symm
  have hrep : rep S2 μ' (OW (k + 1) ((foldK l (k + 1)).map (flA Item.cells)).length) u := by rw [← hn];exact hrep
  have hV : ∀ y ∈ flat ((foldK l (k + 1)).map (flA Item.cells)),∃ u,y = V u := fun y hy=>by
   rw [flat_items] at hy
   obtain ⟨u,_,rfl⟩ := List.mem_map.1 hy
   exact ⟨u,rfl⟩
  obtain ⟨A,c,rfl,l1,l2,hblk,hown⟩ := row_core (S := S) (allC_items _) hV hrel hi hst hrep
  have hpos : 0 < (foldK l (k + 1)).length := by
   rw [foldK_succ (by omega)]
   unfold withK
   simp only [List.length_append,List.length_cons]
   omega
  obtain ⟨us,q1,q2⟩ := hown (by omega)
  have hus : us = (foldK l (k + 1)).flatMap Item.cells := by
   rw [flat_items] at q2
   exact reps_plain q2
  subst hus
  rw [← hn] at q1
  exact ⟨A,c,by rw [he,hn],q1,hst.below⟩
end Go.Proofs.YtoeajbhlkccekaaDoor

namespace Go.Proofs.YtoeajbhlkccekaaDoor
open Go.RowKit
section
variable {P : Program} {ops : Array Oper}
theorem filter_less {p q : Nat → Bool} {j : Nat} : ∀ {l : List Nat},l.Nodup → j ∈ l → p j = true → q j = false → (∀ x,x ≠ j → q x = p x) → (l.filter q).length + 1 = (l.filter p).length
 |[],_,h,_,_,_=>by cases h
 |x :: r,hn,hj,hp,hq,he=>by
  obtain ⟨n1,n2⟩ := List.nodup_cons.1 hn
  simp only [List.filter_cons]
  by_cases hx : x = j
  ·subst hx
   rw [hp,hq]
   have : r.filter q = r.filter p := List.filter_congr fun y hy=>he y fun e=>n1 (e ▸ hy)
   rw [if_pos rfl,if_neg (by decide),this];rfl
  ·have hj' : j ∈ r := by
    rcases List.mem_cons.1 hj with e|h
    ·exact absurd e.symm hx
    ·exact h
   have ih := filter_less n2 hj' hp hq he
   rw [he x hx]
   cases p x
   ·exact ih
   ·simp only [if_true,List.length_cons];omega
def headL (size n : Nat) : Array Bool := ((List.range size).map fun i=>decide (i < n)).toArray
theorem wpAny_head_tail {Φ : Nat → Value → World → Prop} {a0 : Act} {w0 : World} {Q : Exit → Act → World → Prop} {n : Nat}
    (hst : ∀ j v w w', Gr w w' → Φ j v w → Φ j v w') (hsh : slotShape ops a0.tmps.size = true)
    (hs : Region.sinkB .any ops n = true) (hc : Region.chainB .any ops n = true) (hn : n < ops.size) (hseq : Region.seqB .any ops (ops.size - n) n (headL ops.size n) = true)
    (hop : ∀ j o, j < n → ops[j]? = some o → ∀ a w, OpSees ops Φ a0 w0 j o a w → Does P ops o a w (Φ j))
    (htail : ∀ a w, Gr w0 w → a.defers = a0.defers → a.tmps.size = a0.tmps.size → (∀ k ok d, k < n → ops[k]? = some ok → ok.dst = some d → Φ k (a.tmps.getD d undef) w) →
      (∀ d, untouched ops d = true → a.tmps.getD d undef = a0.tmps.getD d undef) → wpList P ops Q (ops.toList.drop n) a w) :
    ∀ (f : Nat) (listed : Array Bool) (a : Act) (w : World), SlotInv ops Φ a0 w0 listed a w → (∀ t, n ≤ t → t < ops.size → listed.getD t true = false) → ((List.range n).filter fun i => !listed.getD i false).length = f → wpAny P .any ops Q (f + (ops.size - n)) listed a w := by
  have all_of : ∀ {listed : Array Bool}, ((List.range n).filter fun i => !listed.getD i false).length = 0 → ∀ k, k < n → listed.getD k false = true := by
    intro listed h k hk
    have h0 := List.filter_eq_nil_iff.1 (List.eq_nil_of_length_eq_zero h) k (List.mem_range.2 hk)
    simpa using h0
  intro f
  induction f with
  | zero =>
    intro listed a w hI ht hlen
    have hall := all_of hlen
    have e : listed = headL ops.size n := by
      apply Array.ext
      · simp [headL, hI.len]
      · intro i h1 h2
        have hi : i < ops.size := by rw [← hI.len]; exact h1
        have e2 : (headL ops.size n)[i] = decide (i < n) := by simp [headL]
        rw [e2]
        rcases Nat.lt_or_ge i n with q | q
        · have := hall i q
          simp only [Array.getD_eq_getD_getElem?, Array.getElem?_eq_getElem h1, Option.getD_some] at this
          rw [this, decide_eq_true q]
        · have := ht i q hi
          simp only [Array.getD_eq_getD_getElem?, Array.getElem?_eq_getElem h1, Option.getD_some] at this
          rw [this, decide_eq_false (by omega)]
    have hl : (ops.toList.drop n).length = ops.size - n := by simp
    have key := wpAny_of_seq (P := P) (md := .any) (ops := ops) (Q' := Q) (ops.toList.drop n) n listed a w (fun j => by simp [List.getElem?_drop]) (by rw [hl, e]; exact hseq) (htail a w hI.gr hI.defers hI.size (fun k ok d hk hok hd => hI.done k ok d hok hd (hall k hk)) (fun d hd => hI.kept d fun k ok hk hkd => by
      unfold untouched at hd
      rw [Array.all_eq_true_iff_forall_mem] at hd
      have := hd ok (Array.mem_of_getElem? hk)
      simp [hkd] at this))
    rw [hl] at key
    rw [Nat.zero_add]
    exact key
  | succ f ih =>
    intro listed a w hI ht hlen
    rw [show f + 1 + (ops.size - n) = (f + (ops.size - n)) + 1 by omega]
    have hinv : HeadInv .any ops n listed := ⟨hI.len, hI.closed, ht⟩
    obtain ⟨i, hin, hiun⟩ : ∃ i, i < n ∧ listed.getD i false = false := by
      cases hf : (List.range n).filter fun i => !listed.getD i false with
      | nil => rw [hf] at hlen; cases hlen
      | cons x r =>
        have : x ∈ (List.range n).filter fun i => !listed.getD i false := by rw [hf]; exact List.mem_cons_self ..
        obtain ⟨h1, h2⟩ := List.mem_filter.1 this
        exact ⟨x, List.mem_range.1 h1, by simpa using h2⟩
    have his : i < listed.size := by rw [hI.len]; omega
    refine ⟨fun hr => ?_, fun j hj => ?_⟩
    · exfalso
      have hall : ∀ m k, k < m → k < n → listed.getD k false = true := by
        intro m
        induction m with
        | zero => intro k hk; omega
        | succ m ihm =>
          intro k hk hkn
          cases hl : listed.getD k false with
          | true => rfl
          | false =>
            exfalso
            have hks : k < ops.size := by omega
            have hk' : ops[k]? = some ops[k] := Array.getElem?_eq_getElem hks
            have : k ∈ Region.ready .any ops listed := by
              rw [mem_ready]
              refine ⟨getD_in (by rw [hI.len]; exact hks) hl, _, hk', fun e he hb => ?_⟩
              obtain ⟨d, _, _, _, he2⟩ := slotShape_spec hsh hk'
              have := he2 e he hb
              exact ihm e.on (by omega) (by omega)
            rw [hr] at this; cases this
      rw [hall (i + 1) i (by omega) hin] at hiun
      cases hiun
    · have hjn : j < n := by
        rcases Nat.lt_or_ge j n with h | h
        · exact h
        · exact absurd hj (tail_waits hs hc hn hinv _ i rfl hin (getD_in his hiun) j h)
      obtain ⟨h1, o, ho, hedges⟩ := mem_ready.1 hj
      have hjl : j < ops.size := (Array.getElem?_eq_some_iff.1 ho).1
      have hjs : j < listed.size := by rw [hI.len]; exact hjl
      have hjf := getD_false_of_true hjs h1
      obtain ⟨d, hd, hds, huniq, hback⟩ := slotShape_spec hsh ho
      refine wpOp_of_does ho (hop j o hjn ho a w ⟨hI.gr, hI.defers, hI.size, ?_, ?_⟩) fun v w' hg hv => ih _ _ _ ?_ (fun t h2 h3 => by rw [getD_set_ne true (by omega)]; exact ht t h2 h3) ?_
      · intro p hp
        unfold predsOf at hp
        rw [List.mem_filterMap] at hp
        obtain ⟨e, he, hpe⟩ := hp
        split at hpe
        · rename_i hb
          rw [Option.map_eq_some_iff] at hpe
          obtain ⟨d', hd', rfl⟩ := hpe
          rw [Option.bind_eq_some_iff] at hd'
          obtain ⟨ok, hok, hokd⟩ := hd'
          exact hI.done e.on ok d' hok hokd (hedges e (by simpa using he) hb)
        · cases hpe
      · intro d' hf
        refine hI.kept d' fun k ok hk hkd => ?_
        unfold freeFor at hf
        have hks : k < ops.size := (Array.getElem?_eq_some_iff.1 hk).1
        have h2 := List.all_eq_true.1 hf k (List.mem_range.2 hks)
        rw [hk] at h2
        simp only [Option.map_some, Option.getD_some, hkd, bne_self_eq_false, Bool.false_or, Bool.or_eq_true, beq_iff_eq] at h2
        rcases h2 with rfl | h2
        · exact hjf
        · obtain ⟨i, hi, h3⟩ := Array.any_eq_true.1 h2
          have he : ok.after[i] ∈ ok.after := Array.getElem_mem hi
          generalize ok.after[i] = e at h3 he
          simp only [Bool.and_eq_true, beq_iff_eq] at h3
          cases hl : listed.getD k false with
          | false => rfl
          | true =>
            have := hI.closed k ok hk hl e he h3.1
            rw [h3.2, hjf] at this; cases this
      · have hset : ∀ k, k ≠ j → (listed.setIfInBounds j true).getD k false = listed.getD k false := fun k hk => getD_set_ne false (fun e => hk e.symm)
        have hself := getD_set_self hjs
        refine ⟨by simp [hI.len], hI.gr.trans hg, ?_, ?_, ?_, ?_, ?_⟩
        · rw [hd]; exact hI.defers
        · rw [hd]; simp [Act.put, hI.size]
        · intro k ok d' hk hkd hl
          by_cases hkj : k = j
          · subst hkj
            rw [ho] at hk; injection hk with hk; subst hk
            rw [hd] at hkd; injection hkd with hkd; subst hkd
            rw [hd, getD_put_same _ _ _ (by rw [hI.size]; exact hds)]
            exact hv
          · rw [hset k hkj] at hl
            have hne : d' ≠ d := fun e => hkj (huniq k ok hk (by rw [hkd, e]))
            rw [hd, getD_put_other _ _ _ _ hne]
            exact hst _ _ _ _ hg (hI.done k ok d' hk hkd hl)
        · intro d' hf
          have hne : d' ≠ d := by
            intro e; subst e
            have := hf j o ho hd
            rw [hself] at this; cases this
          rw [hd, getD_put_other _ _ _ _ hne]
          refine hI.kept d' fun k ok hk hkd => ?_
          have hkj : k ≠ j := by rintro rfl; rw [ho] at hk; injection hk with hk; subst hk; rw [hd] at hkd; injection hkd with hkd; exact hne hkd.symm
          have := hf k ok hk hkd
          rwa [hset k hkj] at this
        · intro k ok hk hl e he hb
          have mono : ∀ m, listed.getD m false = true → (listed.setIfInBounds j true).getD m false = true := fun m hm => getD_set_true hm
          by_cases hkj : k = j
          · subst hkj
            rw [ho] at hk; injection hk with hk; subst hk
            exact mono _ (hedges e he hb)
          · rw [hset k hkj] at hl
            exact mono _ (hI.closed k ok hk hl e he hb)
      · have := filter_less (p := fun i => !listed.getD i false) (q := fun i => !(listed.setIfInBounds j true).getD i false) (j := j) List.nodup_range (List.mem_range.2 hjn) (by rw [hjf]; rfl) (by rw [getD_set_self hjs]; rfl) (fun x hx => by
          show (!(listed.setIfInBounds j true).getD x false) = !listed.getD x false
          rw [getD_set_ne false (fun e => hx e.symm)])
        omega
def tailB (l : List Oper) (n : Nat) : Bool := Region.sinkB .any l.toArray n && Region.chainB .any l.toArray n && decide (n < l.length) && Region.seqB .any l.toArray (l.length - n) n (headL l.length n)
theorem wp_region_rowsT {id : Nat} (l : List Oper) (n : Nat) {a0 : Act} {w0 : World} {Q : Exit → Act → World → Prop} (Φ : Nat → Value → World → Prop) (rs : List Row) (hm : P.follows .mixedOrders = true)
    (hst : ∀ j v w w', Gr w w' → Φ j v w → Φ j v w') (hsh : slotShape l.toArray a0.tmps.size = true) (hB : tailB l n = true) (hrs : rowsOK l.toArray 0 (l.take n) rs = true)
    (hop : EachRow (OpGoal P Φ a0.tmps w0) 0 (l.take n) rs)
    (hend : ∀ a w, Gr w0 w → a.defers = a0.defers → a.tmps.size = a0.tmps.size → (∀ k ok d, k < n → l[k]? = some ok → ok.dst = some d → Φ k (a.eval (.tmp d)) w) →
      (∀ d, untouched l.toArray d = true → a.eval (.tmp d) = a0.tmps.getD d undef) → wpList P l.toArray Q (l.drop n) a w) : (Code.region id l.toArray true).wp P Q a0 w0 := by
  simp only [tailB, Bool.and_eq_true, decide_eq_true_eq] at hB
  obtain ⟨⟨⟨h1, h2⟩, h3⟩, h4⟩ := hB
  have hn' : n < l.toArray.size := by simpa using h3
  have hops := eachOp_of_rows (P := P) (Φ := Φ) (a0 := a0) (w0 := w0) 0 (l.take n) rs hrs hop
  refine wp_region_any hm ?_
  have hstart : SlotInv l.toArray Φ a0 w0 (Array.replicate l.toArray.size false) a0 { w0 with drawn := w0.drawn + 1 } :=
    ⟨by simp, Gr.drew w0, rfl, rfl, fun k ok d _ _ hl => (by rw [getD_replicate_false] at hl; cases hl), fun d _ => rfl, fun k ok _ hl => (by rw [getD_replicate_false] at hl; cases hl)⟩
  have key := wpAny_head_tail (P := P) (ops := l.toArray) (Φ := Φ) (a0 := a0) (w0 := w0) (Q := Q) (n := n) hst hsh h1 h2 hn' (by simpa using h4)
    (fun j o hjn ho => by
      have := eachOp_get (l.take n) 0 hops j o (by rw [List.getElem?_take, if_pos hjn]; simpa using ho)
      rwa [Nat.zero_add] at this)
    (fun a w q1 q2 q3 q4 q5 => hend a w q1 q2 q3 (fun k ok d hk hok hd => q4 k ok d hk (by simpa using hok) hd) q5)
    n _ a0 { w0 with drawn := w0.drawn + 1 } hstart (fun t _ ht => getD_in (by simpa using ht) (getD_replicate_false _ _)) (by
      rw [List.filter_eq_self.2 (fun i _ => by rw [getD_replicate_false]; rfl), List.length_range])
  rwa [show n + (l.toArray.size - n) = l.toArray.size by omega] at key
end
end Go.Proofs.YtoeajbhlkccekaaDoor

namespace Go.Proofs.YtoeajbhlkccekaaDoor
open Go.RowKit
noncomputable def ref13UndoA_c : Code := farC 2 (endC 0 ((Tryd.f32.body).getD .skip)) .skip
def ref13UndoA_h : Hint := (.two .n (.two .n .n))
noncomputable def ref13UndoA_env (m : Nat) : Env := []
noncomputable abbrev ref13UndoA_fin (n0 : Nat) : KO (AV × List AObj) := nslFK [2,3,5]
noncomputable def ref13UndoA (m : Nat) (D : List Deferred) (t0 t1 : AV) (H : List AObj) : RO := exec Tryd.prog GG (ref13UndoA_env m) m ⟨78,D⟩ ref13UndoA_c ref13UndoA_h ⟨H,[(0,t0),(1,t1)]⟩ (ref13UndoA_fin H.length)
theorem ref13UndoA_eq (m : Nat) (D : List Deferred) (t0 t1 : AV) (H : List AObj) : ref13UndoA m D t0 t1 H =
 boxE ty_api_Store H t0 fun t2 H2 =>
 boxE ty_api_Store H2 t1 fun t3 H3 =>
 some (TU [t2,t3,(V (.slice none 0 0))],H3) := by
 refine (nslX _ _ _ _ _ _ _ _ _).trans ?_
 kernel_rfl
theorem ref13UndoA_hE (m : Nat) : EnvOk Tryd.prog GG (ref13UndoA_env m) := (by intro f e h;cases h)
end Go.Proofs.YtoeajbhlkccekaaDoor

namespace Go.Proofs.YtoeajbhlkccekaaDoor
open Go.RowKit
noncomputable def ref13UndoB_c : Code := (endC 3 ((Tryd.f32.body).getD .skip))
def ref13UndoB_h : Hint := (.join [2,3,5] (.two .n (.one (.lp [] [2,3,5,6,7] [2,3,5] (.two (.two .n (.two .n .n)) (.two (.one .n) .n))))) (.two .n (.join [8] (.two .n (.one (.lp [(8,ty_api_Edit,4)] [2,3,5,8,9] [8] (.two (.two .n (.two .n .n)) (.join [2,3,5,8,9] (.one (.two .n (.two .n (.two .n (.two .n .n))))) .n))))) (.two .n .n))))
noncomputable def ref13UndoB_env (m : Nat) : Env := [(58, .tell (plenumref09_With_t m)),(26, .tell (plenumref10_Get_t m))]
noncomputable abbrev ref13UndoB_fin (n0 : Nat) : KO (AV × List AObj) := rawFK Tryd.prog n0 [.tmp 4]
noncomputable def ref13UndoB_r3 (m : Nat) (D : List Deferred) (n0 : Nat) (kc : ASt → RO) (kx : KO (AV × List AObj)) (s : ASt) : RO := joinW Tryd.prog GG (ref13UndoB_env m) m ⟨78,D⟩ (cdR (cdR (cdL (cdL (cdR (cdL (cdR (cdR ref13UndoB_c)))))))) ref13UndoB_h.r.r.l.r.c.c.r.r s (backW n0 [2,3,5,8,9] [8] kc kx)
noncomputable def ref13UndoB_r2 (m : Nat) (D : List Deferred) (n0k : Nat) (s : ASt) : RO := joinW Tryd.prog GG (ref13UndoB_env m) m ⟨78,D⟩ (cdR (cdR (cdR ref13UndoB_c))) ref13UndoB_h.r.r.r s (ref13UndoB_fin n0k)
noncomputable def ref13UndoB_b2 (m : Nat) (D : List Deferred) (s : ASt) (kc : ASt → RO) (kx : KO (AV × List AObj)) : RO := bodyW Tryd.prog GG (ref13UndoB_env m) m ⟨78,D⟩ (cdL (cdL (cdR (cdL (cdR (cdR ref13UndoB_c)))))) ref13UndoB_h.r.r.l.r.c.c [2,3,5,8,9] [8] s kc kx
noncomputable def ref13UndoB_r1 (m : Nat) (D : List Deferred) (n0k : Nat) (s : ASt) : RO := joinW Tryd.prog GG (ref13UndoB_env m) m ⟨78,D⟩ (cdR ref13UndoB_c) ref13UndoB_h.r s (ref13UndoB_fin n0k)
noncomputable def ref13UndoB_b1 (m : Nat) (D : List Deferred) (s : ASt) (kc : ASt → RO) (kx : KO (AV × List AObj)) : RO := bodyW Tryd.prog GG (ref13UndoB_env m) m ⟨78,D⟩ (cdL (cdL (cdR (cdL ref13UndoB_c)))) ref13UndoB_h.l.r.c.c [2,3,5,6,7] [2,3,5] s kc kx
noncomputable def ref13UndoB (m : Nat) (D : List Deferred) (t2 t3 t5 t6 : AV) (H : List AObj) : RO := exec Tryd.prog GG (ref13UndoB_env m) m ⟨78,D⟩ ref13UndoB_c ref13UndoB_h ⟨H,[(2,t2),(3,t3),(5,t5),(6,t6)]⟩ (ref13UndoB_fin H.length)
theorem ref13UndoB_r3_eq (m : Nat) (D : List Deferred) (n0 : Nat) (kc : ASt → RO) (kx : KO (AV × List AObj)) (H : List AObj) (t2 t3 t5 t8 t9 : AV) : ref13UndoB_r3 m D n0 kc kx ⟨H,[(2,t2),(3,t3),(5,t5),(8,t8),(9,t9)]⟩ =
 binE none false false .add t9 (V (.int .i64 1)) fun t38 =>
 backE n0 H [(2,t2),(3,t3),(5,t5),(8,t8),(9,t38)] kc := by
 refine (joinW_eq _ _ _ _ _ _ _ _ _).trans ?_
 kernel_rfl
theorem ref13UndoB_r2_eq (m : Nat) (D : List Deferred) (n0k : Nat) (H : List AObj) (t8 : AV) : ref13UndoB_r2 m D n0k ⟨H,[(8,t8)]⟩ =
 some (ro H t8,H) := by
 refine (joinW_eq _ _ _ _ _ _ _ _ _).trans ?_
 kernel_rfl
theorem ref13UndoB_b2_eq (m : Nat) (D : List Deferred) (H : List AObj) (t2 t3 t5 t8 t9 : AV) (kc : ASt → RO) (kx : KO (AV × List AObj)) : ref13UndoB_b2 m D ⟨H,[(2,t2),(3,t3),(5,t5),(8,t8),(9,t9)]⟩ kc kx =
 lenE false true H t5 fun t35 =>
 binE none false false .lss t9 t35 fun t36 =>
 condE t36 (
  fieldE (some (0,34)) t2 fun t40 =>
  loadE 34 H t40 fun t41 =>
  idxSE 7 H t5 t9 fun t44 =>
  fieldE (some (0,1)) t44 fun t45 =>
  loadE 1 H t45 fun t46 =>
  tellE (plenumref10_Get m (ro H t41) (ro H t46)) [(ro H t41),(ro H t46)] fun t47 =>
  extE t47 0 fun t48 =>
  extE t47 1 fun t49 =>
  allocE (some zc_api_Item) ty_api_Item H fun t10 H2 =>
  storeE 7 H2 t10 t48 fun H3 =>
  fieldE (some (0,34)) t3 fun t51 =>
  loadE 34 H3 t51 fun t52 =>
  idxSE 7 H3 t5 t9 fun t55 =>
  fieldE (some (0,1)) t55 fun t56 =>
  loadE 1 H3 t56 fun t57 =>
  tellE (plenumref10_Get m (ro H3 t52) (ro H3 t57)) [(ro H3 t52),(ro H3 t57)] fun t58 =>
  extE t58 0 fun t59 =>
  extE t58 1 fun t60 =>
  allocE (some zc_api_Item) ty_api_Item H3 fun t12 H4 =>
  storeE 7 H4 t12 t59 fun H5 =>
  fieldE (some (1,5)) t10 fun t61 =>
  loadE 5 H5 t61 fun t62 =>
  fieldE (some (1,5)) t12 fun t63 =>
  loadE 5 H5 t63 fun t64 =>
  binE (some [.i .i64, .i .i64, .s]) false false .neq t62 t64 fun t65 =>
  condE t65 (
   idxSE 7 H5 t5 t9 fun t69 =>
   fieldE (some (0,1)) t69 fun t70 =>
   loadE 1 H5 t70 fun t71 =>
   fieldE (some (1,5)) t10 fun t72 =>
   loadE 5 H5 t72 fun t73 =>
   buildE (some pl_api_Edit) (some zc_api_Edit) [(0,t71),(1,t73)] fun t74 =>
   buildSE (some (ty_api_Edit,4)) 1 [(0,t74)] fun t75 =>
   appE (some (ty_api_Edit,4)) H5 t8 t75 fun t76 H6 =>
   ref13UndoB_r3 m D H.length kc kx ⟨H6,[(2,t2),(3,t3),(5,t5),(8,t76),(9,t9)]⟩) (
   ref13UndoB_r3 m D H.length kc kx ⟨H5,[(2,t2),(3,t3),(5,t5),(8,t8),(9,t9)]⟩)) (
  kx (.exit 2) ⟨H,[(8,t8)]⟩) := by
 refine (bodyW_eq _ _ _ _ _ _ _ _ _ _ _ _).trans ?_
 kernel_rfl
theorem ref13UndoB_r1_eq (m : Nat) (D : List Deferred) (n0k : Nat) (H : List AObj) (t2 t3 t5 : AV) : ref13UndoB_r1 m D n0k ⟨H,[(2,t2),(3,t3),(5,t5)]⟩ =
 rowE (V (.slice none 0 0)) ty_api_Edit 4 H fun t8 H2 =>
 iterC m (ref13UndoB_b2 m D) ⟨H2,[(2,t2),(3,t3),(5,t5),(8,t8),(9,(V (.int .i64 0)))]⟩ (blockX 2 (seqX (fun s=>ref13UndoB_r2 m D n0k ⟨s.H,[(8,gt s.T 8)]⟩) (ref13UndoB_fin n0k))) := by
 refine (joinW_eq _ _ _ _ _ _ _ _ _).trans ?_
 kernel_rfl
theorem ref13UndoB_b1_eq (m : Nat) (D : List Deferred) (H : List AObj) (t2 t3 t5 t6 t7 : AV) (kc : ASt → RO) (kx : KO (AV × List AObj)) : ref13UndoB_b1 m D ⟨H,[(2,t2),(3,t3),(5,t5),(6,t6),(7,t7)]⟩ kc kx =
 lenE false true H t6 fun t23 =>
 binE none false false .lss t7 t23 fun t24 =>
 condE t24 (
  idxSE 7 H t6 t7 fun t30 =>
  loadE 7 H t30 fun t31 =>
  tellE (plenumref09_With_t m [(ro H t5),(ro H t31)]) [(ro H t5),(ro H t31)] fun t32 =>
  binE none false false .add t7 (V (.int .i64 1)) fun t26 =>
  backE H.length H [(2,t2),(3,t3),(5,t32),(6,t6),(7,t26)] kc) (
  kx (.exit 0) ⟨H,[(2,t2),(3,t3),(5,t5)]⟩) := by
 refine (bodyW_eq _ _ _ _ _ _ _ _ _ _ _ _).trans ?_
 kernel_rfl
theorem ref13UndoB_eq (m : Nat) (D : List Deferred) (t2 t3 t5 t6 : AV) (H : List AObj) : ref13UndoB m D t2 t3 t5 t6 H =
 iterC m (ref13UndoB_b1 m D) ⟨H,[(2,t2),(3,t3),(5,t5),(6,t6),(7,(V (.int .i64 0)))]⟩ (blockX 0 (seqX (fun s=>ref13UndoB_r1 m D H.length ⟨s.H,[(2,gt s.T 2),(3,gt s.T 3),(5,gt s.T 5)]⟩) (ref13UndoB_fin H.length))) := by
 refine (rawX Tryd.prog GG (ref13UndoB_env m) m ⟨78,D⟩ H.length ref13UndoB_c ref13UndoB_h ⟨H,[(2,t2),(3,t3),(5,t5),(6,t6)]⟩ [.tmp 4]).trans ?_
 kernel_rfl
theorem ref13UndoB_hE (m : Nat) : EnvOk Tryd.prog GG (ref13UndoB_env m) := (by
 intro f e h
 simp only [ref13UndoB_env,Prod.mk.injEq,List.mem_cons,List.not_mem_nil,or_false] at h
 rcases h with ⟨rfl,rfl⟩|⟨rfl,rfl⟩
 ·exact plenumref09_With_ok m
 ·exact plenumref10_Get_ok m)
end Go.Proofs.YtoeajbhlkccekaaDoor

namespace Go.Proofs.YtoeajbhlkccekaaDoor
open Go.RowKit
abbrev SrtK (l : List Bytes) : Prop := l.Pairwise fun a b=>less a b = true
theorem srtK_ext : ∀ {l k : List Bytes},SrtK l → SrtK k → (∀ x,x ∈ l ↔ x ∈ k) → l = k
 |[],[],_,_,_=>rfl
 |[],y :: k,_,_,h=>by have := (h y).2 (List.mem_cons_self ..);cases this
 |x :: l,[],_,_,h=>by have := (h x).1 (List.mem_cons_self ..);cases this
 |x :: l,y :: k,hl,hk,h=>by
  obtain ⟨l1,l2⟩ := List.pairwise_cons.1 hl
  obtain ⟨k1,k2⟩ := List.pairwise_cons.1 hk
  have e : x = y := by
   rcases List.mem_cons.1 ((h x).1 (List.mem_cons_self ..)) with e|hx
   ·exact e
   ·rcases List.mem_cons.1 ((h y).2 (List.mem_cons_self ..)) with e|hy
    ·exact e.symm
    ·have a := k1 x hx
     have b := l1 y hy
     rw [less_asymm _ _ a] at b
     cases b
  subst e
  have : l = k := srtK_ext l2 k2 fun z=>by
   constructor
   ·intro hz
    rcases List.mem_cons.1 ((h z).1 (List.mem_cons_of_mem _ hz)) with e|hz'
    ·subst e;have := l1 z hz;rw [less_irrefl] at this;cases this
    ·exact hz'
   ·intro hz
    rcases List.mem_cons.1 ((h z).2 (List.mem_cons_of_mem _ hz)) with e|hz'
    ·subst e;have := k1 z hz;rw [less_irrefl] at this;cases this
    ·exact hz'
  rw [this]
def lkL : List Item → Bytes → Option Item
 |[],_=>none
 |x :: l,k=>if x.key = k then some x else lkL l k
theorem lk_mem : ∀ {l : List Item} {k : Bytes} {y : Item},Srt l → (lkL l k = some y ↔ y ∈ l ∧ y.key = k)
 |[],k,y,_=>by simp [lkL]
 |x :: l,k,y,h=>by
  obtain ⟨h1,h2⟩ := List.pairwise_cons.1 h
  unfold lkL
  by_cases e : x.key = k
  ·rw [if_pos e]
   constructor
   ·intro q
    injection q with q
    subst q
    exact ⟨List.mem_cons_self ..,e⟩
   ·rintro ⟨q,r⟩
    rcases List.mem_cons.1 q with rfl|q
    ·rfl
    ·have := h1 y q
     rw [r,e,less_irrefl] at this
     cases this
  ·rw [if_neg e,lk_mem h2]
   constructor
   ·rintro ⟨q,r⟩;exact ⟨List.mem_cons_of_mem _ q,r⟩
   ·rintro ⟨q,r⟩
    rcases List.mem_cons.1 q with rfl|q
    ·exact absurd r e
    ·exact ⟨q,r⟩
theorem lk_none : ∀ {l : List Item} {k : Bytes},(∀ x ∈ l,x.key ≠ k) → lkL l k = none
 |[],_,_=>rfl
 |x :: l,k,h=>by
  unfold lkL
  rw [if_neg (h x (List.mem_cons_self ..))]
  exact lk_none fun y hy=>h y (List.mem_cons_of_mem _ hy)
def edV (k : Bytes) (u v : Item) : List Edt := if sameV u v then [] else [⟨k,u.kind,u.i,u.s⟩]
def edK (a b : List Item) (k : Bytes) : List Edt := edV k ((lkL a k).getD Item.zero) ((lkL b k).getD Item.zero)
theorem edV_ne {k : Bytes} {u v : Item} (h : u.kind ≠ v.kind) : edV k u v = [⟨k,u.kind,u.i,u.s⟩] := by
 unfold edV sameV
 rw [decide_eq_false h];rfl
def mergeK : Nat → List Item → List Item → List Bytes
 |0,_,_=>[]
 |_ + 1,[],[]=>[]
 |n + 1,x :: a,[]=>x.key :: mergeK n a []
 |n + 1,[],y :: b=>y.key :: mergeK n [] b
 |n + 1,x :: a,y :: b=>if less x.key y.key then x.key :: mergeK n a (y :: b) else if less y.key x.key then y.key :: mergeK n (x :: a) b else x.key :: mergeK n a b
theorem mergeK_mem : ∀ (n : Nat) (a b : List Item) (k : Bytes),k ∈ mergeK n a b → (∃ x ∈ a,x.key = k) ∨ ∃ y ∈ b,y.key = k
 |0,_,_,k,h=>by simp [mergeK] at h
 |n + 1,[],[],k,h=>by simp [mergeK] at h
 |n + 1,x :: a,[],k,h=>by
  simp only [mergeK,List.mem_cons] at h
  rcases h with rfl|h
  ·exact .inl ⟨x,List.mem_cons_self ..,rfl⟩
  ·rcases mergeK_mem n a [] k h with ⟨z,h1,h2⟩|⟨z,h1,h2⟩
   ·exact .inl ⟨z,List.mem_cons_of_mem _ h1,h2⟩
   ·cases h1
 |n + 1,[],y :: b,k,h=>by
  simp only [mergeK,List.mem_cons] at h
  rcases h with rfl|h
  ·exact .inr ⟨y,List.mem_cons_self ..,rfl⟩
  ·rcases mergeK_mem n [] b k h with ⟨z,h1,h2⟩|⟨z,h1,h2⟩
   ·cases h1
   ·exact .inr ⟨z,List.mem_cons_of_mem _ h1,h2⟩
 |n + 1,x :: a,y :: b,k,h=>by
  unfold mergeK at h
  split at h
  ·rcases List.mem_cons.1 h with rfl|h
   ·exact .inl ⟨x,List.mem_cons_self ..,rfl⟩
   ·rcases mergeK_mem n a (y :: b) k h with ⟨z,h1,h2⟩|h
    ·exact .inl ⟨z,List.mem_cons_of_mem _ h1,h2⟩
    ·exact .inr h
  ·split at h
   ·rcases List.mem_cons.1 h with rfl|h
    ·exact .inr ⟨y,List.mem_cons_self ..,rfl⟩
    ·rcases mergeK_mem n (x :: a) b k h with h|⟨z,h1,h2⟩
     ·exact .inl h
     ·exact .inr ⟨z,List.mem_cons_of_mem _ h1,h2⟩
   ·rcases List.mem_cons.1 h with rfl|h
    ·exact .inl ⟨x,List.mem_cons_self ..,rfl⟩
    ·rcases mergeK_mem n a b k h with ⟨z,h1,h2⟩|⟨z,h1,h2⟩
     ·exact .inl ⟨z,List.mem_cons_of_mem _ h1,h2⟩
     ·exact .inr ⟨z,List.mem_cons_of_mem _ h1,h2⟩
theorem key_eq {x y : Item} (h1 : ¬ less x.key y.key = true) (h2 : ¬ less y.key x.key = true) : x.key = y.key := less_tri _ _ (by simpa using h1) (by simpa using h2)
theorem head_lt {x : Item} {a : List Item} (h : Srt (x :: a)) {k : Bytes} (hk : ∃ z ∈ a,z.key = k) : less x.key k = true := by
 obtain ⟨z,h1,rfl⟩ := hk
 exact (List.pairwise_cons.1 h).1 z h1
theorem both_lt {x : Item} {a : List Item} (h : Srt (x :: a)) {k j : Bytes} (hj : less j x.key = true) (hk : ∃ z ∈ x :: a,z.key = k) : less j k = true := by
 obtain ⟨z,h1,rfl⟩ := hk
 rcases List.mem_cons.1 h1 with rfl|h1
 ·exact hj
 ·exact less_trans _ _ _ hj ((List.pairwise_cons.1 h).1 z h1)
theorem mergeK_gt {x y : Item} {a b : List Item} (ha : Srt (x :: a)) (hb : Srt (y :: b)) {n : Nat} {k : Bytes} :
  (less x.key y.key = true → k ∈ mergeK n a (y :: b) → less x.key k = true) ∧ (less y.key x.key = true → k ∈ mergeK n (x :: a) b → less y.key k = true) ∧ (x.key = y.key → k ∈ mergeK n a b → less x.key k = true) := by
 refine ⟨fun h hk=>?_,fun h hk=>?_,fun h hk=>?_⟩
 ·rcases mergeK_mem _ _ _ _ hk with q|q
  ·exact head_lt ha q
  ·exact both_lt hb h q
 ·rcases mergeK_mem _ _ _ _ hk with q|q
  ·exact both_lt ha h q
  ·exact head_lt hb q
 ·rcases mergeK_mem _ _ _ _ hk with q|q
  ·exact head_lt ha q
  ·rw [h];exact head_lt hb q
theorem mergeK_srt : ∀ (n : Nat) {a b : List Item},Srt a → Srt b → SrtK (mergeK n a b)
 |0,_,_,_,_=>List.Pairwise.nil
 |n + 1,[],[],_,_=>List.Pairwise.nil
 |n + 1,x :: a,[],ha,hb=>by
  refine List.Pairwise.cons (fun k hk=>?_) (mergeK_srt n (List.pairwise_cons.1 ha).2 hb)
  rcases mergeK_mem _ _ _ _ hk with q|⟨z,q,_⟩
  ·exact head_lt ha q
  ·cases q
 |n + 1,[],y :: b,ha,hb=>by
  refine List.Pairwise.cons (fun k hk=>?_) (mergeK_srt n ha (List.pairwise_cons.1 hb).2)
  rcases mergeK_mem _ _ _ _ hk with ⟨z,q,_⟩|q
  ·cases q
  ·exact head_lt hb q
 |n + 1,x :: a,y :: b,ha,hb=>by
  unfold mergeK
  split
  ·rename_i h
   exact List.Pairwise.cons (fun k hk=>(mergeK_gt ha hb).1 h hk) (mergeK_srt n (List.pairwise_cons.1 ha).2 hb)
  ·rename_i h1
   split
   ·rename_i h
    exact List.Pairwise.cons (fun k hk=>(mergeK_gt ha hb).2.1 h hk) (mergeK_srt n ha (List.pairwise_cons.1 hb).2)
   ·rename_i h2
    exact List.Pairwise.cons (fun k hk=>(mergeK_gt ha hb).2.2 (key_eq h1 h2) hk) (mergeK_srt n (List.pairwise_cons.1 ha).2 (List.pairwise_cons.1 hb).2)
theorem mergeK_all : ∀ (n : Nat) (a b : List Item),a.length + b.length ≤ n → ∀ z,z ∈ a ∨ z ∈ b → z.key ∈ mergeK n a b
 |0,[],[],_,z,hz=>by simp at hz
 |0,x :: a,_,h,z,hz=>by simp at h
 |0,[],y :: b,h,z,hz=>by simp at h
 |n + 1,[],[],_,z,hz=>by simp at hz
 |n + 1,x :: a,[],h,z,hz=>by
  simp only [mergeK,List.mem_cons]
  simp only [List.length_cons,List.length_nil] at h
  rcases hz with hz|hz
  ·rcases List.mem_cons.1 hz with rfl|hz
   ·exact .inl rfl
   ·exact .inr (mergeK_all n a [] (by simp;omega) z (.inl hz))
  ·cases hz
 |n + 1,[],y :: b,h,z,hz=>by
  simp only [mergeK,List.mem_cons]
  simp only [List.length_cons,List.length_nil] at h
  rcases hz with hz|hz
  ·cases hz
  ·rcases List.mem_cons.1 hz with rfl|hz
   ·exact .inl rfl
   ·exact .inr (mergeK_all n [] b (by simp;omega) z (.inr hz))
 |n + 1,x :: a,y :: b,h,z,hz=>by
  simp only [List.length_cons] at h
  unfold mergeK
  split
  ·rcases hz with hz|hz
   ·rcases List.mem_cons.1 hz with rfl|hz
    ·exact List.mem_cons_self ..
    ·exact List.mem_cons_of_mem _ (mergeK_all n a (y :: b) (by simp;omega) z (.inl hz))
   ·exact List.mem_cons_of_mem _ (mergeK_all n a (y :: b) (by simp;omega) z (.inr hz))
  ·rename_i h1
   split
   ·rcases hz with hz|hz
    ·exact List.mem_cons_of_mem _ (mergeK_all n (x :: a) b (by simp;omega) z (.inl hz))
    ·rcases List.mem_cons.1 hz with rfl|hz
     ·exact List.mem_cons_self ..
     ·exact List.mem_cons_of_mem _ (mergeK_all n (x :: a) b (by simp;omega) z (.inr hz))
   ·rename_i h2
    have e := key_eq h1 h2
    rcases hz with hz|hz
    ·rcases List.mem_cons.1 hz with rfl|hz
     ·exact List.mem_cons_self ..
     ·exact List.mem_cons_of_mem _ (mergeK_all n a b (by omega) z (.inl hz))
    ·rcases List.mem_cons.1 hz with rfl|hz
     ·rw [e];exact List.mem_cons_self ..
     ·exact List.mem_cons_of_mem _ (mergeK_all n a b (by omega) z (.inr hz))
theorem fm_congr {α β : Type} {f g : α → List β} : ∀ {l : List α},(∀ k ∈ l,f k = g k) → l.flatMap f = l.flatMap g
 |[],_=>rfl
 |x :: l,h=>by
  rw [List.flatMap_cons,List.flatMap_cons,h x (List.mem_cons_self ..),fm_congr fun k hk=>h k (List.mem_cons_of_mem _ hk)]
theorem lt_ne {a b : Bytes} (h : less a b = true) : a ≠ b := fun e=>by rw [e,less_irrefl] at h;cases h
theorem lk_tail {x : Item} {a : List Item} {k : Bytes} (h : less x.key k = true) : lkL (x :: a) k = lkL a k := by
 conv=>lhs;unfold lkL
 rw [if_neg (lt_ne h)]
theorem lk_head {x : Item} {a : List Item} {k : Bytes} (h : x.key = k) : lkL (x :: a) k = some x := by
 conv=>lhs;unfold lkL
 rw [if_pos h]
theorem undo_merge : ∀ (n : Nat) (a b : List Item) (acc : List Edt),a.length + b.length ≤ n → Srt a → Srt b → (∀ x ∈ a,x.kind ≠ 0) → (∀ x ∈ b,x.kind ≠ 0) → undoN n a b acc = acc ++ (mergeK n a b).flatMap (edK a b)
 |0,[],[],acc,_,_,_,_,_=>by simp [undoN,mergeK]
 |0,x :: a,_,acc,h,_,_,_,_=>by simp at h
 |0,[],y :: b,acc,h,_,_,_,_=>by simp at h
 |n + 1,[],[],acc,_,_,_,_,_=>by simp [undoN,mergeK]
 |n + 1,x :: a,[],acc,h,ha,hb,ka,kb=>by
  simp only [List.length_cons,List.length_nil] at h
  unfold undoN mergeK
  rw [undo_merge n a [] _ (by simp;omega) (List.pairwise_cons.1 ha).2 hb (fun z hz=>ka z (List.mem_cons_of_mem _ hz)) kb,List.flatMap_cons,List.append_assoc]
  refine congrArg (acc ++ ·) ?_
  refine congr (congrArg _ ?_) (fm_congr fun k hk=>?_)
  ·unfold edK
   rw [lk_head rfl]
   exact (edV_ne (ka x (List.mem_cons_self ..))).symm
  ·unfold edK
   rw [lk_tail]
   rcases mergeK_mem _ _ _ _ hk with q|⟨z,q,_⟩
   ·exact head_lt ha q
   ·cases q
 |n + 1,[],y :: b,acc,h,ha,hb,ka,kb=>by
  simp only [List.length_cons,List.length_nil] at h
  unfold undoN mergeK
  rw [undo_merge n [] b _ (by simp;omega) ha (List.pairwise_cons.1 hb).2 ka (fun z hz=>kb z (List.mem_cons_of_mem _ hz)),List.flatMap_cons,List.append_assoc]
  refine congrArg (acc ++ ·) ?_
  refine congr (congrArg _ ?_) (fm_congr fun k hk=>?_)
  ·unfold edK
   rw [lk_head rfl]
   exact (edV_ne (show Item.zero.kind ≠ y.kind from fun e=>kb y (List.mem_cons_self ..) e.symm)).symm
  ·unfold edK
   rw [lk_tail (a := b)]
   rcases mergeK_mem _ _ _ _ hk with ⟨z,q,_⟩|q
   ·cases q
   ·exact head_lt hb q
 |n + 1,x :: a,y :: b,acc,h,ha,hb,ka,kb=>by
  simp only [List.length_cons] at h
  have ka' : ∀ z ∈ a,z.kind ≠ 0 := fun z hz=>ka z (List.mem_cons_of_mem _ hz)
  have kb' : ∀ z ∈ b,z.kind ≠ 0 := fun z hz=>kb z (List.mem_cons_of_mem _ hz)
  have sa := (List.pairwise_cons.1 ha).2
  have sb := (List.pairwise_cons.1 hb).2
  unfold undoN mergeK
  by_cases h1 : less x.key y.key = true
  ·rw [if_pos h1,if_pos h1,undo_merge n a (y :: b) _ (by simp;omega) sa hb ka' kb,List.flatMap_cons,List.append_assoc]
   refine congrArg (acc ++ ·) ?_
   refine congr (congrArg _ ?_) (fm_congr fun k hk=>?_)
   ·unfold edK
    rw [lk_head rfl,lk_none (l := y :: b) (fun z hz=>?_)]
    ·exact (edV_ne (ka x (List.mem_cons_self ..))).symm
    ·exact (lt_ne (both_lt hb h1 ⟨z,hz,rfl⟩)).symm
   ·unfold edK
    rw [lk_tail (a := a) ((mergeK_gt ha hb).1 h1 hk)]
  ·rw [if_neg h1,if_neg h1]
   by_cases h2 : less y.key x.key = true
   ·rw [if_pos h2,if_pos h2,undo_merge n (x :: a) b _ (by simp;omega) ha sb ka kb',List.flatMap_cons,List.append_assoc]
    refine congrArg (acc ++ ·) ?_
    refine congr (congrArg _ ?_) (fm_congr fun k hk=>?_)
    ·unfold edK
     rw [lk_head (x := y) rfl,lk_none (l := x :: a) (fun z hz=>?_)]
     ·exact (edV_ne (show Item.zero.kind ≠ y.kind from fun e=>kb y (List.mem_cons_self ..) e.symm)).symm
     ·exact (lt_ne (both_lt ha h2 ⟨z,hz,rfl⟩)).symm
    ·unfold edK
     rw [lk_tail (a := b) ((mergeK_gt ha hb).2.1 h2 hk)]
   ·have e := key_eq h1 h2
    rw [if_neg h2,if_neg h2,undo_merge n a b _ (by omega) sa sb ka' kb',List.flatMap_cons,← List.append_assoc]
    refine congr (congrArg _ ?_) (fm_congr fun k hk=>?_)
    ·unfold edK
     rw [lk_head rfl,lk_head e.symm]
     show _ = acc ++ edV x.key x y
     unfold edV
     cases sameV x y
     ·rfl
     ·exact (List.append_nil _).symm
    ·unfold edK
     have q := (mergeK_gt ha hb).2.2 e hk
     rw [lk_tail (a := a) q,lk_tail (a := b) (e ▸ q)]
theorem withK_keys {l : List Item} {x : Item} {k : Bytes} : (∃ y ∈ withK l x,y.key = k) ↔ (∃ y ∈ l,y.key = k) ∨ x.key = k := by
 unfold withK
 constructor
 ·rintro ⟨y,hy,rfl⟩
  simp only [List.mem_append,List.mem_filter,List.mem_singleton] at hy
  rcases hy with (⟨h,_⟩|h)|⟨h,_⟩
  ·exact .inl ⟨y,h,rfl⟩
  ·exact .inr (by rw [h])
  ·exact .inl ⟨y,h,rfl⟩
 ·rintro (⟨y,hy,rfl⟩|h)
  ·cases h1 : less y.key x.key with
   |true=>exact ⟨y,by simp [hy,h1],rfl⟩
   |false =>
    cases h2 : less x.key y.key with
    |true=>exact ⟨y,by simp [hy,h2],rfl⟩
    |false=>exact ⟨x,by simp,(less_tri _ _ h1 h2).symm⟩
  ·exact ⟨x,by simp,h⟩
theorem fold_keys : ∀ (l acc : List Item),Srt acc → Srt (l.foldl withK acc) ∧ ∀ k,(∃ y ∈ l.foldl withK acc,y.key = k) ↔ (∃ y ∈ acc,y.key = k) ∨ ∃ y ∈ l,y.key = k
 |[],acc,h=>⟨h,fun k=>by simp⟩
 |x :: r,acc,h=>by
  obtain ⟨f1,f2⟩ := fold_keys r (withK acc x) (withK_srt h x)
  refine ⟨f1,fun k=>?_⟩
  show (∃ y ∈ r.foldl withK (withK acc x),y.key = k) ↔ _
  rw [f2 k,withK_keys]
  constructor
  ·rintro ((q|q)|⟨y,q,e⟩)
   ·exact .inl q
   ·exact .inr ⟨x,List.mem_cons_self ..,q⟩
   ·exact .inr ⟨y,List.mem_cons_of_mem _ q,e⟩
  ·rintro (q|⟨y,q,e⟩)
   ·exact .inl (.inl q)
   ·rcases List.mem_cons.1 q with rfl|q
    ·exact .inl (.inr e)
    ·exact .inr ⟨y,q,e⟩
theorem keys_merge {a b : List Item} (ha : Srt a) (hb : Srt b) : (foldW (a ++ b)).map Item.key = mergeK (a.length + b.length) a b := by
 obtain ⟨f1,f2⟩ := fold_keys (a ++ b) [] List.Pairwise.nil
 refine srtK_ext (List.pairwise_map.2 f1) (mergeK_srt _ ha hb) fun k=>?_
 rw [List.mem_map]
 show (∃ y ∈ (a ++ b).foldl withK [],y.key = k) ↔ _
 rw [f2 k]
 constructor
 ·rintro (⟨y,q,_⟩|⟨y,q,rfl⟩)
  ·cases q
  ·exact mergeK_all _ a b (Nat.le_refl _) y (List.mem_append.1 q)
 ·intro h
  rcases mergeK_mem _ _ _ _ h with ⟨y,q,e⟩|⟨y,q,e⟩
  ·exact .inr ⟨y,List.mem_append_left _ q,e⟩
  ·exact .inr ⟨y,List.mem_append_right _ q,e⟩
def edT (p q : Tr) (x : Item) : List Edt := edV x.key ((getT p x.key).getD Item.zero) ((getT q x.key).getD Item.zero)
def rundoL (p q : Tr) : List Edt := (foldW (sortA p ++ sortA q)).flatMap (edT p q)
theorem sortA_srt {t : Tr} (h : mayT t = true) : Srt (sortA t) := by
 rw [show sortA t = mergeM (cntT t) t from (merge_fold h).symm]
 exact merge_srt _ (front_of h)
theorem sortA_mem {t : Tr} (h : mayT t = true) {x : Item} : x ∈ sortA t ↔ ∃ i,i < 16 ∧ x ∈ t.leaf i := by
 rw [show sortA t = mergeM (cntT t) t from (merge_fold h).symm]
 constructor
 ·exact merge_mem _ _ x
 ·rintro ⟨i,hi,hx⟩
  exact merge_all _ (front_of h) (Nat.le_refl _) x i hi hx
theorem get_lk {t : Tr} (h : mayT t = true) (k : Bytes) : getT t k = lkL (sortA t) k := by
 have key : ∀ y,getT t k = some y ↔ lkL (sortA t) k = some y := by
  intro y
  rw [getT_mem h,lk_mem (sortA_srt h),sortA_mem h]
  constructor
  ·rintro ⟨b,h1,h2,h3⟩;exact ⟨⟨b,h1,h2⟩,h3⟩
  ·rintro ⟨⟨b,h1,h2⟩,h3⟩;exact ⟨b,h1,h2,h3⟩
 cases h1 : getT t k with
 |some y=>exact ((key y).1 h1).symm
 |none =>
  cases h2 : lkL (sortA t) k with
  |none=>rfl
  |some y=>rw [(key y).2 h2] at h1;cases h1
theorem item_kind {x : Item} (h : itemB x = true) : x.kind ≠ 0 := by
 unfold itemB at h
 simp only [Bool.and_eq_true,bne_iff_ne] at h
 exact h.1.1.2
theorem sortA_kind {t : Tr} (h : mayT t = true) : ∀ x ∈ sortA t,x.kind ≠ 0 := by
 intro x hx
 obtain ⟨i,hi,hx⟩ := (sortA_mem h).1 hx
 exact item_kind (fits_key h hi hx).1
theorem scanR_all {t : Tr} (h : TInv t) : scanR [] [] 1024 t = sortA t := by
 obtain ⟨f1,f2⟩ := sortA_facts h
 have e : scanR [] [] 1024 t = ((sortA t).filter (inR [] [])).take 1024 := scanR_law (most := 1024) h.may rfl rfl
 have e2 : (sortA t).filter (inR [] []) = sortA t := by
  refine List.filter_eq_self.2 fun x _=>?_
  unfold inR
  rw [less_nil];rfl
 rw [e,e2,List.take_of_length_le f1]
theorem undo_law {p q : St} (h1 : mayS p = true) (h2 : mayS q = true) (i1 : TInv p.t) (i2 : TInv q.t) : undoR p q = rundoL p.t q.t := by
 unfold undoR rundoL
 rw [h1,h2,scanR_all i1,scanR_all i2]
 rw [if_pos (by rfl),undo_merge _ _ _ _ (Nat.le_refl _) (sortA_srt i1.may) (sortA_srt i2.may) (sortA_kind i1.may) (sortA_kind i2.may),List.nil_append,← keys_merge (sortA_srt i1.may) (sortA_srt i2.may),List.flatMap_map]
 refine fm_congr fun x _=>?_
 unfold edK edT
 rw [get_lk i1.may,get_lk i2.may]
theorem unlike_nil {a b : Tr} : (unlikeL a b 16).length = 0 ↔ a.Eq16 b := by
 rw [List.length_eq_zero_iff]
 unfold unlikeL
 rw [List.filter_eq_nil_iff]
 constructor
 ·intro h i hi
  have := h i (List.mem_range.2 hi)
  unfold unlikeAt at this
  simp at this
  exact ⟨this.2,this.1⟩
 ·intro h i hi
  obtain ⟨h1,h2⟩ := h i (List.mem_range.1 hi)
  unfold unlikeAt
  simp [h1,h2]
theorem sameM_S {a b : St} (h1 : mayS a = true) (h2 : mayS b = true) : sameM a b = sameS a b := by
 unfold sameM sameS
 rw [h1,h2,Bool.true_and,Bool.true_and,Bool.and_assoc,Bool.and_assoc]
 have : decide ((unlikeL a.t b.t 16).length = 0) = sameT a.t b.t := by
  rw [Bool.eq_iff_iff,decide_eq_true_eq,unlike_nil,sameT_iff]
 rw [this]
end Go.Proofs.YtoeajbhlkccekaaDoor

namespace Go.Proofs.YtoeajbhlkccekaaDoor
open Go.RowKit
theorem src_fs {P : Program} {w : World} {tx e' : TypeId} (hk : P.underlying tx = some (.slice e')) {B : Option Addr} {l : List Item} {d : Nat} (hF : Fs Item.cells 5 w B l) : Src P 5 tx (.slice B l.length d) l.length (l.flatMap Item.cells) w := by
 by_cases hl : l = []
 ·subst hl
  have hc : ∀ w' : World,(Builtin.firstCells 5 0 (.slice B 0 d)).run P w' = .ok ([] : List Value).toArray w' := fun w'=>by
   cases B with
   |none=>exact run_firstCells_none w' 5 0 0 d
   |some ad=>exact run_firstCells_some w' 5 0 ad 0 d [] (by simp) (fun j u hj=>by simp at hj)
  exact ⟨.inl ⟨_,hk⟩,fun _=>rfl,hc w,hc w.drew,by simp,fun u hu=>by cases hu⟩
 ·obtain ⟨b,off,rfl,hb,hcell⟩ := hF.2 (List.length_pos_iff.2 hl)
  refine Src.ofSlice w hk _ l.length d (l.flatMap Item.cells) (flat_length it_five l) (fun j u hj=>?_) (fun u hu=>?_)
  ·rw [Addr.add_lit];exact hcell j u hj
  ·obtain ⟨x,_,hx⟩ := List.mem_flatMap.1 hu
   exact it_one x u hx
theorem wp_appO {P : Program} {a : Act} {w w2 : World} {o : Oper} {x y : Operand} {t ty : TypeId} {v : Value} {K : Act → World → Prop} {Q : Exit → Act → World → Prop} (ho : o.op = .call { callee := .builtin .append,args := #[x,y],argTypes := #[t,t] }) (hty : o.type = ty)
  (h : (Builtin.append_ #[t,t] ty #[a.eval x,a.eval y]).run P w = .ok v w2) (k : K (a.put o.dst v) w2) : o.wp P a w K Q := by
 have hex : (execOp a.eval o).run P w = .ok (.value v) w2 := by
  unfold execOp
  rw [ho,hty]
  simp only [resolve,invoke,builtin,Sem.run_bind,Sem.run_pure,Result.andThen_ok,List.map_toArray,List.map_cons,List.map_nil,h]
 unfold Oper.wp
 rw [hex]
 exact k
theorem wp_assignO {P : Program} {a : Act} {w : World} {o : Oper} {x : Operand} {K : Act → World → Prop} {Q : Exit → Act → World → Prop} (ho : o.op = .assign x) (k : K (a.put o.dst (a.eval x)) w) : o.wp P a w K Q := by
 have hex : (execOp a.eval o).run P w = .ok (.value (a.eval x)) w := by
  unfold execOp
  rw [ho]
  simp [Sem.run_pure,Sem.run_bind]
 unfold Oper.wp
 rw [hex]
 exact k
def RowOf (w0 : World) (t : Tr) (v : Value) (w : World) : Prop := ∃ A c,v = .slice A (sortA t).length c ∧ w.ownsRow w0.heap.size 58 5 (.slice A (sortA t).length c) (sortA t).length ((sortA t).flatMap Item.cells)
def phiU (S : SS) (μ : List Value) (b1 b2 : Nat) (w0 : World) (p q : Tr) (j : Nat) (v : Value) (w : World) : Prop := match j with
 |0=>v = .pointer (some ⟨b1,0,none⟩)
 |1=>rep S μ (tA p) v
 |2=>RowOf w0 p v w
 |3=>v = .pointer (some ⟨b2,0,none⟩)
 |4=>rep S μ (tA q) v
 |5=>RowOf w0 q v w
 |_=>True
theorem phiU_gr {S : SS} {μ : List Value} {b1 b2 : Nat} {w0 : World} {p q : Tr} {j : Nat} {v : Value} {w w' : World} (hg : Gr w w') (h : phiU S μ b1 b2 w0 p q j v w) : phiU S μ b1 b2 w0 p q j v w' := by
 have row : ∀ {t},RowOf w0 t v w → RowOf w0 t v w' := by
  rintro t ⟨A,c,h1,h2⟩
  exact ⟨A,c,h1,own_below h2 hg⟩
 unfold phiU at h ⊢
 split at h <;> first|exact h|exact row h
theorem ld_trunk {S : SS} {μ : List Value} {s : St} {w : World} {b : Nat} {cs : Array Value} {e : TypeId} (hb : w.heap[b]? = some (.cells cs e (0,0))) (hr : reps S μ (stC s) cs.toList) : ∃ u,rep S μ (tA s.t) u ∧ (loadVar 26 ⟨b,0,none⟩).run Tryd.prog w = .ok u w := by
 obtain ⟨d,u,h1,h2,h3⟩ := own_cells (P := Tryd.prog) (k := 34) (o := 0) (K := fun d=>d = tA s.t) hb (us := cs.toList) (fun j u hu=>by simpa using hu) hr (by
  unfold ofCells
  rw [if_neg (by decide)]
  refine ⟨by decide,by rw [stC_len];decide,?_⟩
  rw [List.drop_zero]
  show DataW.agg ((stC s).take 32) = tA s.t
  rw [st_take];rfl) (t := 26) (by kernel_rfl)
 subst h1
 exact ⟨u,h2,h3⟩
abbrev oS (s : St) : AObj := ⟨1,ty_api_Store,0,stC s⟩
abbrev oI (l : List Item) : AObj := ⟨2,58,5,l.map (flA Item.cells)⟩
theorem regU {w : World} {S : SS} {μ : List Value} {T : Tm} {a : Act} {p q : St} (hr : Rel w S μ [oS p,oS q]) (hf : Fr S μ (F0 78) T a) (hg : GOk GG S) (h2 : get T 2 = OP 0 0) (h3 : get T 3 = OP 1 0) (hp : TInv p.t) (hq : TInv q.t) {Q : Exit → Act → World → Prop}
  (hQ : ∀ a' w' S' μ',Rel w' S' μ' [oS p,oS q,oI (sortA p.t ++ sortA q.t)] → Step 2 w S μ [oS p,oS q] w' S' μ' [oS p,oS q,oI (sortA p.t ++ sortA q.t)] → a'.defers = a.defers → a'.tmps.size = a.tmps.size → rep S' μ' (OW 2 (sortA p.t ++ sortA q.t).length) (a'.eval (.tmp 6)) → a'.eval (.tmp 2) = a.eval (.tmp 2) → a'.eval (.tmp 3) = a.eval (.tmp 3) → a'.eval (.tmp 5) = a.eval (.tmp 5) → Q .normal a' w') :
  (cdL (endC 2 ((Tryd.f32.body).getD .skip))).wp Tryd.prog Q a w := by
 have f2 := hf.slot 2
 have f3 := hf.slot 3
 rw [h2] at f2
 rw [h3] at f3
 obtain ⟨b,x,hx,hpb,f2⟩ := f2
 obtain ⟨b',x',hx',hpb',f3⟩ := f3
 obtain ⟨b1,cs1,rfl,hb1,hc1⟩ := (hr.objs 0 x _ hx rfl).1 rfl
 obtain ⟨b2,cs2,rfl,hb2,hc2⟩ := (hr.objs 1 x' _ hx' rfl).1 rfl
 injection hpb with hpb
 injection hpb' with hpb'
 subst hpb hpb'
 have hlt : ∀ {b o},w.heap[b]? = some o → b < w.heap.size := fun {b o} h=>by
  rcases Nat.lt_or_ge b w.heap.size with q|q
  ·exact q
  ·rw [Array.getElem?_eq_none (by omega)] at h;cases h
 have hl1 : ∀ w',Gr w w' → ∃ u,rep S μ (tA p.t) u ∧ (loadVar 26 ⟨b1,0,none⟩).run Tryd.prog w' = .ok u w' := fun w' hgr=>ld_trunk (by rw [hgr.block b1 (hlt hb1)];exact hb1) hc1
 have hl2 : ∀ w',Gr w w' → ∃ u,rep S μ (tA q.t) u ∧ (loadVar 26 ⟨b2,0,none⟩).run Tryd.prog w' = .ok u w' := fun w' hgr=>ld_trunk (by rw [hgr.block b2 (hlt hb2)];exact hb2) hc2
 have hrel : ∀ w',Gr w w' → Rel w' S [] [] := fun w' hgr=>by
  obtain ⟨q,_⟩ := hr.grow (S' := S) hgr (fun _ _ _ h=>h) (fun _ _ _ h=>.inl h) (fun b j d h hb=>by have := hr.still_lt h;omega)
  exact q.le (H' := []) trivial rfl
 have nc : ∀ {t : Tr} {v : Value},rep S μ (tA t) v → rep S [] (tA t) v := fun {t v} h=>h.none (by show (tC t).all (ltA 0) = true;exact tC_ltA)
 have allc : ∀ {t : Tr} (ht : TInv t) {w' : World} (hgr : Gr w w') {v : Value},rep S μ (tA t) v → Calls Tryd.prog 53 #[v] w' fun e w''=>∃ v,e = .returned v ∧ Gr w' w'' ∧ RowOf w t v w'' := fun {t} ht {w'} hgr {v} hv =>
  (all_any t ht (hrel w' hgr) hg (nc hv)).mono fun e w'' ⟨A,c,he,ho,hb⟩=>⟨_,he,hb,A,c,rfl,own_mono ho hgr.size⟩
 show (Code.region _ _ true).wp Tryd.prog Q a w
 refine wp_region_rowsT [_,_,_,_,_,_,_,_] 6 (phiU S μ b1 b2 w p.t q.t) [⟨[],[2],none⟩,⟨[(0,14)],[],none⟩,⟨[(1,15)],[],none⟩,⟨[],[3],none⟩,⟨[(3,17)],[],none⟩,⟨[(4,18)],[],none⟩] (by kernel_rfl) (fun _ _ _ _ hg h=>phiU_gr hg h) (by rw [hf.size];kernel_rfl) (by kernel_rfl) (by kernel_rfl) ?_ ?_
 ·refine ⟨?_,?_,?_,?_,?_,?_,trivial⟩
  ·rintro ρ w' hgr ec ef - - ⟨e3,-⟩
   have e3 : ρ (.tmp 2) = .pointer (some ⟨b1,0,none⟩) := e3.trans f2
   exact runs_val (by simp [execOp,e3,ec,ef,go_sem]) (Gr.refl _) rfl
  ·rintro ρ w' hgr ec ef - ⟨q,-⟩ -
   have q : ρ (.tmp 14) = .pointer (some ⟨b1,0,none⟩) := q
   obtain ⟨u,h1,h2⟩ := hl1 w' hgr
   refine runs_val (v := u) (w' := w') ?_ (Gr.refl _) h1
   unfold execOp
   simp only [Instr.loadAt,q,Instr.sureAddr,Sem.run_bind,Sem.run_pure,Result.andThen_ok,h2]
  ·rintro ρ w' hgr ec ef - ⟨q,-⟩ -
   have q : rep S μ (tA p.t) (ρ (.tmp 15)) := q
   exact runs_call (run_call_func #[ρ (.tmp 15)] (by kernel_rfl) rfl (ef _) (by simp)) (allc hp hgr q)
  ·rintro ρ w' hgr ec ef - - ⟨e3,-⟩
   have e3 : ρ (.tmp 3) = .pointer (some ⟨b2,0,none⟩) := e3.trans f3
   exact runs_val (by simp [execOp,e3,ec,ef,go_sem]) (Gr.refl _) rfl
  ·rintro ρ w' hgr ec ef - ⟨q,-⟩ -
   have q : ρ (.tmp 17) = .pointer (some ⟨b2,0,none⟩) := q
   obtain ⟨u,h1,h2⟩ := hl2 w' hgr
   refine runs_val (v := u) (w' := w') ?_ (Gr.refl _) h1
   unfold execOp
   simp only [Instr.loadAt,q,Instr.sureAddr,Sem.run_bind,Sem.run_pure,Result.andThen_ok,h2]
  ·rintro ρ w' hgr ec ef - ⟨qq,-⟩ -
   have qq : rep S μ (tA q.t) (ρ (.tmp 18)) := qq
   exact runs_call (run_call_func #[ρ (.tmp 18)] (by kernel_rfl) rfl (ef _) (by simp)) (allc hq hgr qq)
 ·intro a' w' hgr hd hs hφ hu
  obtain ⟨A1,c1,e1,o1⟩ := hφ 2 _ 16 (by decide) rfl rfl
  obtain ⟨A2,c2,e2,o2⟩ := hφ 5 _ 19 (by decide) rfl rfl
  have u2 : a'.eval (.tmp 2) = a.eval (.tmp 2) := hu 2 (by kernel_rfl)
  have u3 : a'.eval (.tmp 3) = a.eval (.tmp 3) := hu 3 (by kernel_rfl)
  have u5 : a'.eval (.tmp 5) = a.eval (.tmp 5) := hu 5 (by kernel_rfl)
  clear hφ hu
  have k1 := (sortA_facts hp).1
  have k2 := (sortA_facts hq).1
  generalize sortA p.t = l1 at *
  generalize sortA q.t = l2 at *
  have n1 : l1.length = (l1.map (flA Item.cells)).length := (List.length_map ..).symm
  have n2 : l2.length = (l2.map (flA Item.cells)).length := (List.length_map ..).symm
  rw [n1] at e1 o1
  obtain ⟨v,r,H',S1,μ1,he,⟨rfl,rfl⟩,hr1,hrep1,hst1⟩ := own_cpost hr hgr (allC_items l1) (reps_items S l1) o1
  injection he with he
  subst he
  obtain ⟨A0,m0,c0,A0',c0',hμ,hle,heq0,heq1⟩ := hrep1
  have hH : ([oS p,oS q] ++ [oI l1] : List AObj)[2]? = some (oI l1) := rfl
  obtain ⟨us0,A3,c3,q1,_⟩ := (hr1.objs 2 _ _ hμ hH).2.1 rfl
  injection q1 with q1 q2 q3
  obtain ⟨rfl,rfl⟩ := heq1 q2.symm
  subst q2
  have hsrc := src_fs (P := Tryd.prog) (tx := 22) Tryd.underlying22 (d := c2) (Fs.of_own (f := Item.cells) rfl o2)
  rw [n2] at hsrc
  obtain ⟨A',c',w2,S2,hrun,hr2,hst2⟩ := row_appS (P := Tryd.prog) (t := 22) (tx := 22) 22 (e := 58) (z := 5) (by kernel_rfl) hr1 hμ hH rfl rfl rfl hsrc (reps_items S1 l2) (allC_items l2) (by show (l1.map (flA Item.cells)).length + _ ≤ _;rw [← n1,← n2];omega)
  have hO : oI (l1 ++ l2) = ⟨2,58,5,l1.map (flA Item.cells) ++ l2.map (flA Item.cells)⟩ := by
   show (⟨2,58,5,(l1 ++ l2).map (flA Item.cells)⟩ : AObj) = _
   rw [List.map_append]
  have hn : (oI l1).c.length + (l2.map (flA Item.cells)).length = (l1 ++ l2).length := by
   show (l1.map (flA Item.cells)).length + _ = _
   rw [← n1,← n2,List.length_append]
  have hμ2 : (μ1.set 2 (.slice A' ((oI l1).c.length + (l2.map (flA Item.cells)).length) c'))[2]? = some (.slice A' ((oI l1).c.length + (l2.map (flA Item.cells)).length) c') := List.getElem?_set_self (List.getElem?_eq_some_iff.1 hμ).1
  have r2 : Rel w2 S2 (μ1.set 2 (.slice A' ((oI l1).c.length + (l2.map (flA Item.cells)).length) c')) [oS p,oS q,oI (l1 ++ l2)] := by rw [hO];exact hr2
  have s2 : Step 2 w S μ [oS p,oS q] w2 S2 (μ1.set 2 (.slice A' ((oI l1).c.length + (l2.map (flA Item.cells)).length) c')) [oS p,oS q,oI (l1 ++ l2)] := by
   rw [hO]
   exact hst1.trans (hst2.less (by show 2 ≤ 3;decide))
  clear hr2 hst2 hst1 hr1
  generalize μ1.set 2 (.slice A' ((oI l1).c.length + (l2.map (flA Item.cells)).length) c') = μ2 at *
  rw [hn] at hμ2 hrun
  have hrun2 : (Builtin.append_ #[22,22] 22 #[a'.eval (.tmp 16),a'.eval (.tmp 19)]).run Tryd.prog w' = .ok (.slice A' (l1 ++ l2).length c') w2 := by
   rw [e1,e2,n2,heq0];exact hrun
  show wpList Tryd.prog _ Q [_,_] a' w'
  unfold wpList
  rw [if_pos (by simp [Region.wanted])]
  refine .inl ?_
  refine wp_appO rfl rfl hrun2 ?_
  unfold wpList
  rw [if_pos (by simp [Region.wanted])]
  refine .inl ?_
  refine wp_assignO rfl ?_
  show wpList Tryd.prog _ Q [] _ w2
  unfold wpList
  have z : 78 ≤ a'.tmps.size := by rw [hs,hf.size];exact Nat.le_refl _
  refine hQ _ w2 S2 μ2 r2 s2 hd ?_ ?_ ?_ ?_ ?_
  ·simp [Act.put,hs]
  ·refine ⟨A',_,c',A',c',hμ2,Nat.le_refl _,?_,fun _=>⟨rfl,rfl⟩⟩
   refine (getD_put_same _ 6 _ (by simp [Act.put];omega)).trans ?_
   exact getD_put_same _ 20 _ (by omega)
  ·exact ((getD_put_other _ 6 2 _ (by decide)).trans (getD_put_other _ 20 2 _ (by decide))).trans u2
  ·exact ((getD_put_other _ 6 3 _ (by decide)).trans (getD_put_other _ 20 3 _ (by decide))).trans u3
  ·exact ((getD_put_other _ 6 5 _ (by decide)).trans (getD_put_other _ 20 5 _ (by decide))).trans u5
end Go.Proofs.YtoeajbhlkccekaaDoor

namespace Go.Proofs.YtoeajbhlkccekaaDoor
open Go.RowKit
attribute [local go_sem] tC_len tC_sure tC_ltA tC_lt1 tC_ro tC_take tC_all1 zcT_eq zcI_len zC_len zC_ltA zC_lt1 zC_sure zC_ro zC_take set_tl set_tv sc_tt sc_zt sc_tz sc_zz add16 tA_def lA_def natInt u_tl u_tv st_take35 st_take stC_len st_sure st_ltA st_lt1 st_ro zcS_eq zS_len zS_sure zS_take zS_ltA zS_ro zS_all1 ss_zs ss_zz u_bS0
theorem fold_len : ∀ (l : List Item) (k : Nat),k ≤ l.length → (∀ y ∈ foldK l k,y ∈ l) ∧ (foldK l k).length ≤ k
 |l,0,_=>⟨fun y hy=>(by cases hy),Nat.le_refl _⟩
 |l,k + 1,hk=>by
  obtain ⟨i1,i2⟩ := fold_len l k (by omega)
  rw [foldK_succ (by omega)]
  refine ⟨fun y hy=>?_,?_⟩
  ·unfold withK at hy
   simp only [List.mem_append,List.mem_filter,List.mem_singleton] at hy
   rcases hy with (⟨hy,_⟩|hy)|⟨hy,_⟩
   ·exact i1 y hy
   ·rw [hy];exact List.getElem_mem _
   ·exact i1 y hy
  ·have hs : Srt (foldK l k) := (fold_keys (l.take k) [] List.Pairwise.nil).1
   have := withK_len hs l[k]
   split at this <;> omega
theorem undoB_rest (m : Nat) (D : List Deferred) (n0 : Nat) (p q : St) (l : List Item) (hm : 40000000 < m) (hp : TInv p.t) (hq : TInv q.t) (hl : l.length ≤ 2048) (ks : List Item) (hks : ks.length ≤ 2048) :
  ref13UndoB_r1 m D n0 ⟨[oS p,oS q,oI l],[(2,OP 0 0),(3,OP 1 0),(5,lA ks)]⟩ = some (SL ((ks.flatMap (edT p.t q.t)).map (flA Edt.cells)),[oS p,oS q,oI l,⟨2,ty_api_Edit,4,(ks.flatMap (edT p.t q.t)).map (flA Edt.cells)⟩]) := by
 rw [ref13UndoB_r1_eq,lA_def]
 simp (config := {maxSteps := 4000000,implicitDefEqProofs := false}) (disch := omega) only [go_sem,]
 refine iter_go (ι := {k : Nat // k ≤ ks.length}) (fun k=>⟨[oS p,oS q,oI l,⟨2,ty_api_Edit,4,((ks.take k.1).flatMap (edT p.t q.t)).map (flA Edt.cells)⟩],[(2,OP 0 0),(3,OP 1 0),(5,SL (ks.map (flA Item.cells))),(8,OW 3 ((ks.take k.1).flatMap (edT p.t q.t)).length),(9,nA k.1)]⟩) (fun k=>ks.length - k.1) (fun _=>some (SL ((ks.flatMap (edT p.t q.t)).map (flA Edt.cells)),[oS p,oS q,oI l,⟨2,ty_api_Edit,4,(ks.flatMap (edT p.t q.t)).map (flA Edt.cells)⟩])) ?_ (⟨0,Nat.zero_le _⟩ : {k : Nat // k ≤ ks.length}) (by show ks.length - 0 < m;omega)
 rintro kx hkx ⟨k,hk⟩ kc hkc
 dsimp only at hk hkc ⊢
 rw [ref13UndoB_b2_eq]
 by_cases hlt : k < ks.length
 ·have hlt' : (k : Int) < (ks.length : Int) := by omega
  have step := hkc ⟨k + 1,by omega⟩ (by dsimp only;omega)
  dsimp only at step
  rw [List.take_succ_eq_append_getElem hlt,List.flatMap_append,List.flatMap_cons,List.flatMap_nil,List.append_nil] at step
  have hle : ((ks.take k).flatMap (edT p.t q.t)).length ≤ k := by
   have h4 : ∀ l : List Item,(l.flatMap (edT p.t q.t)).length ≤ l.length := by
    intro l
    induction l with
    |nil=>exact Nat.le_refl _
    |cons x r ih =>
     rw [List.flatMap_cons,List.length_append,List.length_cons]
     have : (edT p.t q.t x).length ≤ 1 := by unfold edT edV;split <;> simp
     omega
   have := h4 (ks.take k)
   rw [List.length_take] at this
   omega
  generalize (ks.take k).flatMap (edT p.t q.t) = acc at *
  generalize hx : ks[k] = x at *
  have g1 := rget_s m p.t x.key (by omega) hp.ok hp.may
  have g2 := rget_s m q.t x.key (by omega) hq.ok hq.may
  rw [tA_def,iA_def] at g1 g2
  unfold edT edV at step
  generalize (getT p.t x.key).getD Item.zero = u at *
  generalize (getT q.t x.key).getD Item.zero = v at *
  cases hs : sameV u v with
  |true =>
   rw [hs,if_pos rfl,List.append_nil] at step
   simp (config := {maxSteps := 4000000,implicitDefEqProofs := false}) (disch := omega) only [go_sem,hlt',u_nthM,hx,fl_it,g1,g2,zcI0,u_neV,hs,w_i64,ref13UndoB_r3_eq,ed_allA]
   exact step
  |false =>
   rw [hs,if_neg (by decide),List.map_append,List.length_append] at step
   have hkm : acc.length ≤ 34359738367 := by omega
   simp (config := {maxSteps := 4000000,implicitDefEqProofs := false}) (disch := omega) only [go_sem,hlt',u_nthM,hx,fl_it,g1,g2,zcI0,u_neV,hs,w_i64,ref13UndoB_r3_eq,u_bE1,ed_all,ed_allA,hkm]
   exact step
 ·have hlt' : ¬ (k : Int) < (ks.length : Int) := by omega
  have : k = ks.length := by omega
  subst this
  rw [List.take_length]
  simp (config := {maxSteps := 4000000,implicitDefEqProofs := false}) (disch := omega) only [go_sem,hlt',hkx,ref13UndoB_r2_eq]
theorem undoB_nil (m : Nat) (D : List Deferred) (n0 : Nat) (p q : St) (hm : 40000000 < m) :
  ref13UndoB_r1 m D n0 ⟨[oS p,oS q,oI []],[(2,OP 0 0),(3,OP 1 0),(5,V (.slice none 0 0))]⟩ = some (SL [],[oS p,oS q,oI [],⟨2,ty_api_Edit,4,[]⟩]) := by
 rw [ref13UndoB_r1_eq]
 obtain ⟨m,rfl⟩ : ∃ k,m = k + 1 := ⟨m - 1,by omega⟩
 simp (config := {maxSteps := 4000000,implicitDefEqProofs := false}) (disch := omega) only [go_sem,iterC,ref13UndoB_b2_eq,ref13UndoB_r2_eq]
 try rfl
theorem undoB_s (m : Nat) (D : List Deferred) (p q : St) (l : List Item) (hm : 40000000 < m) (hp : TInv p.t) (hq : TInv q.t) (hl : l.length ≤ 2048) (hkl : ∀ x ∈ l,x.key.length ≤ maxLen) :
  ref13UndoB m D (OP 0 0) (OP 1 0) (V (.slice none 0 0)) (OW 2 l.length) [oS p,oS q,oI l] = some (SL (((foldW l).flatMap (edT p.t q.t)).map (flA Edt.cells)),[oS p,oS q,oI l,⟨2,ty_api_Edit,4,((foldW l).flatMap (edT p.t q.t)).map (flA Edt.cells)⟩]) := by
 rw [ref13UndoB_eq]
 have hfin : foldW l = foldK l l.length := by unfold foldW foldK;rw [List.take_length]
 refine iter_go (ι := {k : Nat // k ≤ l.length}) (fun k=>⟨[oS p,oS q,oI l],[(2,OP 0 0),(3,OP 1 0),(5,slot3 l k.1),(6,OW 2 l.length),(7,nA k.1)]⟩) (fun k=>l.length - k.1) (fun _=>some (SL (((foldW l).flatMap (edT p.t q.t)).map (flA Edt.cells)),[oS p,oS q,oI l,⟨2,ty_api_Edit,4,((foldW l).flatMap (edT p.t q.t)).map (flA Edt.cells)⟩])) ?_ (⟨0,Nat.zero_le _⟩ : {k : Nat // k ≤ l.length}) (by show l.length - 0 < m;omega)
 rintro kx hkx ⟨k,hk⟩ kc hkc
 dsimp only at hk hkc ⊢
 rw [ref13UndoB_b1_eq]
 by_cases hlt : k < l.length
 ·have hlt' : (k : Int) < (l.length : Int) := by omega
  have step := hkc ⟨k + 1,by omega⟩ (by dsimp only;omega)
  dsimp only [slot3] at step
  rw [foldK_succ hlt] at step
  obtain ⟨j1,j2⟩ := fold_len l k (by omega)
  have hW := plenumref09_With_e m (foldK l k) l[k] ⟨by omega,hkl _ (List.getElem_mem _),fun x hx=>hkl x (j1 x hx)⟩
  rw [iA_def,lA_def,lA_def] at hW
  rw [lA_def] at step
  have hll : (List.map (flA Item.cells) l).length = l.length := List.length_map ..
  simp (config := {maxSteps := 4000000,implicitDefEqProofs := false}) (disch := omega) only [go_sem,hlt',u_nthM,fl_it,slot3_ro,hW,w_i64,hll]
  exact step
 ·have hlt' : ¬ (k : Int) < (l.length : Int) := by omega
  have : k = l.length := by omega
  subst this
  rw [hfin]
  have hll : (List.map (flA Item.cells) l).length = l.length := List.length_map ..
  cases hz : l.length with
  |zero =>
   have : l = [] := List.eq_nil_of_length_eq_zero hz
   subst this
   have hr := undoB_nil m D 3 p q hm
   simp (config := {maxSteps := 4000000,implicitDefEqProofs := false}) (disch := omega) only [go_sem,hkx,slot3,hr]
   try rfl
  |succ k =>
   rw [hz] at hlt' hll
   have hr := undoB_rest m D 3 p q l hm hp hq hl (foldK l (k + 1)) (by have := (fold_len l (k + 1) (by omega)).2;omega)
   rw [lA_def] at hr
   simp (config := {maxSteps := 4000000,implicitDefEqProofs := false}) (disch := omega) only [go_sem,hlt',hkx,slot3,hll,hr]
end Go.Proofs.YtoeajbhlkccekaaDoor

namespace Go.Proofs.YtoeajbhlkccekaaDoor
open Go.RowKit
section
variable {P : Program} {G : Gl} {N : FS} {n : Nat}
end
end Go.Proofs.YtoeajbhlkccekaaDoor

namespace Go.Proofs.YtoeajbhlkccekaaDoor
open Go.RowKit
theorem first_u (m : Nat) (D : List Deferred) (p q : St) : ref13UndoA m D (stA p) (stA q) [] = some (TU [OP 0 0,OP 1 0,V (.slice none 0 0)],[oS p,oS q]) := by
 rw [ref13UndoA_eq,stA_def,stA_def]
 simp (config := {maxSteps := 4000000,implicitDefEqProofs := false}) (disch := omega) only [go_sem,↓reduceIte,Nat.reduceAdd,Nat.reduceSub,Nat.reduceMul,Nat.reduceLeDiff,Nat.reduceLT,Int.reduceEq,Int.reduceNe,Int.reduceLT,Int.reduceLE,Int.reduceAdd,Int.reduceSub,Int.reduceMul,Int.reduceNeg,Nat.zero_add,Nat.add_zero,Nat.mul_one,Int.toNat_natCast,Int.natCast_zero,Int.cast_ofNat_Int,or_false,false_or,or_true,true_or,Int.reduceToNat,Nat.sub_zero,Int.natCast_nonneg,Int.toNat_zero,Bool.true_and,Bool.and_true,Bool.false_and,Bool.and_false,Bool.true_or,Bool.or_true,Bool.false_or,Bool.or_false,Bool.not_true,Bool.not_false,Bool.not_not,true_and,and_true,false_and,and_false,not_true_eq_false,not_false_eq_true,eq_self,decide_true,decide_false,ne_eq,implies_true,forall_const,true_implies,false_implies,Bool.true_eq_false,Bool.false_eq_true,reduceCtorEq,List.map_cons,List.map_nil,List.all_cons,List.all_nil,List.length_cons,List.length_nil,List.length_map,List.length_append,List.nil_append,List.cons_append,List.set_cons_zero,List.set_cons_succ,List.set_nil,List.drop_zero,List.drop_succ_cons,List.drop_nil,List.take_zero,List.take_succ_cons,List.take_nil,Option.map_some,Option.map_none,Option.isSome_some,Nat.reduceEqDiff,Nat.reduceBEq,Nat.reduceGT,List.all_append,List.all_map,Function.comp_def,decide_eq_true_eq,Bool.and_eq_true,beq_self_eq_true,or_self,and_self,ite_true,ite_false,Nat.le_refl,Bool.not_eq_true,decide_not,Bool.not_eq_true',decide_eq_false_iff_not,Bool.not_eq_false,Bool.or_eq_true,if_true,if_false,ite_self,u_roF,u_cvF,u_cvC,u_ceT,u_ceK,u_appS,tC_len,tC_sure,tC_ltA,tC_lt1,tC_ro,tC_take,tC_all1,zcT_eq,zcI_len,zC_len,zC_ltA,zC_lt1,zC_sure,zC_ro,zC_take,set_tl,set_tv,sc_tt,sc_zt,sc_tz,sc_zz,add16,tA_def,lA_def,natInt,u_tl,u_tv,stC_len,st_sure,st_ltA,st_take35,st_lt1]
 try rfl
theorem rundo_acp (m : Nat) (hm : 40000000 < m) (p q : St) (hp : TInv p.t) (hq : TInv q.t) : ACp Tryd.prog GG 32 [stA p,stA q] (SL ((rundoL p.t q.t).map eA)) := by
 refine acp_of_wpF (c := (Tryd.f32.body).getD .skip) (rs := [.tmp 4]) Tryd.func32 rfl (by kernel_rfl) rfl Tryd.ntmps32 (Nat.le_of_ble_eq_true rfl) ?_
 have hF := first_u m [] p q
 refine exec_far (n := 0) MIX (ref13UndoA_hE m) 2 _ ref13UndoA_h _ (by kernel_rfl) (Nat.zero_le _) hF ?_ (fun e s' hne q=>?_)
 rotate_left
 ·cases e with
  |normal=>exact (hne rfl).elim
  |_=>cases q
 intro s' _ hk0
 have hk2 : (some (TU [slotK s'.T 2,slotK s'.T 3,slotK s'.T 5],s'.H) : RO) = some (TU [OP 0 0,OP 1 0,V (.slice none 0 0)],[oS p,oS q]) := hk0
 injection hk2 with hk2
 injection hk2 with hk2 hH
 injection hk2 with _ hk2
 injection hk2 with hk2
 injection hk2 with k1 hk2
 injection hk2 with k2 hk2
 injection hk2 with k3 _
 rw [slotK_eq] at k1 k2 k3
 obtain ⟨H1,T1⟩ := s'
 dsimp only at hH k1 k2 k3
 subst hH
 intro w S μ a hr hf hg
 have ec : endC 2 ((Tryd.f32.body).getD .skip) = .seq (cdL (endC 2 ((Tryd.f32.body).getD .skip))) (endC 3 ((Tryd.f32.body).getD .skip)) := by kernel_rfl
 rw [ec]
 refine wp_seq (regU hr hf hg k1 k2 hp hq fun a' w' S' μ' hr2 hst2 hd hs hrep e2 e3 e5=>?_)
 have hl1 := sortA_facts hp
 have hl2 := sortA_facts hq
 have hR := undoB_s m [] p q (sortA p.t ++ sortA q.t) hm hp hq (by rw [List.length_append];omega) (fun x hx=>by
  rcases List.mem_append.1 hx with hx|hx
  ·exact Nat.le_trans (key24 (hl1.2 x hx)) (by decide)
  ·exact Nat.le_trans (key24 (hl2.2 x hx)) (by decide))
 have key := exec_ok (n := 0) MIX (ref13UndoB_hE m) _ ref13UndoB_h _ _ (Nat.zero_le _) hR
 have hext := hst2.toExt hr
 have hrl : (foldW (sortA p.t ++ sortA q.t)).flatMap (edT p.t q.t) = rundoL p.t q.t := rfl
 rw [hrl] at hR key
 generalize sortA p.t ++ sortA q.t = l at *
 have hf2 : Fr S' μ' (F0 78) [(2,OP 0 0),(3,OP 1 0),(5,V (.slice none 0 0)),(6,OW 2 l.length)] a' := by
  refine ⟨by rw [hs,hf.size],by rw [hd,hf.nodef],fun i=>?_⟩
  by_cases q1 : i = 2
  ·subst q1
   have := (hf.slot 2).ext hext
   rw [k1] at this
   have e2 : a'.tmps.getD 2 undef = a.tmps.getD 2 undef := e2
   rw [e2];exact this
  by_cases q2 : i = 3
  ·subst q2
   have := (hf.slot 3).ext hext
   rw [k2] at this
   have e3 : a'.tmps.getD 3 undef = a.tmps.getD 3 undef := e3
   rw [e3];exact this
  by_cases q3 : i = 5
  ·subst q3
   have := (hf.slot 5).ext hext
   rw [k3] at this
   have e5 : a'.tmps.getD 5 undef = a.tmps.getD 5 undef := e5
   rw [e5];exact this
  by_cases q7 : i = 6
  ·subst q7
   exact hrep
  ·have : get ([(2,OP 0 0),(3,OP 1 0),(5,V (.slice none 0 0)),(6,OW 2 l.length)] : Tm) i = .nil := by
    simp only [_root_.Go.Proofs.YtoeajbhlkccekaaDoor.get]
    rw [if_neg (Ne.symm q1),if_neg (Ne.symm q2),if_neg (Ne.symm q3),if_neg (Ne.symm q7)]
   rw [this];exact rep_any _ _ _
 refine wp_mono (key w' S' μ' a' hr2 hf2 (hg.ext hst2.still)) fun e a2 w2 qq=>?_
 have qq := Lift.trans (hst2.less (Nat.zero_le _)) qq
 obtain ⟨s2,S2,μ2,hq2,rest⟩ := qq
 refine ⟨s2,S2,μ2,?_,rest⟩
 have hX : ∀ {H3 : List AObj},(some (ro s2.H (gt s2.T 4),s2.H) : RO) = some (SL ((rundoL p.t q.t).map (flA Edt.cells)),H3) → ltT 0 (SL ((rundoL p.t q.t).map eA)) = true ∧ resC Tryd.prog s2.H s2.T [.tmp 4] fun ds=>fzV s2.H (ro s2.H (oneOf ds)) = SL ((rundoL p.t q.t).map eA) := by
  intro H3 h
  injection h with h
  injection h with h _
  refine ⟨rfl,?_⟩
  show fzV s2.H (ro s2.H (get s2.T 4)) = _
  rw [gt_eq] at h
  rw [h];rfl
 cases e with
 |normal=>exact hX hq2
 |ret=>exact hX hq2
 |exit id=>cases hq2
 |goto l=>cases hq2
 |panic ch=>obtain ⟨u,e9,k9⟩ := chE_some (K := fun u=>some (PN u,s2.H)) hq2;simp at k9
 |outgrown=>cases hq2
theorem sortA_eq {t u : Tr} (h : t.Eq16 u) : sortA t = sortA u := by
 have : allTo t 16 = allTo u 16 := fm_congr fun i hi=>(h i (List.mem_range.1 hi)).1
 unfold sortA
 rw [this]
theorem rundoL_eq {p q p' q' : Tr} (h : p.Eq16 p') (k : q.Eq16 q') : rundoL p q = rundoL p' q' := by
 unfold rundoL
 rw [sortA_eq h,sortA_eq k]
 refine fm_congr fun x _=>?_
 unfold edT
 rw [getT_eq h,getT_eq k]
noncomputable def plenumref13_UndoQ_t (m : Nat) : List AV → RO := orac (ι := St × St) (fun p=>[stA p.1,stA p.2]) (fun p=>SL ((rundoL p.1.t p.2.t).map eA)) (fun p=>TInv p.1.t ∧ TInv p.2.t)
theorem plenumref13_UndoQ_ok (m : Nat) : ∀ args X H',plenumref13_UndoQ_t m args = some (X,H') → ACp Tryd.prog GG 32 args X := orac_ok (by
 rintro ⟨s,u⟩ ⟨h1,h2⟩
 exact rundo_acp 40000001 (by omega) s u h1 h2)
theorem plenumref13_UndoQ_e (m : Nat) (s u : St) (h : TInv s.t) (k : TInv u.t) : plenumref13_UndoQ_t m [stA s,stA u] = some (SL ((rundoL s.t u.t).map eA),[]) := orac_eq (ι := St × St) (by
 rintro ⟨s,u⟩ ⟨s',u'⟩ e
 dsimp only at e ⊢
 simp only [List.cons.injEq,and_true] at e
 rw [rundoL_eq (stA_inj e.1).1 (stA_inj e.2).1]) (i := (s,u)) ⟨h,k⟩
end Go.Proofs.YtoeajbhlkccekaaDoor

namespace Go.Proofs.YtoeajbhlkccekaaDoor
open Go.RowKit
noncomputable def plenumlaw13_StoreUndoesQ_c : Code := (Tryd.f7.body).getD .skip
def plenumlaw13_StoreUndoesQ_h : Hint := (.two .n (.two .n (.two .n (.join [2,3,5,6] (.join [2,3,5,6,26] .n (.two (.two .n .n) .n)) (.two .n (.join [5,7] (.join [5,7,63] .n (.two (.two .n .n) .n)) (.join [] (.two .n (.one (.lp [] [5,7,8] [4] (.two (.two .n (.two .n .n)) (.two (.one (.two .n (.two (.two .n .n) .n))) .n))))) (.two .n .n))))))))
noncomputable def plenumlaw13_StoreUndoesQ_env (m : Nat) : Env := [(8, .tell (plenumlaw13_Few_t m)),(18, .tell (store_Undo_t m)),(20, .tell (plenumref13_May_t m)),(29, .tell (store_Same_t m)),(13, .tell (plenumlaw13_awake_t m)),(32, .tell (plenumref13_UndoQ_t m)),(12, .tell (plenumref13_Same_t m))]
noncomputable abbrev plenumlaw13_StoreUndoesQ_fin : KO (AV × List AObj) := tellFK Tryd.prog [.tmp 4]
noncomputable def plenumlaw13_StoreUndoesQ_r5 (m : Nat) (s : ASt) : RO := joinW Tryd.prog GG (plenumlaw13_StoreUndoesQ_env m) m ⟨80,[]⟩ (cdR (cdR (cdR (cdR (cdR (cdR (cdR plenumlaw13_StoreUndoesQ_c))))))) plenumlaw13_StoreUndoesQ_h.r.r.r.r.r.r.r s (plenumlaw13_StoreUndoesQ_fin)
noncomputable def plenumlaw13_StoreUndoesQ_b1 (m : Nat) (s : ASt) (kc : ASt → RO) (kx : KO (AV × List AObj)) : RO := bodyW Tryd.prog GG (plenumlaw13_StoreUndoesQ_env m) m ⟨80,[]⟩ (cdL (cdL (cdR (cdL (cdR (cdR (cdR (cdR (cdR (cdR plenumlaw13_StoreUndoesQ_c)))))))))) plenumlaw13_StoreUndoesQ_h.r.r.r.r.r.r.l.r.c.c [5,7,8] [4] s kc kx
noncomputable def plenumlaw13_StoreUndoesQ_r4 (m : Nat) (s : ASt) : RO := joinW Tryd.prog GG (plenumlaw13_StoreUndoesQ_env m) m ⟨80,[]⟩ (cdR (cdR (cdR (cdR (cdR (cdR plenumlaw13_StoreUndoesQ_c)))))) plenumlaw13_StoreUndoesQ_h.r.r.r.r.r.r s (plenumlaw13_StoreUndoesQ_fin)
noncomputable def plenumlaw13_StoreUndoesQ_r3 (m : Nat) (s : ASt) : RO := joinW Tryd.prog GG (plenumlaw13_StoreUndoesQ_env m) m ⟨80,[]⟩ (cdR (cdL (cdR (cdR (cdR (cdR (cdR plenumlaw13_StoreUndoesQ_c))))))) plenumlaw13_StoreUndoesQ_h.r.r.r.r.r.l.r s (seqX (fun s=>plenumlaw13_StoreUndoesQ_r4 m ⟨s.H,[(5,gt s.T 5),(7,gt s.T 7)]⟩) (plenumlaw13_StoreUndoesQ_fin))
noncomputable def plenumlaw13_StoreUndoesQ_r2 (m : Nat) (s : ASt) : RO := joinW Tryd.prog GG (plenumlaw13_StoreUndoesQ_env m) m ⟨80,[]⟩ (cdR (cdR (cdR (cdR plenumlaw13_StoreUndoesQ_c)))) plenumlaw13_StoreUndoesQ_h.r.r.r.r s (plenumlaw13_StoreUndoesQ_fin)
noncomputable def plenumlaw13_StoreUndoesQ_r1 (m : Nat) (s : ASt) : RO := joinW Tryd.prog GG (plenumlaw13_StoreUndoesQ_env m) m ⟨80,[]⟩ (cdR (cdL (cdR (cdR (cdR plenumlaw13_StoreUndoesQ_c))))) plenumlaw13_StoreUndoesQ_h.r.r.r.l.r s (seqX (fun s=>plenumlaw13_StoreUndoesQ_r2 m ⟨s.H,[(2,gt s.T 2),(3,gt s.T 3),(5,gt s.T 5),(6,gt s.T 6)]⟩) (plenumlaw13_StoreUndoesQ_fin))
noncomputable def plenumlaw13_StoreUndoesQ (m : Nat) (t0 t1 : AV) : RO := exec Tryd.prog GG (plenumlaw13_StoreUndoesQ_env m) m ⟨80,[]⟩ plenumlaw13_StoreUndoesQ_c plenumlaw13_StoreUndoesQ_h ⟨[],argsT 0 [t0,t1]⟩ (plenumlaw13_StoreUndoesQ_fin)
theorem plenumlaw13_StoreUndoesQ_r5_eq (m : Nat) (H : List AObj) : plenumlaw13_StoreUndoesQ_r5 m ⟨H,[]⟩ =
 tellE (plenumlaw13_awake m) [] fun t79 =>
 tellK H (ro H t79) := by
 refine (joinW_eq _ _ _ _ _ _ _ _ _).trans ?_
 kernel_rfl
theorem plenumlaw13_StoreUndoesQ_b1_eq (m : Nat) (H : List AObj) (t5 t7 t8 : AV) (kc : ASt → RO) (kx : KO (AV × List AObj)) : plenumlaw13_StoreUndoesQ_b1 m ⟨H,[(5,t5),(7,t7),(8,t8)]⟩ kc kx =
 lenE false true H t5 fun t66 =>
 binE none false false .lss t8 t66 fun t67 =>
 condE t67 (
  idxSE 6 H t5 t8 fun t72 =>
  loadE 6 H t72 fun t73 =>
  idxSE 6 H t7 t8 fun t76 =>
  loadE 6 H t76 fun t77 =>
  binE (some [.s, .i .i64, .i .i64, .s]) false false .neq t73 t77 fun t78 =>
  condE t78 (
   kx .ret ⟨H,[(4,(V (.bool false)))]⟩) (
   binE none false false .add t8 (V (.int .i64 1)) fun t69 =>
   backE H.length H [(5,t5),(7,t7),(8,t69)] kc)) (
  kx (.exit 0) ⟨H,[(4, .nil)]⟩) := by
 refine (bodyW_eq _ _ _ _ _ _ _ _ _ _ _ _).trans ?_
 kernel_rfl
theorem plenumlaw13_StoreUndoesQ_r4_eq (m : Nat) (H : List AObj) (t5 t7 : AV) : plenumlaw13_StoreUndoesQ_r4 m ⟨H,[(5,t5),(7,t7)]⟩ =
 iterC m (plenumlaw13_StoreUndoesQ_b1 m) ⟨H,[(5,t5),(7,t7),(8,(V (.int .i64 0)))]⟩ (blockX 0 (seqX (fun s=>plenumlaw13_StoreUndoesQ_r5 m ⟨s.H,[]⟩) (plenumlaw13_StoreUndoesQ_fin))) := by
 refine (joinW_eq _ _ _ _ _ _ _ _ _).trans ?_
 kernel_rfl
theorem plenumlaw13_StoreUndoesQ_r3_eq (m : Nat) (H : List AObj) (t5 t7 t63 : AV) : plenumlaw13_StoreUndoesQ_r3 m ⟨H,[(5,t5),(7,t7),(63,t63)]⟩ =
 condE t63 (
  tellK H (ro H (V (.bool false)))) (
  plenumlaw13_StoreUndoesQ_r4 m ⟨H,[(5,t5),(7,t7)]⟩) := by
 refine (joinW_eq _ _ _ _ _ _ _ _ _).trans ?_
 kernel_rfl
theorem plenumlaw13_StoreUndoesQ_r2_eq (m : Nat) (H : List AObj) (t2 t3 t5 t6 : AV) : plenumlaw13_StoreUndoesQ_r2 m ⟨H,[(2,t2),(3,t3),(5,t5),(6,t6)]⟩ =
 loadE 37 H t2 fun t43 =>
 loadE 37 H t3 fun t44 =>
 tellE (plenumref13_UndoQ_t m [(ro H t43),(ro H t44)]) [(ro H t43),(ro H t44)] fun t45 =>
 lenE false true H t5 fun t47 =>
 lenE false true H t45 fun t49 =>
 binE none false false .neq t47 t49 fun t50 =>
 condE t50 (
  plenumlaw13_StoreUndoesQ_r3 m ⟨H,[(5,t5),(7,t45),(63,(V (.bool true)))]⟩) (
  binE none false false .neq t6 (V (.int .i64 0)) fun t53 =>
  condE t53 (
  plenumlaw13_StoreUndoesQ_r3 m ⟨H,[(5,t5),(7,t45),(63,(V (.bool true)))]⟩) (
  loadE 37 H t2 fun t56 =>
  loadE 37 H t3 fun t57 =>
  tellE (store_Same m (ro H t56) (ro H t57)) [(ro H t56),(ro H t57)] fun t58 =>
  loadE 37 H t2 fun t59 =>
  loadE 37 H t3 fun t60 =>
  tellE (plenumref13_Same m (ro H t59) (ro H t60)) [(ro H t59),(ro H t60)] fun t61 =>
  binE none true false .neq t58 t61 fun t62 =>
  plenumlaw13_StoreUndoesQ_r3 m ⟨H,[(5,t5),(7,t45),(63,t62)]⟩)) := by
 refine (joinW_eq _ _ _ _ _ _ _ _ _).trans ?_
 kernel_rfl
theorem plenumlaw13_StoreUndoesQ_r1_eq (m : Nat) (H : List AObj) (t2 t3 t5 t6 t26 : AV) : plenumlaw13_StoreUndoesQ_r1 m ⟨H,[(2,t2),(3,t3),(5,t5),(6,t6),(26,t26)]⟩ =
 condE t26 (
  lenE false true H t5 fun t28 =>
  binE none false false .eql t28 (V (.int .i64 0)) fun t29 =>
  condE t29 (
   binE none false false .eql t6 (V (.int .i64 1)) fun t32 =>
   condE t32 (
   loadE 37 H t2 fun t35 =>
   loadE 37 H t3 fun t36 =>
   tellE (store_Same m (ro H t35) (ro H t36)) [(ro H t35),(ro H t36)] fun t37 =>
   unE .not t37 fun t38 =>
   condE t38 (
   tellE (plenumlaw13_awake m) [] fun t41 =>
   tellK H (ro H t41)) (
   tellK H (ro H (V (.bool false))))) (
   tellK H (ro H (V (.bool false))))) (
   tellK H (ro H (V (.bool false))))) (
  plenumlaw13_StoreUndoesQ_r2 m ⟨H,[(2,t2),(3,t3),(5,t5),(6,t6)]⟩) := by
 refine (joinW_eq _ _ _ _ _ _ _ _ _).trans ?_
 kernel_rfl
theorem plenumlaw13_StoreUndoesQ_eq (m : Nat) (t0 t1 : AV) : plenumlaw13_StoreUndoesQ m t0 t1 =
 boxE ty_api_Store [] t0 fun t2 H1 =>
 boxE ty_api_Store H1 t1 fun t3 H2 =>
 loadE 37 H2 t2 fun t9 =>
 tellE (plenumlaw13_Few m (ro H2 t9)) [(ro H2 t9)] fun t10 =>
 loadE 37 H2 t3 fun t11 =>
 tellE (plenumlaw13_Few m (ro H2 t11)) [(ro H2 t11)] fun t12 =>
 storeE 37 H2 t2 t10 fun H3 =>
 storeE 37 H3 t3 t12 fun H4 =>
 loadE 37 H4 t2 fun t14 =>
 loadE 37 H4 t3 fun t15 =>
 tellE (store_Undo m (ro H4 t14) (ro H4 t15)) [(ro H4 t14),(ro H4 t15)] fun t16 =>
 extE t16 0 fun t17 =>
 extE t16 1 fun t18 =>
 loadE 37 H4 t2 fun t19 =>
 tellE (plenumref13_May m (ro H4 t19)) [(ro H4 t19)] fun t20 =>
 unE .not t20 fun t21 =>
 condE t21 (
  plenumlaw13_StoreUndoesQ_r1 m ⟨H4,[(2,t2),(3,t3),(5,t17),(6,t18),(26,(V (.bool true)))]⟩) (
  loadE 37 H4 t3 fun t23 =>
  tellE (plenumref13_May m (ro H4 t23)) [(ro H4 t23)] fun t24 =>
  unE .not t24 fun t25 =>
  plenumlaw13_StoreUndoesQ_r1 m ⟨H4,[(2,t2),(3,t3),(5,t17),(6,t18),(26,t25)]⟩) := by
 refine (tellX _ _ _ _ _ _ _ _ _).trans ?_
 kernel_rfl
noncomputable def plenumlaw13_StoreUndoesQ_t (m : Nat) : List AV → RO|[t0,t1]=>plenumlaw13_StoreUndoesQ m t0 t1|_=>none
theorem plenumlaw13_StoreUndoesQ_ok (m : Nat) : ∀ args X H',plenumlaw13_StoreUndoesQ_t m args = some (X,H') → ACp Tryd.prog GG 7 args X := by
 intro args X H' h
 unfold plenumlaw13_StoreUndoesQ_t at h
 split at h
 ·exact tell_okK MIX (by
  intro f e h
  simp only [plenumlaw13_StoreUndoesQ_env,Prod.mk.injEq,List.mem_cons,List.not_mem_nil,or_false] at h
  rcases h with ⟨rfl,rfl⟩|⟨rfl,rfl⟩|⟨rfl,rfl⟩|⟨rfl,rfl⟩|⟨rfl,rfl⟩|⟨rfl,rfl⟩|⟨rfl,rfl⟩
  ·exact plenumlaw13_Few_ok m
  ·exact store_Undo_ok m
  ·exact plenumref13_May_ok m
  ·exact store_Same_ok m
  ·exact plenumlaw13_awake_ok m
  ·exact plenumref13_UndoQ_ok m
  ·exact plenumref13_Same_ok m) (f := 7) (c := plenumlaw13_StoreUndoesQ_c) Tryd.func7 rfl (by kernel_rfl) _ rfl Tryd.ntmps7 (Nat.le_of_ble_eq_true rfl) plenumlaw13_StoreUndoesQ_h h
 ·cases h
end Go.Proofs.YtoeajbhlkccekaaDoor

namespace Go.Proofs.YtoeajbhlkccekaaDoor
open Go.RowKit
theorem rundo_len {p q : Tr} (hp : TInv p) (hq : TInv q) : (rundoL p q).length ≤ 2048 := by
 have h1 := (sortA_facts hp).1
 have h2 := (sortA_facts hq).1
 have h3 : (foldW (sortA p ++ sortA q)).length ≤ 2048 := by
  have := congrArg List.length (keys_merge (sortA_srt hp.may) (sortA_srt hq.may))
  rw [List.length_map] at this
  have hm : ∀ (n : Nat) (a b : List Item),(mergeK n a b).length ≤ n := by
   intro n
   induction n with
   |zero=>intro a b;simp [mergeK]
   |succ n ih =>
    intro a b
    match a,b with
    |[],[]=>simp [mergeK]
    |x :: a,[]=>have := ih a [];simp [mergeK];omega
    |[],y :: b=>have := ih [] b;simp [mergeK];omega
    |x :: a,y :: b =>
     unfold mergeK
     split
     ·have := ih a (y :: b);simp;omega
     ·split
      ·have := ih (x :: a) b;simp;omega
      ·have := ih a b;simp;omega
  have := hm ((sortA p).length + (sortA q).length) (sortA p) (sortA q)
  omega
 have h4 : ∀ l : List Item,(l.flatMap (edT p q)).length ≤ l.length := by
  intro l
  induction l with
  |nil=>exact Nat.le_refl _
  |cons x r ih =>
   rw [List.flatMap_cons,List.length_append,List.length_cons]
   have : (edT p q x).length ≤ 1 := by unfold edT edV;split <;> simp
   omega
 have := h4 (foldW (sortA p ++ sortA q))
 unfold rundoL
 omega
end Go.Proofs.YtoeajbhlkccekaaDoor

namespace Go.Proofs.YtoeajbhlkccekaaDoor
open Go.RowKit
attribute [local go_sem] tC_len tC_sure tC_ltA tC_lt1 tC_ro tC_take tC_all1 zcT_eq zcI_len zC_len zC_ltA zC_lt1 zC_sure zC_ro zC_take set_tl set_tv sc_tt sc_zt sc_tz sc_zz add16 tA_def lA_def natInt u_tl u_tv st_take35 st_take stC_len st_sure st_ltA st_lt1 st_ro zcS_eq zS_len zS_sure zS_take zS_ltA zS_ro zS_all1 ss_zs ss_zz u_bS0
theorem u_neE2 {R : Type} {K1 : AV → Option R} {k : ByteArray} {a b : Int} {s : ByteArray} {isB sl : Bool} : binE (some [.s, .i .i64, .i .i64, .s]) isB sl .neq (.agg [V (.string k),V (.int .i64 a),V (.int .i64 b),V (.string s)]) (.agg [V (.string k),V (.int .i64 a),V (.int .i64 b),V (.string s)]) K1 = K1 (bA false) := by
 show K1 (bA (!(decide (k.data.toList = k.data.toList) && (decide (a = a) && (decide (b = b) && (decide (s.data.toList = s.data.toList) && true)))))) = _
 simp
theorem undoes_r4 (m : Nat) (u v : St) (l : List Edt) (hm : 40000000 < m) (hl : l.length ≤ 4096) : plenumlaw13_StoreUndoesQ_r4 m ⟨[⟨1,ty_api_Store,0,stC u⟩,⟨1,ty_api_Store,0,stC v⟩],[(5,SL (l.map eA)),(7,SL (l.map eA))]⟩ = some (bA true,[]) := by
 rw [plenumlaw13_StoreUndoesQ_r4_eq]
 have hA := awake13_s m hm
 refine iter_go (ι := {k : Nat // k ≤ l.length}) (fun k=>⟨[⟨1,ty_api_Store,0,stC u⟩,⟨1,ty_api_Store,0,stC v⟩],[(5,SL (l.map eA)),(7,SL (l.map eA)),(8,nA k.1)]⟩) (fun k=>l.length - k.1) (fun _=>some (bA true,[])) ?_ (⟨0,Nat.zero_le _⟩ : {k : Nat // k ≤ l.length}) (by show l.length - 0 < m;omega)
 rintro kx hkx ⟨k,hk⟩ kc hkc
 dsimp only at hk hkc ⊢
 rw [plenumlaw13_StoreUndoesQ_b1_eq]
 by_cases hlt : k < l.length
 ·have hlt' : (k : Int) < (l.length : Int) := by omega
  have step := hkc ⟨k + 1,by omega⟩ (by dsimp only;omega)
  dsimp only at step
  simp (config := {maxSteps := 4000000,implicitDefEqProofs := false}) (disch := omega) only [go_sem,hlt',u_nthM,ed_it,ed_lenE,zcE0,u_neE2,w_i64,ed_all,ed_allA]
  exact step
 ·have hlt' : ¬ (k : Int) < (l.length : Int) := by omega
  simp (config := {maxSteps := 4000000,implicitDefEqProofs := false}) (disch := omega) only [go_sem,hlt',hkx,plenumlaw13_StoreUndoesQ_r5_eq,hA]
theorem undoes_s (m : Nat) (a b : St) (hm : 40000000 < m) (ha : a.t.In) (hb : b.t.In) : plenumlaw13_StoreUndoesQ m (stA a) (stA b) = some (bA true,[]) := by
 rw [plenumlaw13_StoreUndoesQ_eq]
 have hF1 := few13b_s m a ha
 have hF2 := few13b_s m b hb
 have hu : (fewSt a).t.Ok := few_ok ha
 have hv : (fewSt b).t.Ok := few_ok hb
 have iu : mayT (fewSt a).t = true → TInv (fewSt a).t := fun q=>few_inv ha q
 have iv : mayT (fewSt b).t = true → TInv (fewSt b).t := fun q=>few_inv hb q
 generalize fewSt a = u at *
 generalize fewSt b = v at *
 have hA := awake13_s m hm
 have hU := undo_s m u v hm hu hv
 have hM1 := rmayS_s m u (by omega) hu
 have hM2 := rmayS_s m v (by omega) hv
 have hS := same_s m u v (by omega) hu hv
 rw [stA_def] at hF1 hF2 hU hM1 hM2 hS ⊢
 rw [stA_def] at hF1 hF2 hU hS ⊢
 cases e1 : mayS u with
 |false =>
  have s1 : sameM u v = false := by unfold sameM;rw [e1];rfl
  have s2 : undoR u v = [] := by unfold undoR;rw [e1];rfl
  rw [e1] at hM1
  rw [e1,s2] at hU
  rw [s1] at hS
  rw [if_neg (by simp)] at hU
  simp (config := {maxSteps := 4000000,implicitDefEqProofs := false}) (disch := omega) only [go_sem,hF1,hF2,ss_set,hU,hM1,hS,hA,plenumlaw13_StoreUndoesQ_r1_eq]
  try rfl
 |true =>
  rw [e1] at hM1
  cases e2 : mayS v with
  |false =>
   have s1 : sameM u v = false := by unfold sameM;rw [e1,e2];rfl
   have s2 : undoR u v = [] := by unfold undoR;rw [e1,e2];rfl
   rw [e2] at hM2
   rw [e1,e2,s2] at hU
   rw [s1] at hS
   rw [if_neg (by simp)] at hU
   simp (config := {maxSteps := 4000000,implicitDefEqProofs := false}) (disch := omega) only [go_sem,hF1,hF2,ss_set,hU,hM1,hM2,hS,hA,plenumlaw13_StoreUndoesQ_r1_eq]
   try rfl
  |true =>
   rw [e2] at hM2
   have i1 := iu (mayS_nums e1).2.2.2.2.2.2.1
   have i2 := iv (mayS_nums e2).2.2.2.2.2.2.1
   have hQ := plenumref13_UndoQ_e m u v i1 i2
   have hR := rsameS_s m u v (by omega) hu.len2 hv.len2
   rw [sameM_S e1 e2] at hS
   rw [undo_law e1 e2 i1 i2,e1,e2,if_pos (by rfl)] at hU
   have hr := undoes_r4 m u v (rundoL u.t v.t) hm (by have := rundo_len i1 i2;omega)
   rw [stA_def,stA_def] at hQ hR
   generalize rundoL u.t v.t = l at *
   generalize sameS u v = t at *
   have hne : (t != t) = false := by simp
   simp (config := {maxSteps := 4000000,implicitDefEqProofs := false}) (disch := omega) only [go_sem,hF1,hF2,ss_set,hU,hM1,hM2,hS,hQ,hR,plenumlaw13_StoreUndoesQ_r1_eq,plenumlaw13_StoreUndoesQ_r2_eq,plenumlaw13_StoreUndoesQ_r3_eq,hr,hne]
end Go.Proofs.YtoeajbhlkccekaaDoor

namespace Go.Proofs.YtoeajbhlkccekaaDoor
open Go.RowKit
theorem walk_StoreUndoes (W : World) (hS : Sig W) (v0 : Value) (h0 : Arg Tryd.prog W 28 v0) (v1 : Value) (h1 : Arg Tryd.prog W 28 v1) :
  Calls Tryd.prog 7 #[v0,v1] W fun e W'=>e = .returned (.bool true) ∧ Below W.heap.size W W' := by
 obtain ⟨s,hs,r0⟩ := arg_store h0
 obtain ⟨u,hu,r1⟩ := arg_store h1
 exact run_tells (plenumlaw13_StoreUndoesQ_ok 40000001 [_,_] _ _ (undoes_s _ s u (by omega) hs hu)) (gok_sig hS) (vs := [v0,v1]) rfl (reps2 r0 r1)
end Go.Proofs.YtoeajbhlkccekaaDoor

