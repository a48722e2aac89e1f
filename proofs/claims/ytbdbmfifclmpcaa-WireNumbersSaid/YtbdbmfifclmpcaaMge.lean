/-
  Texts laid together, part 5 of 7: laws of a walk over data, contracts of functions, each whole by itself.
-/
import Derived.Test.YtbdbmfifclmpcaaMgd
namespace Go.Proofs.Ytbdbmfifclmpcaa
open Go.RowKit
set_option linter.unusedVariables false
set_option linter.unusedSimpArgs false
set_option maxRecDepth 20000
theorem natInt (k : Nat) : ((k : Int)).toNat = k := Int.toNat_natCast k
theorem u_addS {R : Type} {X : AV} {Y H : List AObj} {K : AV → List AObj → Option R} : addE (some (X, Y)) H K = K X (H ++ Y) := _root_.id rfl
theorem u_bi1 {R : Type} {t : TypeId} {a : Int} {K1 : AV → Option R} : buildSE (some (t, 1)) 1 [(0, V (.int .i64 a))] K1 = K1 (SL [nA a]) := by
  first | rfl | (simp [buildSE, whenE]; rfl) | simp [buildSE, whenE]
theorem u_bi2 {R : Type} {t : TypeId} {a b : Int} {K1 : AV → Option R} : buildSE (some (t, 1)) 2 [(0, V (.int .i64 a)), (1, V (.int .i64 b))] K1 = K1 (SL [nA a, nA b]) := by
  first | rfl | (simp [buildSE, whenE]; rfl) | simp [buildSE, whenE]
theorem u_bi3 {R : Type} {t : TypeId} {a b c : Int} {K1 : AV → Option R} : buildSE (some (t, 1)) 3 [(0, V (.int .i64 a)), (1, V (.int .i64 b)), (2, V (.int .i64 c))] K1 = K1 (SL [nA a, nA b, nA c]) := by
  first | rfl | (simp [buildSE, whenE]; rfl) | simp [buildSE, whenE]
theorem u_bi4 {R : Type} {t : TypeId} {a b c d : Int} {K1 : AV → Option R} : buildSE (some (t, 1)) 4 [(0, V (.int .i64 a)), (1, V (.int .i64 b)), (2, V (.int .i64 c)), (3, V (.int .i64 d))] K1 = K1 (SL [nA a, nA b, nA c, nA d]) := by
  first | rfl | (simp [buildSE, whenE]; rfl) | simp [buildSE, whenE]
theorem u_bi5 {R : Type} {t : TypeId} {a b c d e : Int} {K1 : AV → Option R} : buildSE (some (t, 1)) 5 [(0, V (.int .i64 a)), (1, V (.int .i64 b)), (2, V (.int .i64 c)), (3, V (.int .i64 d)), (4, V (.int .i64 e))] K1 = K1 (SL [nA a, nA b, nA c, nA d, nA e]) := by
  first | rfl | (simp [buildSE, whenE]; rfl) | simp [buildSE, whenE]
theorem u_bi6 {R : Type} {t : TypeId} {a b c d e f : Int} {K1 : AV → Option R} : buildSE (some (t, 1)) 6 [(0, V (.int .i64 a)), (1, V (.int .i64 b)), (2, V (.int .i64 c)), (3, V (.int .i64 d)), (4, V (.int .i64 e)), (5, V (.int .i64 f))] K1 = K1 (SL [nA a, nA b, nA c, nA d, nA e, nA f]) := by
  first | rfl | (simp [buildSE, whenE]; rfl) | simp [buildSE, whenE]
theorem u_bi7 {R : Type} {t : TypeId} {a b c d e f g : Int} {K1 : AV → Option R} : buildSE (some (t, 1)) 7 [(0, V (.int .i64 a)), (1, V (.int .i64 b)), (2, V (.int .i64 c)), (3, V (.int .i64 d)), (4, V (.int .i64 e)), (5, V (.int .i64 f)), (6, V (.int .i64 g))] K1 = K1 (SL [nA a, nA b, nA c, nA d, nA e, nA f, nA g]) := by
  first | rfl | (simp [buildSE, whenE]; rfl) | simp [buildSE, whenE]
theorem u_bz {R : Type} {t : TypeId} {z : Nat} {K1 : AV → Option R} : buildSE (some (t, z)) 0 [] K1 = K1 ZV := by
  first | rfl | (simp [buildSE, whenE]; rfl) | simp [buildSE, whenE]
structure Sm where
  fr : Int
  kd : Int
  vw : Int
  sq : Int
  tm : Int
deriving DecidableEq
def Sm.zero : Sm := ⟨0, 0, 0, 0, 0⟩
def smC (x : Sm) : List AV := [nA x.fr, nA x.kd, nA x.vw, nA x.sq, nA x.tm]
def smE (x : Sm) : AV := .agg (smC x)
structure Ce where
  sq : Int
  vw : Int
  tm : Int
  body : List UInt8
  vs : List Sm
deriving DecidableEq
def Ce.zero : Ce := ⟨0, 0, 0, [], []⟩
def ceC (x : Ce) : List AV := [nA x.sq, nA x.vw, nA x.tm, sA x.body, SL (x.vs.map smE)]
def ceE (x : Ce) : AV := .agg (ceC x)
structure Ch where
  fr : Int
  vw : Int
  st : Int
  rt : Int
  pf : List Sm
  cs : List Ce
deriving DecidableEq
def Ch.zero : Ch := ⟨0, 0, 0, 0, [], []⟩
def cgC (x : Ch) : List AV := [nA x.fr, nA x.vw, nA x.st, nA x.rt, SL (x.pf.map smE), SL (x.cs.map ceE)]
def cgE (x : Ch) : AV := .agg (cgC x)
structure Ms where
  kd : Int
  fr : Int
  vw : Int
  sq : Int
  tm : Int
  body : List UInt8
  vs : List Sm
  chs : List Ch
deriving DecidableEq
def Ms.zero : Ms := ⟨0, 0, 0, 0, 0, [], [], []⟩
def msC (x : Ms) : List AV := [nA x.kd, nA x.fr, nA x.vw, nA x.sq, nA x.tm, sA x.body, SL (x.vs.map smE), SL (x.chs.map cgE)]
def msE (x : Ms) : AV := .agg (msC x)
section
variable {R : Type} {n : Nat} {H : List AObj} {K1 : AV → Option R}
theorem sm_it (x : Sm) : smE x = .agg (smC x) := _root_.id rfl
theorem sm_len {x : Sm} : (smC x).length = 5 := _root_.id rfl
theorem sm_sure {x : Sm} : (smC x).all sure = true := _root_.id rfl
theorem sm_ltA {x : Sm} : (smC x).all (ltA n) = true := _root_.id rfl
theorem sm_lt1 {x : Sm} : (smC x).all (lt1 n) = true := _root_.id rfl
theorem sm_all1 {x : Sm} : ((smC x).all fun y => lt1 n (ro1 H y)) = true := _root_.id rfl
theorem sm_ro {x : Sm} : (smC x).map (ro1 H) = smC x := _root_.id rfl
theorem sm_take {x : Sm} : (smC x).take 5 = smC x := _root_.id rfl
theorem sm_sl {x : Sm} : ((smC x).all fun y => sure y && lt1 n y) = true := _root_.id rfl
theorem sm_set {x y : Sm} : setCells (smC y) 0 (smC x) = smC x := _root_.id rfl
theorem sm_noT {x : Sm} : noT (.agg (smC x)) = .agg (smC x) := _root_.id rfl
theorem sm_fr {x : Sm} : nthE (smC x) 0 K1 = K1 (nA x.fr) := _root_.id rfl
theorem sm_st_fr {x : Sm} {q : Int} : (smC x).set 0 (nA q) = smC { x with fr := q } := _root_.id rfl
theorem sm_set_fr {x : Sm} {q : Int} : setCells (smC x) 0 [nA q] = smC { x with fr := q } := _root_.id rfl
theorem sm_kd {x : Sm} : nthE (smC x) 1 K1 = K1 (nA x.kd) := _root_.id rfl
theorem sm_st_kd {x : Sm} {q : Int} : (smC x).set 1 (nA q) = smC { x with kd := q } := _root_.id rfl
theorem sm_set_kd {x : Sm} {q : Int} : setCells (smC x) 1 [nA q] = smC { x with kd := q } := _root_.id rfl
theorem sm_vw {x : Sm} : nthE (smC x) 2 K1 = K1 (nA x.vw) := _root_.id rfl
theorem sm_st_vw {x : Sm} {q : Int} : (smC x).set 2 (nA q) = smC { x with vw := q } := _root_.id rfl
theorem sm_set_vw {x : Sm} {q : Int} : setCells (smC x) 2 [nA q] = smC { x with vw := q } := _root_.id rfl
theorem sm_sq {x : Sm} : nthE (smC x) 3 K1 = K1 (nA x.sq) := _root_.id rfl
theorem sm_st_sq {x : Sm} {q : Int} : (smC x).set 3 (nA q) = smC { x with sq := q } := _root_.id rfl
theorem sm_set_sq {x : Sm} {q : Int} : setCells (smC x) 3 [nA q] = smC { x with sq := q } := _root_.id rfl
theorem sm_tm {x : Sm} : nthE (smC x) 4 K1 = K1 (nA x.tm) := _root_.id rfl
theorem sm_st_tm {x : Sm} {q : Int} : (smC x).set 4 (nA q) = smC { x with tm := q } := _root_.id rfl
theorem sm_set_tm {x : Sm} {q : Int} : setCells (smC x) 4 [nA q] = smC { x with tm := q } := _root_.id rfl
theorem zsm_len : zc_api_Stmt.length = 5 := _root_.id rfl
theorem zsm_sure : zc_api_Stmt.all sure = true := _root_.id rfl
theorem zsm_lt1 : zc_api_Stmt.all (lt1 n) = true := _root_.id rfl
theorem zsm_sl : (zc_api_Stmt.all fun y => sure y && lt1 n y) = true := _root_.id rfl
theorem zsm_ro : zc_api_Stmt.map (ro1 H) = smC Sm.zero := _root_.id rfl
theorem zsm_setz : setCells zc_api_Stmt 0 zc_api_Stmt = zc_api_Stmt := _root_.id rfl
theorem zsm_set {x : Sm} : setCells zc_api_Stmt 0 (smC x) = smC x := _root_.id rfl
theorem zsm_setr {x : Sm} : setCells (smC x) 0 zc_api_Stmt = zc_api_Stmt := _root_.id rfl
theorem zsm_take : zc_api_Stmt.take 5 = zc_api_Stmt := _root_.id rfl
theorem sms_ltA {l : List Sm} : (l.all fun x => ltA n (smE x)) = true := List.all_eq_true.2 fun _ _ => rfl
theorem sms_len {l : List Sm} : (l.all fun x => decide ((cellsOf (smE x)).length = 5)) = true := List.all_eq_true.2 fun _ _ => rfl
theorem ce_it (x : Ce) : ceE x = .agg (ceC x) := _root_.id rfl
theorem ce_len {x : Ce} : (ceC x).length = 5 := _root_.id rfl
theorem ce_sure {x : Ce} : (ceC x).all sure = true := _root_.id rfl
theorem ce_ltA {x : Ce} : (ceC x).all (ltA n) = true := _root_.id rfl
theorem ce_lt1 {x : Ce} : (ceC x).all (lt1 n) = true := _root_.id rfl
theorem ce_all1 {x : Ce} : ((ceC x).all fun y => lt1 n (ro1 H y)) = true := _root_.id rfl
theorem ce_ro {x : Ce} : (ceC x).map (ro1 H) = ceC x := _root_.id rfl
theorem ce_take {x : Ce} : (ceC x).take 5 = ceC x := _root_.id rfl
theorem ce_sl {x : Ce} : ((ceC x).all fun y => sure y && lt1 n y) = true := _root_.id rfl
theorem ce_set {x y : Ce} : setCells (ceC y) 0 (ceC x) = ceC x := _root_.id rfl
theorem ce_noT {x : Ce} : noT (.agg (ceC x)) = .agg (ceC x) := _root_.id rfl
theorem ce_sq {x : Ce} : nthE (ceC x) 0 K1 = K1 (nA x.sq) := _root_.id rfl
theorem ce_st_sq {x : Ce} {q : Int} : (ceC x).set 0 (nA q) = ceC { x with sq := q } := _root_.id rfl
theorem ce_set_sq {x : Ce} {q : Int} : setCells (ceC x) 0 [nA q] = ceC { x with sq := q } := _root_.id rfl
theorem ce_vw {x : Ce} : nthE (ceC x) 1 K1 = K1 (nA x.vw) := _root_.id rfl
theorem ce_st_vw {x : Ce} {q : Int} : (ceC x).set 1 (nA q) = ceC { x with vw := q } := _root_.id rfl
theorem ce_set_vw {x : Ce} {q : Int} : setCells (ceC x) 1 [nA q] = ceC { x with vw := q } := _root_.id rfl
theorem ce_tm {x : Ce} : nthE (ceC x) 2 K1 = K1 (nA x.tm) := _root_.id rfl
theorem ce_st_tm {x : Ce} {q : Int} : (ceC x).set 2 (nA q) = ceC { x with tm := q } := _root_.id rfl
theorem ce_set_tm {x : Ce} {q : Int} : setCells (ceC x) 2 [nA q] = ceC { x with tm := q } := _root_.id rfl
theorem ce_body {x : Ce} : nthE (ceC x) 3 K1 = K1 (sA x.body) := _root_.id rfl
theorem ce_st_body {x : Ce} {q : List UInt8} : (ceC x).set 3 (sA q) = ceC { x with body := q } := _root_.id rfl
theorem ce_set_body {x : Ce} {q : List UInt8} : setCells (ceC x) 3 [sA q] = ceC { x with body := q } := _root_.id rfl
theorem ce_vs {x : Ce} : nthE (ceC x) 4 K1 = K1 (SL (x.vs.map smE)) := _root_.id rfl
theorem ce_st_vs {x : Ce} {q : List Sm} : (ceC x).set 4 (SL (q.map smE)) = ceC { x with vs := q } := _root_.id rfl
theorem ce_set_vs {x : Ce} {q : List Sm} : setCells (ceC x) 4 [SL (q.map smE)] = ceC { x with vs := q } := _root_.id rfl
theorem zce_len : zc_api_Cert.length = 5 := _root_.id rfl
theorem zce_sure : zc_api_Cert.all sure = true := _root_.id rfl
theorem zce_lt1 : zc_api_Cert.all (lt1 n) = true := _root_.id rfl
theorem zce_sl : (zc_api_Cert.all fun y => sure y && lt1 n y) = true := _root_.id rfl
theorem zce_ro : zc_api_Cert.map (ro1 H) = ceC Ce.zero := _root_.id rfl
theorem zce_setz : setCells zc_api_Cert 0 zc_api_Cert = zc_api_Cert := _root_.id rfl
theorem zce_set {x : Ce} : setCells zc_api_Cert 0 (ceC x) = ceC x := _root_.id rfl
theorem zce_setr {x : Ce} : setCells (ceC x) 0 zc_api_Cert = zc_api_Cert := _root_.id rfl
theorem zce_take : zc_api_Cert.take 5 = zc_api_Cert := _root_.id rfl
theorem ces_ltA {l : List Ce} : (l.all fun x => ltA n (ceE x)) = true := List.all_eq_true.2 fun _ _ => rfl
theorem ces_len {l : List Ce} : (l.all fun x => decide ((cellsOf (ceE x)).length = 5)) = true := List.all_eq_true.2 fun _ _ => rfl
theorem cg_it (x : Ch) : cgE x = .agg (cgC x) := _root_.id rfl
theorem cg_len {x : Ch} : (cgC x).length = 6 := _root_.id rfl
theorem cg_sure {x : Ch} : (cgC x).all sure = true := _root_.id rfl
theorem cg_ltA {x : Ch} : (cgC x).all (ltA n) = true := _root_.id rfl
theorem cg_lt1 {x : Ch} : (cgC x).all (lt1 n) = true := _root_.id rfl
theorem cg_all1 {x : Ch} : ((cgC x).all fun y => lt1 n (ro1 H y)) = true := _root_.id rfl
theorem cg_ro {x : Ch} : (cgC x).map (ro1 H) = cgC x := _root_.id rfl
theorem cg_take {x : Ch} : (cgC x).take 6 = cgC x := _root_.id rfl
theorem cg_sl {x : Ch} : ((cgC x).all fun y => sure y && lt1 n y) = true := _root_.id rfl
theorem cg_set {x y : Ch} : setCells (cgC y) 0 (cgC x) = cgC x := _root_.id rfl
theorem cg_noT {x : Ch} : noT (.agg (cgC x)) = .agg (cgC x) := _root_.id rfl
theorem cg_fr {x : Ch} : nthE (cgC x) 0 K1 = K1 (nA x.fr) := _root_.id rfl
theorem cg_st_fr {x : Ch} {q : Int} : (cgC x).set 0 (nA q) = cgC { x with fr := q } := _root_.id rfl
theorem cg_set_fr {x : Ch} {q : Int} : setCells (cgC x) 0 [nA q] = cgC { x with fr := q } := _root_.id rfl
theorem cg_vw {x : Ch} : nthE (cgC x) 1 K1 = K1 (nA x.vw) := _root_.id rfl
theorem cg_st_vw {x : Ch} {q : Int} : (cgC x).set 1 (nA q) = cgC { x with vw := q } := _root_.id rfl
theorem cg_set_vw {x : Ch} {q : Int} : setCells (cgC x) 1 [nA q] = cgC { x with vw := q } := _root_.id rfl
theorem cg_st {x : Ch} : nthE (cgC x) 2 K1 = K1 (nA x.st) := _root_.id rfl
theorem cg_st_st {x : Ch} {q : Int} : (cgC x).set 2 (nA q) = cgC { x with st := q } := _root_.id rfl
theorem cg_set_st {x : Ch} {q : Int} : setCells (cgC x) 2 [nA q] = cgC { x with st := q } := _root_.id rfl
theorem cg_rt {x : Ch} : nthE (cgC x) 3 K1 = K1 (nA x.rt) := _root_.id rfl
theorem cg_st_rt {x : Ch} {q : Int} : (cgC x).set 3 (nA q) = cgC { x with rt := q } := _root_.id rfl
theorem cg_set_rt {x : Ch} {q : Int} : setCells (cgC x) 3 [nA q] = cgC { x with rt := q } := _root_.id rfl
theorem cg_pf {x : Ch} : nthE (cgC x) 4 K1 = K1 (SL (x.pf.map smE)) := _root_.id rfl
theorem cg_st_pf {x : Ch} {q : List Sm} : (cgC x).set 4 (SL (q.map smE)) = cgC { x with pf := q } := _root_.id rfl
theorem cg_set_pf {x : Ch} {q : List Sm} : setCells (cgC x) 4 [SL (q.map smE)] = cgC { x with pf := q } := _root_.id rfl
theorem cg_cs {x : Ch} : nthE (cgC x) 5 K1 = K1 (SL (x.cs.map ceE)) := _root_.id rfl
theorem cg_st_cs {x : Ch} {q : List Ce} : (cgC x).set 5 (SL (q.map ceE)) = cgC { x with cs := q } := _root_.id rfl
theorem cg_set_cs {x : Ch} {q : List Ce} : setCells (cgC x) 5 [SL (q.map ceE)] = cgC { x with cs := q } := _root_.id rfl
theorem zcg_len : zc_api_Change.length = 6 := _root_.id rfl
theorem zcg_sure : zc_api_Change.all sure = true := _root_.id rfl
theorem zcg_lt1 : zc_api_Change.all (lt1 n) = true := _root_.id rfl
theorem zcg_sl : (zc_api_Change.all fun y => sure y && lt1 n y) = true := _root_.id rfl
theorem zcg_ro : zc_api_Change.map (ro1 H) = cgC Ch.zero := _root_.id rfl
theorem zcg_setz : setCells zc_api_Change 0 zc_api_Change = zc_api_Change := _root_.id rfl
theorem zcg_set {x : Ch} : setCells zc_api_Change 0 (cgC x) = cgC x := _root_.id rfl
theorem zcg_setr {x : Ch} : setCells (cgC x) 0 zc_api_Change = zc_api_Change := _root_.id rfl
theorem zcg_take : zc_api_Change.take 6 = zc_api_Change := _root_.id rfl
theorem cgs_ltA {l : List Ch} : (l.all fun x => ltA n (cgE x)) = true := List.all_eq_true.2 fun _ _ => rfl
theorem cgs_len {l : List Ch} : (l.all fun x => decide ((cellsOf (cgE x)).length = 6)) = true := List.all_eq_true.2 fun _ _ => rfl
theorem ms_it (x : Ms) : msE x = .agg (msC x) := _root_.id rfl
theorem ms_len {x : Ms} : (msC x).length = 8 := _root_.id rfl
theorem ms_sure {x : Ms} : (msC x).all sure = true := _root_.id rfl
theorem ms_ltA {x : Ms} : (msC x).all (ltA n) = true := _root_.id rfl
theorem ms_lt1 {x : Ms} : (msC x).all (lt1 n) = true := _root_.id rfl
theorem ms_all1 {x : Ms} : ((msC x).all fun y => lt1 n (ro1 H y)) = true := _root_.id rfl
theorem ms_ro {x : Ms} : (msC x).map (ro1 H) = msC x := _root_.id rfl
theorem ms_take {x : Ms} : (msC x).take 8 = msC x := _root_.id rfl
theorem ms_sl {x : Ms} : ((msC x).all fun y => sure y && lt1 n y) = true := _root_.id rfl
theorem ms_set {x y : Ms} : setCells (msC y) 0 (msC x) = msC x := _root_.id rfl
theorem ms_noT {x : Ms} : noT (.agg (msC x)) = .agg (msC x) := _root_.id rfl
theorem ms_kd {x : Ms} : nthE (msC x) 0 K1 = K1 (nA x.kd) := _root_.id rfl
theorem ms_st_kd {x : Ms} {q : Int} : (msC x).set 0 (nA q) = msC { x with kd := q } := _root_.id rfl
theorem ms_set_kd {x : Ms} {q : Int} : setCells (msC x) 0 [nA q] = msC { x with kd := q } := _root_.id rfl
theorem ms_fr {x : Ms} : nthE (msC x) 1 K1 = K1 (nA x.fr) := _root_.id rfl
theorem ms_st_fr {x : Ms} {q : Int} : (msC x).set 1 (nA q) = msC { x with fr := q } := _root_.id rfl
theorem ms_set_fr {x : Ms} {q : Int} : setCells (msC x) 1 [nA q] = msC { x with fr := q } := _root_.id rfl
theorem ms_vw {x : Ms} : nthE (msC x) 2 K1 = K1 (nA x.vw) := _root_.id rfl
theorem ms_st_vw {x : Ms} {q : Int} : (msC x).set 2 (nA q) = msC { x with vw := q } := _root_.id rfl
theorem ms_set_vw {x : Ms} {q : Int} : setCells (msC x) 2 [nA q] = msC { x with vw := q } := _root_.id rfl
theorem ms_sq {x : Ms} : nthE (msC x) 3 K1 = K1 (nA x.sq) := _root_.id rfl
theorem ms_st_sq {x : Ms} {q : Int} : (msC x).set 3 (nA q) = msC { x with sq := q } := _root_.id rfl
theorem ms_set_sq {x : Ms} {q : Int} : setCells (msC x) 3 [nA q] = msC { x with sq := q } := _root_.id rfl
theorem ms_tm {x : Ms} : nthE (msC x) 4 K1 = K1 (nA x.tm) := _root_.id rfl
theorem ms_st_tm {x : Ms} {q : Int} : (msC x).set 4 (nA q) = msC { x with tm := q } := _root_.id rfl
theorem ms_set_tm {x : Ms} {q : Int} : setCells (msC x) 4 [nA q] = msC { x with tm := q } := _root_.id rfl
theorem ms_body {x : Ms} : nthE (msC x) 5 K1 = K1 (sA x.body) := _root_.id rfl
theorem ms_st_body {x : Ms} {q : List UInt8} : (msC x).set 5 (sA q) = msC { x with body := q } := _root_.id rfl
theorem ms_set_body {x : Ms} {q : List UInt8} : setCells (msC x) 5 [sA q] = msC { x with body := q } := _root_.id rfl
theorem ms_vs {x : Ms} : nthE (msC x) 6 K1 = K1 (SL (x.vs.map smE)) := _root_.id rfl
theorem ms_st_vs {x : Ms} {q : List Sm} : (msC x).set 6 (SL (q.map smE)) = msC { x with vs := q } := _root_.id rfl
theorem ms_set_vs {x : Ms} {q : List Sm} : setCells (msC x) 6 [SL (q.map smE)] = msC { x with vs := q } := _root_.id rfl
theorem ms_chs {x : Ms} : nthE (msC x) 7 K1 = K1 (SL (x.chs.map cgE)) := _root_.id rfl
theorem ms_st_chs {x : Ms} {q : List Ch} : (msC x).set 7 (SL (q.map cgE)) = msC { x with chs := q } := _root_.id rfl
theorem ms_set_chs {x : Ms} {q : List Ch} : setCells (msC x) 7 [SL (q.map cgE)] = msC { x with chs := q } := _root_.id rfl
theorem zms_len : zc_api_Msg.length = 8 := _root_.id rfl
theorem zms_sure : zc_api_Msg.all sure = true := _root_.id rfl
theorem zms_lt1 : zc_api_Msg.all (lt1 n) = true := _root_.id rfl
theorem zms_sl : (zc_api_Msg.all fun y => sure y && lt1 n y) = true := _root_.id rfl
theorem zms_ro : zc_api_Msg.map (ro1 H) = msC Ms.zero := _root_.id rfl
theorem zms_setz : setCells zc_api_Msg 0 zc_api_Msg = zc_api_Msg := _root_.id rfl
theorem zms_set {x : Ms} : setCells zc_api_Msg 0 (msC x) = msC x := _root_.id rfl
theorem zms_setr {x : Ms} : setCells (msC x) 0 zc_api_Msg = zc_api_Msg := _root_.id rfl
theorem zms_take : zc_api_Msg.take 8 = zc_api_Msg := _root_.id rfl
theorem mss_ltA {l : List Ms} : (l.all fun x => ltA n (msE x)) = true := List.all_eq_true.2 fun _ _ => rfl
theorem mss_len {l : List Ms} : (l.all fun x => decide ((cellsOf (msE x)).length = 8)) = true := List.all_eq_true.2 fun _ _ => rfl
end
end Go.Proofs.Ytbdbmfifclmpcaa

namespace Go.Proofs.Ytbdbmfifclmpcaa
open Go.RowKit
set_option linter.unusedVariables false
set_option linter.unusedSimpArgs false
set_option maxRecDepth 20000
attribute [local go_sem] Nat.zero_add Nat.add_zero Nat.mul_one Int.toNat_natCast Int.natCast_zero Int.cast_ofNat_Int or_false false_or or_true true_or Nat.sub_zero Int.natCast_nonneg Int.toNat_zero Bool.true_and Bool.and_true Bool.false_and Bool.and_false Bool.true_or Bool.or_true Bool.false_or Bool.or_false Bool.not_true Bool.not_false Bool.not_not true_and and_true false_and and_false not_true_eq_false not_false_eq_true eq_self decide_true decide_false ne_eq implies_true forall_const true_implies false_implies Bool.true_eq_false Bool.false_eq_true List.map_cons List.map_nil List.all_cons List.all_nil List.length_cons List.length_nil List.length_map List.length_append List.nil_append List.cons_append List.set_cons_zero List.set_cons_succ List.set_nil List.drop_zero List.drop_succ_cons List.drop_nil List.take_zero List.take_succ_cons List.take_nil Option.map_some Option.map_none Option.isSome_some List.all_append List.all_map Function.comp_def decide_eq_true_eq Bool.and_eq_true beq_self_eq_true or_self and_self ite_true ite_false Nat.le_refl Bool.not_eq_true decide_not Bool.not_eq_true' decide_eq_false_iff_not Bool.not_eq_false Bool.or_eq_true if_true if_false ite_self u_roF u_cvF u_cvC u_ceT u_ceK u_appS sm_it sm_len sm_sure sm_ltA sm_lt1 sm_all1 sm_ro sm_take sm_sl sm_set sm_noT sm_fr sm_st_fr sm_set_fr sm_kd sm_st_kd sm_set_kd sm_vw sm_st_vw sm_set_vw sm_sq sm_st_sq sm_set_sq sm_tm sm_st_tm sm_set_tm zsm_len zsm_sure zsm_lt1 zsm_sl zsm_ro zsm_setz zsm_set zsm_setr zsm_take sms_ltA sms_len ce_it ce_len ce_sure ce_ltA ce_lt1 ce_all1 ce_ro ce_take ce_sl ce_set ce_noT ce_sq ce_st_sq ce_set_sq ce_vw ce_st_vw ce_set_vw ce_tm ce_st_tm ce_set_tm ce_body ce_st_body ce_set_body ce_vs ce_st_vs ce_set_vs zce_len zce_sure zce_lt1 zce_sl zce_ro zce_setz zce_set zce_setr zce_take ces_ltA ces_len cg_it cg_len cg_sure cg_ltA cg_lt1 cg_all1 cg_ro cg_take cg_sl cg_set cg_noT cg_fr cg_st_fr cg_set_fr cg_vw cg_st_vw cg_set_vw cg_st cg_st_st cg_set_st cg_rt cg_st_rt cg_set_rt cg_pf cg_st_pf cg_set_pf cg_cs cg_st_cs cg_set_cs zcg_len zcg_sure zcg_lt1 zcg_sl zcg_ro zcg_setz zcg_set zcg_setr zcg_take cgs_ltA cgs_len ms_it ms_len ms_sure ms_ltA ms_lt1 ms_all1 ms_ro ms_take ms_sl ms_set ms_noT ms_kd ms_st_kd ms_set_kd ms_fr ms_st_fr ms_set_fr ms_vw ms_st_vw ms_set_vw ms_sq ms_st_sq ms_set_sq ms_tm ms_st_tm ms_set_tm ms_body ms_st_body ms_set_body ms_vs ms_st_vs ms_set_vs ms_chs ms_st_chs ms_set_chs zms_len zms_sure zms_lt1 zms_sl zms_ro zms_setz zms_set zms_setr zms_take mss_ltA mss_len natInt u_nthM u_bz u_bi1 u_bi2 u_bi3 u_bi4 u_bi5 u_bi6 u_bi7
def numB (v : Int) : Bool := decide (0 ≤ v) && decide (v ≤ 2147483647)
def parB (v : Int) : Bool := decide (0 ≤ v) && decide (v ≤ 63)
def smB (x : Sm) : Bool := parB x.fr && [x.kd, x.vw, x.sq, x.tm].all numB
def smsB (l : List Sm) : Bool := decide (l.length ≤ 64) && l.all smB
def ceB (x : Ce) : Bool := [x.sq, x.vw, x.tm].all numB && (decide (x.body.length ≤ 65536) && smsB x.vs)
def cesB (l : List Ce) : Bool := decide (l.length ≤ 64) && l.all ceB
def cgB (x : Ch) : Bool := parB x.fr && ([x.vw, x.st, x.rt].all numB && (smsB x.pf && cesB x.cs))
def cgsB (l : List Ch) : Bool := decide (l.length ≤ 64) && l.all cgB
def msB (x : Ms) : Bool := decide (1 ≤ x.kd) && (decide (x.kd ≤ 10) && (parB x.fr && ([x.vw, x.sq, x.tm].all numB && (decide (x.body.length ≤ 65536) && (smsB x.vs && cgsB x.chs)))))
theorem number_s (m : Nat) (l : List Int) (hm : l.length < m) (hl : l.length ≤ 34359738367) : wire_number m (SL (l.map nA)) = some (bA (l.all numB), []) := by
  rw [wire_number_eq]
  simp (config := {maxSteps := 4000000, implicitDefEqProofs := false}) (disch := omega) only [go_sem, ↓reduceIte, Nat.reduceAdd, Nat.reduceSub, Nat.reduceMul, Nat.reduceLeDiff, Nat.reduceLT, Int.reduceEq, Int.reduceNe, Int.reduceLT, Int.reduceLE, Int.reduceAdd, Int.reduceSub, Int.reduceMul, Int.reduceNeg, Int.reduceToNat, reduceCtorEq, Nat.reduceEqDiff, Nat.reduceBEq, Nat.reduceGT]
  generalize hg : l.all numB = g
  refine iter_go (ι := {k : Nat // k ≤ l.length ∧ (l.drop k).all numB = g}) (fun k => ⟨[], [(5, SL (l.map nA)), (6, nA l.length), (7, nA k.1)]⟩) (fun k => l.length - k.1) (fun _ => some (bA g, [])) ?_ ⟨0, Nat.zero_le _, hg⟩ (by dsimp only; omega)
  rintro kx hkx ⟨k, hk, hG⟩ kc hkc
  dsimp only at hkc hG ⊢
  rw [wire_number_b1_eq]
  by_cases hlt : k < l.length
  · have hlt' : (k : Int) < (l.length : Int) := by omega
    rw [List.drop_eq_getElem_cons hlt, List.all_cons] at hG
    by_cases h1 : l[k] < 0
    · have e : numB l[k] = false := by unfold numB; rw [decide_eq_false (by omega)]; rfl
      rw [e] at hG
      have hG2 : false = g := hG
      subst hG2
      simp (config := {maxSteps := 4000000, implicitDefEqProofs := false}) (disch := omega) only [go_sem, ↓reduceIte, Nat.reduceAdd, Nat.reduceSub, Nat.reduceMul, Nat.reduceLeDiff, Nat.reduceLT, Int.reduceEq, Int.reduceNe, Int.reduceLT, Int.reduceLE, Int.reduceAdd, Int.reduceSub, Int.reduceMul, Int.reduceNeg, Int.reduceToNat, reduceCtorEq, Nat.reduceEqDiff, Nat.reduceBEq, Nat.reduceGT, hlt', h1, w_i64, hkx, wire_number_r3_eq, wire_number_r2_eq, wire_number_r1_eq]
    · by_cases h2 : l[k] > 2147483647
      · have e : numB l[k] = false := by unfold numB; rw [decide_eq_false (p := l[k] ≤ 2147483647) (by omega)]; simp
        rw [e] at hG
        have hG2 : false = g := hG
        subst hG2
        simp (config := {maxSteps := 4000000, implicitDefEqProofs := false}) (disch := omega) only [go_sem, ↓reduceIte, Nat.reduceAdd, Nat.reduceSub, Nat.reduceMul, Nat.reduceLeDiff, Nat.reduceLT, Int.reduceEq, Int.reduceNe, Int.reduceLT, Int.reduceLE, Int.reduceAdd, Int.reduceSub, Int.reduceMul, Int.reduceNeg, Int.reduceToNat, reduceCtorEq, Nat.reduceEqDiff, Nat.reduceBEq, Nat.reduceGT, hlt', h1, h2, w_i64, hkx, wire_number_r3_eq, wire_number_r2_eq, wire_number_r1_eq]
      · have e : numB l[k] = true := by unfold numB; rw [decide_eq_true (by omega), decide_eq_true (by omega)]; rfl
        rw [e] at hG
        have step := hkc ⟨k + 1, by omega, hG⟩ (by dsimp only; omega)
        simp (config := {maxSteps := 4000000, implicitDefEqProofs := false}) (disch := omega) only [go_sem, ↓reduceIte, Nat.reduceAdd, Nat.reduceSub, Nat.reduceMul, Nat.reduceLeDiff, Nat.reduceLT, Int.reduceEq, Int.reduceNe, Int.reduceLT, Int.reduceLE, Int.reduceAdd, Int.reduceSub, Int.reduceMul, Int.reduceNeg, Int.reduceToNat, reduceCtorEq, Nat.reduceEqDiff, Nat.reduceBEq, Nat.reduceGT, hlt', h1, h2, w_i64, wire_number_r3_eq, wire_number_r2_eq, wire_number_r1_eq]
        exact step
  · have hlt' : ¬ (k : Int) < (l.length : Int) := by omega
    rw [List.drop_of_length_le (by omega)] at hG
    have hG2 : true = g := hG
    subst hG2
    simp (config := {maxSteps := 4000000, implicitDefEqProofs := false}) (disch := omega) only [go_sem, ↓reduceIte, Nat.reduceAdd, Nat.reduceSub, Nat.reduceMul, Nat.reduceLeDiff, Nat.reduceLT, Int.reduceEq, Int.reduceNe, Int.reduceLT, Int.reduceLE, Int.reduceAdd, Int.reduceSub, Int.reduceMul, Int.reduceNeg, Int.reduceToNat, reduceCtorEq, Nat.reduceEqDiff, Nat.reduceBEq, Nat.reduceGT, hlt', hkx, wire_number_r3_eq, wire_number_r2_eq, wire_number_r1_eq]
theorem party_s (m : Nat) (v : Int) : wire_party m (nA v) = some (bA (parB v), []) := by
  rw [wire_party_eq]
  unfold parB
  have e : decide (v ≤ 63) = decide (v < 64) := by apply decide_eq_decide.2; omega
  rw [e]
  by_cases h1 : 0 ≤ v
  · simp (config := {maxSteps := 4000000, implicitDefEqProofs := false}) (disch := omega) only [go_sem, ↓reduceIte, Nat.reduceAdd, Nat.reduceSub, Nat.reduceMul, Nat.reduceLeDiff, Nat.reduceLT, Int.reduceEq, Int.reduceNe, Int.reduceLT, Int.reduceLE, Int.reduceAdd, Int.reduceSub, Int.reduceMul, Int.reduceNeg, Int.reduceToNat, reduceCtorEq, Nat.reduceEqDiff, Nat.reduceBEq, Nat.reduceGT, h1]
  · simp (config := {maxSteps := 4000000, implicitDefEqProofs := false}) (disch := omega) only [go_sem, ↓reduceIte, Nat.reduceAdd, Nat.reduceSub, Nat.reduceMul, Nat.reduceLeDiff, Nat.reduceLT, Int.reduceEq, Int.reduceNe, Int.reduceLT, Int.reduceLE, Int.reduceAdd, Int.reduceSub, Int.reduceMul, Int.reduceNeg, Int.reduceToNat, reduceCtorEq, Nat.reduceEqDiff, Nat.reduceBEq, Nat.reduceGT, h1]
theorem stmt_s (m : Nat) (x : Sm) (hm : 4 < m) : wire_stmt m (smE x) = some (bA (smB x), []) := by
  have hN := number_s m [x.kd, x.vw, x.sq, x.tm] hm (by simp only [List.length_cons, List.length_nil]; omega)
  have hP := party_s m x.fr
  rw [wire_stmt_eq, sm_it]
  unfold smB
  generalize [x.kd, x.vw, x.sq, x.tm].all numB = gn at hN ⊢
  simp only [List.map_cons, List.map_nil] at hN
  cases h : parB x.fr with
  | false => rw [h] at hP; simp (config := {maxSteps := 4000000, implicitDefEqProofs := false}) (disch := omega) only [go_sem, ↓reduceIte, Nat.reduceAdd, Nat.reduceSub, Nat.reduceMul, Nat.reduceLeDiff, Nat.reduceLT, Int.reduceEq, Int.reduceNe, Int.reduceLT, Int.reduceLE, Int.reduceAdd, Int.reduceSub, Int.reduceMul, Int.reduceNeg, Int.reduceToNat, reduceCtorEq, Nat.reduceEqDiff, Nat.reduceBEq, Nat.reduceGT, hP, hN]
  | true => rw [h] at hP; simp (config := {maxSteps := 4000000, implicitDefEqProofs := false}) (disch := omega) only [go_sem, ↓reduceIte, Nat.reduceAdd, Nat.reduceSub, Nat.reduceMul, Nat.reduceLeDiff, Nat.reduceLT, Int.reduceEq, Int.reduceNe, Int.reduceLT, Int.reduceLE, Int.reduceAdd, Int.reduceSub, Int.reduceMul, Int.reduceNeg, Int.reduceToNat, reduceCtorEq, Nat.reduceEqDiff, Nat.reduceBEq, Nat.reduceGT, hP, hN]
theorem listStmt_s (m : Nat) (l : List Sm) (hm : 70 < m) : wire_list_Stmt m (SL (l.map smE)) (V (.func (.func 55) #[] #[])) = some (bA (smsB l), []) := by
  rw [wire_list_Stmt_eq]
  unfold smsB
  by_cases h64 : l.length ≤ 64
  rotate_left
  · have h64' : (l.length : Int) > 64 := by omega
    simp (config := {maxSteps := 4000000, implicitDefEqProofs := false}) (disch := omega) only [go_sem, ↓reduceIte, Nat.reduceAdd, Nat.reduceSub, Nat.reduceMul, Nat.reduceLeDiff, Nat.reduceLT, Int.reduceEq, Int.reduceNe, Int.reduceLT, Int.reduceLE, Int.reduceAdd, Int.reduceSub, Int.reduceMul, Int.reduceNeg, Int.reduceToNat, reduceCtorEq, Nat.reduceEqDiff, Nat.reduceBEq, Nat.reduceGT, h64', h64]
  have h64' : ¬ (l.length : Int) > 64 := by omega
  simp (config := {maxSteps := 4000000, implicitDefEqProofs := false}) (disch := omega) only [go_sem, ↓reduceIte, Nat.reduceAdd, Nat.reduceSub, Nat.reduceMul, Nat.reduceLeDiff, Nat.reduceLT, Int.reduceEq, Int.reduceNe, Int.reduceLT, Int.reduceLE, Int.reduceAdd, Int.reduceSub, Int.reduceMul, Int.reduceNeg, Int.reduceToNat, reduceCtorEq, Nat.reduceEqDiff, Nat.reduceBEq, Nat.reduceGT, h64', h64]
  generalize hg : l.all smB = g
  refine iter_go (ι := {k : Nat // k ≤ l.length ∧ (l.drop k).all smB = g}) (fun k => ⟨[], [(1, V (.func (.func 55) #[] #[])), (10, SL (l.map smE)), (11, nA l.length), (12, nA k.1)]⟩) (fun k => l.length - k.1) (fun _ => some (bA g, [])) ?_ ⟨0, Nat.zero_le _, hg⟩ (by dsimp only; omega)
  rintro kx hkx ⟨k, hk, hG⟩ kc hkc
  dsimp only at hkc hG ⊢
  rw [wire_list_Stmt_b1_eq]
  by_cases hlt : k < l.length
  · have hlt' : (k : Int) < (l.length : Int) := by omega
    rw [List.drop_eq_getElem_cons hlt, List.all_cons] at hG
    have hV := stmt_s m l[k] (by omega)
    rw [sm_it] at hV
    have hF : findE (wire_list_Stmt_env m) 55 = some (.tell (wire_stmt_t m)) := rfl
    have hT : wire_stmt_t m [.agg (smC l[k])] = wire_stmt m (.agg (smC l[k])) := rfl
    cases h1 : smB l[k] with
    | false =>
      rw [h1] at hG hV
      have hG2 : false = g := hG
      subst hG2
      simp (config := {maxSteps := 4000000, implicitDefEqProofs := false}) (disch := omega) only [go_sem, ↓reduceIte, Nat.reduceAdd, Nat.reduceSub, Nat.reduceMul, Nat.reduceLeDiff, Nat.reduceLT, Int.reduceEq, Int.reduceNe, Int.reduceLT, Int.reduceLE, Int.reduceAdd, Int.reduceSub, Int.reduceMul, Int.reduceNeg, Int.reduceToNat, reduceCtorEq, Nat.reduceEqDiff, Nat.reduceBEq, Nat.reduceGT, hlt', hF, hT, hV, w_i64, hkx, wire_list_Stmt_r1_eq]
    | true =>
      rw [h1] at hG hV
      have step := hkc ⟨k + 1, by omega, hG⟩ (by dsimp only; omega)
      simp (config := {maxSteps := 4000000, implicitDefEqProofs := false}) (disch := omega) only [go_sem, ↓reduceIte, Nat.reduceAdd, Nat.reduceSub, Nat.reduceMul, Nat.reduceLeDiff, Nat.reduceLT, Int.reduceEq, Int.reduceNe, Int.reduceLT, Int.reduceLE, Int.reduceAdd, Int.reduceSub, Int.reduceMul, Int.reduceNeg, Int.reduceToNat, reduceCtorEq, Nat.reduceEqDiff, Nat.reduceBEq, Nat.reduceGT, hlt', hF, hT, hV, w_i64, wire_list_Stmt_r1_eq]
      exact step
  · have hlt' : ¬ (k : Int) < (l.length : Int) := by omega
    rw [List.drop_of_length_le (by omega)] at hG
    have hG2 : true = g := hG
    subst hG2
    simp (config := {maxSteps := 4000000, implicitDefEqProofs := false}) (disch := omega) only [go_sem, ↓reduceIte, Nat.reduceAdd, Nat.reduceSub, Nat.reduceMul, Nat.reduceLeDiff, Nat.reduceLT, Int.reduceEq, Int.reduceNe, Int.reduceLT, Int.reduceLE, Int.reduceAdd, Int.reduceSub, Int.reduceMul, Int.reduceNeg, Int.reduceToNat, reduceCtorEq, Nat.reduceEqDiff, Nat.reduceBEq, Nat.reduceGT, hlt', hkx, wire_list_Stmt_r1_eq]
theorem cert_s (m : Nat) (x : Ce) (hm : 70 < m) : wire_cert m (ceE x) = some (bA (ceB x), []) := by
  have hN := number_s m [x.sq, x.vw, x.tm] (by simp only [List.length_cons, List.length_nil]; omega) (by simp only [List.length_cons, List.length_nil]; omega)
  have hL := listStmt_s m x.vs hm
  rw [wire_cert_eq, ce_it]
  unfold ceB
  simp only [List.map_cons, List.map_nil] at hN
  cases h : [x.sq, x.vw, x.tm].all numB with
  | false => rw [h] at hN; simp (config := {maxSteps := 4000000, implicitDefEqProofs := false}) (disch := omega) only [go_sem, ↓reduceIte, Nat.reduceAdd, Nat.reduceSub, Nat.reduceMul, Nat.reduceLeDiff, Nat.reduceLT, Int.reduceEq, Int.reduceNe, Int.reduceLT, Int.reduceLE, Int.reduceAdd, Int.reduceSub, Int.reduceMul, Int.reduceNeg, Int.reduceToNat, reduceCtorEq, Nat.reduceEqDiff, Nat.reduceBEq, Nat.reduceGT, hN]
  | true =>
    rw [h] at hN
    by_cases h1 : x.body.length ≤ 65536
    · have h1' : (x.body.length : Int) ≤ 65536 := by omega
      simp (config := {maxSteps := 4000000, implicitDefEqProofs := false}) (disch := omega) only [go_sem, ↓reduceIte, Nat.reduceAdd, Nat.reduceSub, Nat.reduceMul, Nat.reduceLeDiff, Nat.reduceLT, Int.reduceEq, Int.reduceNe, Int.reduceLT, Int.reduceLE, Int.reduceAdd, Int.reduceSub, Int.reduceMul, Int.reduceNeg, Int.reduceToNat, reduceCtorEq, Nat.reduceEqDiff, Nat.reduceBEq, Nat.reduceGT, hN, h1, h1', hL]
    · have h1' : ¬ (x.body.length : Int) ≤ 65536 := by omega
      simp (config := {maxSteps := 4000000, implicitDefEqProofs := false}) (disch := omega) only [go_sem, ↓reduceIte, Nat.reduceAdd, Nat.reduceSub, Nat.reduceMul, Nat.reduceLeDiff, Nat.reduceLT, Int.reduceEq, Int.reduceNe, Int.reduceLT, Int.reduceLE, Int.reduceAdd, Int.reduceSub, Int.reduceMul, Int.reduceNeg, Int.reduceToNat, reduceCtorEq, Nat.reduceEqDiff, Nat.reduceBEq, Nat.reduceGT, hN, h1, h1', hL]
theorem listCert_s (m : Nat) (l : List Ce) (hm : 70 < m) : wire_list_Cert m (SL (l.map ceE)) (V (.func (.func 69) #[] #[])) = some (bA (cesB l), []) := by
  rw [wire_list_Cert_eq]
  unfold cesB
  by_cases h64 : l.length ≤ 64
  rotate_left
  · have h64' : (l.length : Int) > 64 := by omega
    simp (config := {maxSteps := 4000000, implicitDefEqProofs := false}) (disch := omega) only [go_sem, ↓reduceIte, Nat.reduceAdd, Nat.reduceSub, Nat.reduceMul, Nat.reduceLeDiff, Nat.reduceLT, Int.reduceEq, Int.reduceNe, Int.reduceLT, Int.reduceLE, Int.reduceAdd, Int.reduceSub, Int.reduceMul, Int.reduceNeg, Int.reduceToNat, reduceCtorEq, Nat.reduceEqDiff, Nat.reduceBEq, Nat.reduceGT, h64', h64]
  have h64' : ¬ (l.length : Int) > 64 := by omega
  simp (config := {maxSteps := 4000000, implicitDefEqProofs := false}) (disch := omega) only [go_sem, ↓reduceIte, Nat.reduceAdd, Nat.reduceSub, Nat.reduceMul, Nat.reduceLeDiff, Nat.reduceLT, Int.reduceEq, Int.reduceNe, Int.reduceLT, Int.reduceLE, Int.reduceAdd, Int.reduceSub, Int.reduceMul, Int.reduceNeg, Int.reduceToNat, reduceCtorEq, Nat.reduceEqDiff, Nat.reduceBEq, Nat.reduceGT, h64', h64]
  generalize hg : l.all ceB = g
  refine iter_go (ι := {k : Nat // k ≤ l.length ∧ (l.drop k).all ceB = g}) (fun k => ⟨[], [(1, V (.func (.func 69) #[] #[])), (10, SL (l.map ceE)), (11, nA l.length), (12, nA k.1)]⟩) (fun k => l.length - k.1) (fun _ => some (bA g, [])) ?_ ⟨0, Nat.zero_le _, hg⟩ (by dsimp only; omega)
  rintro kx hkx ⟨k, hk, hG⟩ kc hkc
  dsimp only at hkc hG ⊢
  rw [wire_list_Cert_b1_eq]
  by_cases hlt : k < l.length
  · have hlt' : (k : Int) < (l.length : Int) := by omega
    rw [List.drop_eq_getElem_cons hlt, List.all_cons] at hG
    have hV := cert_s m l[k] hm
    rw [ce_it] at hV
    have hF : findE (wire_list_Cert_env m) 69 = some (.tell (wire_cert_t m)) := rfl
    have hT : wire_cert_t m [.agg (ceC l[k])] = wire_cert m (.agg (ceC l[k])) := rfl
    cases h1 : ceB l[k] with
    | false =>
      rw [h1] at hG hV
      have hG2 : false = g := hG
      subst hG2
      simp (config := {maxSteps := 4000000, implicitDefEqProofs := false}) (disch := omega) only [go_sem, ↓reduceIte, Nat.reduceAdd, Nat.reduceSub, Nat.reduceMul, Nat.reduceLeDiff, Nat.reduceLT, Int.reduceEq, Int.reduceNe, Int.reduceLT, Int.reduceLE, Int.reduceAdd, Int.reduceSub, Int.reduceMul, Int.reduceNeg, Int.reduceToNat, reduceCtorEq, Nat.reduceEqDiff, Nat.reduceBEq, Nat.reduceGT, hlt', hF, hT, hV, w_i64, hkx, wire_list_Cert_r1_eq]
    | true =>
      rw [h1] at hG hV
      have step := hkc ⟨k + 1, by omega, hG⟩ (by dsimp only; omega)
      simp (config := {maxSteps := 4000000, implicitDefEqProofs := false}) (disch := omega) only [go_sem, ↓reduceIte, Nat.reduceAdd, Nat.reduceSub, Nat.reduceMul, Nat.reduceLeDiff, Nat.reduceLT, Int.reduceEq, Int.reduceNe, Int.reduceLT, Int.reduceLE, Int.reduceAdd, Int.reduceSub, Int.reduceMul, Int.reduceNeg, Int.reduceToNat, reduceCtorEq, Nat.reduceEqDiff, Nat.reduceBEq, Nat.reduceGT, hlt', hF, hT, hV, w_i64, wire_list_Cert_r1_eq]
      exact step
  · have hlt' : ¬ (k : Int) < (l.length : Int) := by omega
    rw [List.drop_of_length_le (by omega)] at hG
    have hG2 : true = g := hG
    subst hG2
    simp (config := {maxSteps := 4000000, implicitDefEqProofs := false}) (disch := omega) only [go_sem, ↓reduceIte, Nat.reduceAdd, Nat.reduceSub, Nat.reduceMul, Nat.reduceLeDiff, Nat.reduceLT, Int.reduceEq, Int.reduceNe, Int.reduceLT, Int.reduceLE, Int.reduceAdd, Int.reduceSub, Int.reduceMul, Int.reduceNeg, Int.reduceToNat, reduceCtorEq, Nat.reduceEqDiff, Nat.reduceBEq, Nat.reduceGT, hlt', hkx, wire_list_Cert_r1_eq]
theorem change_s (m : Nat) (x : Ch) (hm : 70 < m) : wire_change m (cgE x) = some (bA (cgB x), []) := by
  have hN := number_s m [x.vw, x.st, x.rt] (by simp only [List.length_cons, List.length_nil]; omega) (by simp only [List.length_cons, List.length_nil]; omega)
  have hP := party_s m x.fr
  have hL := listStmt_s m x.pf hm
  have hC := listCert_s m x.cs hm
  rw [wire_change_eq, cg_it]
  unfold cgB
  simp only [List.map_cons, List.map_nil] at hN
  cases h0 : parB x.fr with
  | false => rw [h0] at hP; simp (config := {maxSteps := 4000000, implicitDefEqProofs := false}) (disch := omega) only [go_sem, ↓reduceIte, Nat.reduceAdd, Nat.reduceSub, Nat.reduceMul, Nat.reduceLeDiff, Nat.reduceLT, Int.reduceEq, Int.reduceNe, Int.reduceLT, Int.reduceLE, Int.reduceAdd, Int.reduceSub, Int.reduceMul, Int.reduceNeg, Int.reduceToNat, reduceCtorEq, Nat.reduceEqDiff, Nat.reduceBEq, Nat.reduceGT, hP]
  | true =>
    rw [h0] at hP
    cases h : [x.vw, x.st, x.rt].all numB with
    | false => rw [h] at hN; simp (config := {maxSteps := 4000000, implicitDefEqProofs := false}) (disch := omega) only [go_sem, ↓reduceIte, Nat.reduceAdd, Nat.reduceSub, Nat.reduceMul, Nat.reduceLeDiff, Nat.reduceLT, Int.reduceEq, Int.reduceNe, Int.reduceLT, Int.reduceLE, Int.reduceAdd, Int.reduceSub, Int.reduceMul, Int.reduceNeg, Int.reduceToNat, reduceCtorEq, Nat.reduceEqDiff, Nat.reduceBEq, Nat.reduceGT, hP, hN]
    | true =>
      rw [h] at hN
      cases h1 : smsB x.pf with
      | false => rw [h1] at hL; simp (config := {maxSteps := 4000000, implicitDefEqProofs := false}) (disch := omega) only [go_sem, ↓reduceIte, Nat.reduceAdd, Nat.reduceSub, Nat.reduceMul, Nat.reduceLeDiff, Nat.reduceLT, Int.reduceEq, Int.reduceNe, Int.reduceLT, Int.reduceLE, Int.reduceAdd, Int.reduceSub, Int.reduceMul, Int.reduceNeg, Int.reduceToNat, reduceCtorEq, Nat.reduceEqDiff, Nat.reduceBEq, Nat.reduceGT, hP, hN, hL]
      | true => rw [h1] at hL; simp (config := {maxSteps := 4000000, implicitDefEqProofs := false}) (disch := omega) only [go_sem, ↓reduceIte, Nat.reduceAdd, Nat.reduceSub, Nat.reduceMul, Nat.reduceLeDiff, Nat.reduceLT, Int.reduceEq, Int.reduceNe, Int.reduceLT, Int.reduceLE, Int.reduceAdd, Int.reduceSub, Int.reduceMul, Int.reduceNeg, Int.reduceToNat, reduceCtorEq, Nat.reduceEqDiff, Nat.reduceBEq, Nat.reduceGT, hP, hN, hL, hC]
theorem listChange_s (m : Nat) (l : List Ch) (hm : 70 < m) : wire_list_Change m (SL (l.map cgE)) (V (.func (.func 51) #[] #[])) = some (bA (cgsB l), []) := by
  rw [wire_list_Change_eq]
  unfold cgsB
  by_cases h64 : l.length ≤ 64
  rotate_left
  · have h64' : (l.length : Int) > 64 := by omega
    simp (config := {maxSteps := 4000000, implicitDefEqProofs := false}) (disch := omega) only [go_sem, ↓reduceIte, Nat.reduceAdd, Nat.reduceSub, Nat.reduceMul, Nat.reduceLeDiff, Nat.reduceLT, Int.reduceEq, Int.reduceNe, Int.reduceLT, Int.reduceLE, Int.reduceAdd, Int.reduceSub, Int.reduceMul, Int.reduceNeg, Int.reduceToNat, reduceCtorEq, Nat.reduceEqDiff, Nat.reduceBEq, Nat.reduceGT, h64', h64]
  have h64' : ¬ (l.length : Int) > 64 := by omega
  simp (config := {maxSteps := 4000000, implicitDefEqProofs := false}) (disch := omega) only [go_sem, ↓reduceIte, Nat.reduceAdd, Nat.reduceSub, Nat.reduceMul, Nat.reduceLeDiff, Nat.reduceLT, Int.reduceEq, Int.reduceNe, Int.reduceLT, Int.reduceLE, Int.reduceAdd, Int.reduceSub, Int.reduceMul, Int.reduceNeg, Int.reduceToNat, reduceCtorEq, Nat.reduceEqDiff, Nat.reduceBEq, Nat.reduceGT, h64', h64]
  generalize hg : l.all cgB = g
  refine iter_go (ι := {k : Nat // k ≤ l.length ∧ (l.drop k).all cgB = g}) (fun k => ⟨[], [(1, V (.func (.func 51) #[] #[])), (10, SL (l.map cgE)), (11, nA l.length), (12, nA k.1)]⟩) (fun k => l.length - k.1) (fun _ => some (bA g, [])) ?_ ⟨0, Nat.zero_le _, hg⟩ (by dsimp only; omega)
  rintro kx hkx ⟨k, hk, hG⟩ kc hkc
  dsimp only at hkc hG ⊢
  rw [wire_list_Change_b1_eq]
  by_cases hlt : k < l.length
  · have hlt' : (k : Int) < (l.length : Int) := by omega
    rw [List.drop_eq_getElem_cons hlt, List.all_cons] at hG
    have hV := change_s m l[k] hm
    rw [cg_it] at hV
    have hF : findE (wire_list_Change_env m) 51 = some (.tell (wire_change_t m)) := rfl
    have hT : wire_change_t m [.agg (cgC l[k])] = wire_change m (.agg (cgC l[k])) := rfl
    cases h1 : cgB l[k] with
    | false =>
      rw [h1] at hG hV
      have hG2 : false = g := hG
      subst hG2
      simp (config := {maxSteps := 4000000, implicitDefEqProofs := false}) (disch := omega) only [go_sem, ↓reduceIte, Nat.reduceAdd, Nat.reduceSub, Nat.reduceMul, Nat.reduceLeDiff, Nat.reduceLT, Int.reduceEq, Int.reduceNe, Int.reduceLT, Int.reduceLE, Int.reduceAdd, Int.reduceSub, Int.reduceMul, Int.reduceNeg, Int.reduceToNat, reduceCtorEq, Nat.reduceEqDiff, Nat.reduceBEq, Nat.reduceGT, hlt', hF, hT, hV, w_i64, hkx, wire_list_Change_r1_eq]
    | true =>
      rw [h1] at hG hV
      have step := hkc ⟨k + 1, by omega, hG⟩ (by dsimp only; omega)
      simp (config := {maxSteps := 4000000, implicitDefEqProofs := false}) (disch := omega) only [go_sem, ↓reduceIte, Nat.reduceAdd, Nat.reduceSub, Nat.reduceMul, Nat.reduceLeDiff, Nat.reduceLT, Int.reduceEq, Int.reduceNe, Int.reduceLT, Int.reduceLE, Int.reduceAdd, Int.reduceSub, Int.reduceMul, Int.reduceNeg, Int.reduceToNat, reduceCtorEq, Nat.reduceEqDiff, Nat.reduceBEq, Nat.reduceGT, hlt', hF, hT, hV, w_i64, wire_list_Change_r1_eq]
      exact step
  · have hlt' : ¬ (k : Int) < (l.length : Int) := by omega
    rw [List.drop_of_length_le (by omega)] at hG
    have hG2 : true = g := hG
    subst hG2
    simp (config := {maxSteps := 4000000, implicitDefEqProofs := false}) (disch := omega) only [go_sem, ↓reduceIte, Nat.reduceAdd, Nat.reduceSub, Nat.reduceMul, Nat.reduceLeDiff, Nat.reduceLT, Int.reduceEq, Int.reduceNe, Int.reduceLT, Int.reduceLE, Int.reduceAdd, Int.reduceSub, Int.reduceMul, Int.reduceNeg, Int.reduceToNat, reduceCtorEq, Nat.reduceEqDiff, Nat.reduceBEq, Nat.reduceGT, hlt', hkx, wire_list_Change_r1_eq]
theorem may_s (m : Nat) (x : Ms) (hm : 70 < m) : wire_May m (msE x) = some (bA (msB x), []) := by
  have hN := number_s m [x.vw, x.sq, x.tm] (by simp only [List.length_cons, List.length_nil]; omega) (by simp only [List.length_cons, List.length_nil]; omega)
  have hP := party_s m x.fr
  have hL := listStmt_s m x.vs hm
  have hC := listChange_s m x.chs hm
  rw [wire_May_eq, ms_it]
  unfold msB
  simp only [List.map_cons, List.map_nil] at hN
  by_cases k1 : 1 ≤ x.kd
  rotate_left
  · simp (config := {maxSteps := 4000000, implicitDefEqProofs := false}) (disch := omega) only [go_sem, ↓reduceIte, Nat.reduceAdd, Nat.reduceSub, Nat.reduceMul, Nat.reduceLeDiff, Nat.reduceLT, Int.reduceEq, Int.reduceNe, Int.reduceLT, Int.reduceLE, Int.reduceAdd, Int.reduceSub, Int.reduceMul, Int.reduceNeg, Int.reduceToNat, reduceCtorEq, Nat.reduceEqDiff, Nat.reduceBEq, Nat.reduceGT, k1]
  by_cases k2 : x.kd ≤ 10
  rotate_left
  · simp (config := {maxSteps := 4000000, implicitDefEqProofs := false}) (disch := omega) only [go_sem, ↓reduceIte, Nat.reduceAdd, Nat.reduceSub, Nat.reduceMul, Nat.reduceLeDiff, Nat.reduceLT, Int.reduceEq, Int.reduceNe, Int.reduceLT, Int.reduceLE, Int.reduceAdd, Int.reduceSub, Int.reduceMul, Int.reduceNeg, Int.reduceToNat, reduceCtorEq, Nat.reduceEqDiff, Nat.reduceBEq, Nat.reduceGT, k1, k2]
  cases h0 : parB x.fr with
  | false => rw [h0] at hP; simp (config := {maxSteps := 4000000, implicitDefEqProofs := false}) (disch := omega) only [go_sem, ↓reduceIte, Nat.reduceAdd, Nat.reduceSub, Nat.reduceMul, Nat.reduceLeDiff, Nat.reduceLT, Int.reduceEq, Int.reduceNe, Int.reduceLT, Int.reduceLE, Int.reduceAdd, Int.reduceSub, Int.reduceMul, Int.reduceNeg, Int.reduceToNat, reduceCtorEq, Nat.reduceEqDiff, Nat.reduceBEq, Nat.reduceGT, hP, k1, k2]
  | true =>
    rw [h0] at hP
    cases h : [x.vw, x.sq, x.tm].all numB with
    | false => rw [h] at hN; simp (config := {maxSteps := 4000000, implicitDefEqProofs := false}) (disch := omega) only [go_sem, ↓reduceIte, Nat.reduceAdd, Nat.reduceSub, Nat.reduceMul, Nat.reduceLeDiff, Nat.reduceLT, Int.reduceEq, Int.reduceNe, Int.reduceLT, Int.reduceLE, Int.reduceAdd, Int.reduceSub, Int.reduceMul, Int.reduceNeg, Int.reduceToNat, reduceCtorEq, Nat.reduceEqDiff, Nat.reduceBEq, Nat.reduceGT, hP, hN, k1, k2]
    | true =>
      rw [h] at hN
      by_cases h2 : x.body.length ≤ 65536
      rotate_left
      · have h2' : ¬ (x.body.length : Int) ≤ 65536 := by omega
        simp (config := {maxSteps := 4000000, implicitDefEqProofs := false}) (disch := omega) only [go_sem, ↓reduceIte, Nat.reduceAdd, Nat.reduceSub, Nat.reduceMul, Nat.reduceLeDiff, Nat.reduceLT, Int.reduceEq, Int.reduceNe, Int.reduceLT, Int.reduceLE, Int.reduceAdd, Int.reduceSub, Int.reduceMul, Int.reduceNeg, Int.reduceToNat, reduceCtorEq, Nat.reduceEqDiff, Nat.reduceBEq, Nat.reduceGT, hP, hN, k1, k2, h2, h2']
      have h2' : (x.body.length : Int) ≤ 65536 := by omega
      cases h1 : smsB x.vs with
      | false => rw [h1] at hL; simp (config := {maxSteps := 4000000, implicitDefEqProofs := false}) (disch := omega) only [go_sem, ↓reduceIte, Nat.reduceAdd, Nat.reduceSub, Nat.reduceMul, Nat.reduceLeDiff, Nat.reduceLT, Int.reduceEq, Int.reduceNe, Int.reduceLT, Int.reduceLE, Int.reduceAdd, Int.reduceSub, Int.reduceMul, Int.reduceNeg, Int.reduceToNat, reduceCtorEq, Nat.reduceEqDiff, Nat.reduceBEq, Nat.reduceGT, hP, hN, hL, k1, k2, h2, h2']
      | true => rw [h1] at hL; simp (config := {maxSteps := 4000000, implicitDefEqProofs := false}) (disch := omega) only [go_sem, ↓reduceIte, Nat.reduceAdd, Nat.reduceSub, Nat.reduceMul, Nat.reduceLeDiff, Nat.reduceLT, Int.reduceEq, Int.reduceNe, Int.reduceLT, Int.reduceLE, Int.reduceAdd, Int.reduceSub, Int.reduceMul, Int.reduceNeg, Int.reduceToNat, reduceCtorEq, Nat.reduceEqDiff, Nat.reduceBEq, Nat.reduceGT, hP, hN, hL, hC, k1, k2, h2, h2']
end Go.Proofs.Ytbdbmfifclmpcaa

namespace Go.Proofs.Ytbdbmfifclmpcaa
open Go.RowKit
set_option linter.unusedVariables false
set_option linter.unusedSimpArgs false
set_option maxRecDepth 20000
theorem bc_ltA {n : Nat} {l : List UInt8} : (bC l).all (ltA n) = true := List.all_eq_true.2 fun d hd => by
  obtain ⟨b, _, rfl⟩ := List.mem_map.1 hd; rfl
theorem bc_one {l : List UInt8} : ((bC l).all fun d => decide ((cellsOf d).length = 1)) = true := List.all_eq_true.2 fun d hd => by
  obtain ⟨b, _, rfl⟩ := List.mem_map.1 hd; rfl
theorem nthOL {R : Type} {o : AObj} {Y : List AObj} {K : AObj → Option R} : nthOE (Y ++ [o]) Y.length K = K o := by simp [nthOE]
theorem ltO_o {n e z : Nat} {c : List AV} : ltO n ⟨1, e, z, c⟩ = c.all (ltA n) := _root_.id rfl
theorem ltO_r {n e z : Nat} {c : List AV} : ltO n ⟨2, e, z, c⟩ = c.all (ltA n) := _root_.id rfl
theorem takeL {Y Z : List AObj} : (Y ++ Z).take Y.length = Y := List.take_left
theorem put_i (m n : Nat) (v : Int) (h0 : 0 ≤ v) (h1 : v < 18446744073709551616) : varint_Put_t m [V (.int .u64 v)] n = some (OW n (put v.toNat).length, [⟨2, ty_uint8, 1, bC (put v.toNat)⟩]) := by
  have := varint_Put_e m n v.toNat (by omega)
  rw [Int.toNat_of_nonneg h0] at this
  exact this
def putsL (l : List Int) : List UInt8 := l.flatMap fun v => put v.toNat
theorem putsL_cons (v : Int) (l : List Int) : putsL (v :: l) = put v.toNat ++ putsL l := rfl
theorem putsL_nil : putsL [] = [] := rfl
theorem putsL_append (a b : List Int) : putsL (a ++ b) = putsL a ++ putsL b := by simp [putsL]
def inI (l : List Int) : Prop := ∀ v ∈ l, 0 ≤ v ∧ v < 9223372036854775808
theorem putsL_len : ∀ {l : List Int}, inI l → (putsL l).length ≤ 10 * l.length
  | [], _ => Nat.le_refl _
  | v :: r, h => by
    have h1 := putsL_len (l := r) (fun x hx => h x (List.mem_cons_of_mem _ hx))
    have h2 := h v (List.mem_cons_self ..)
    have h3 := put_len v.toNat (by omega)
    rw [putsL_cons, List.length_append, List.length_cons]; omega
theorem inI.take {l : List Int} (h : inI l) (k : Nat) : inI (l.take k) := fun v hv => h v (List.mem_of_mem_take hv)
attribute [local go_sem] Nat.zero_add Nat.add_zero Nat.mul_one Int.toNat_natCast Int.natCast_zero Int.cast_ofNat_Int or_false false_or or_true true_or Nat.sub_zero Int.natCast_nonneg Int.toNat_zero Bool.true_and Bool.and_true Bool.false_and Bool.and_false Bool.true_or Bool.or_true Bool.false_or Bool.or_false Bool.not_true Bool.not_false Bool.not_not true_and and_true false_and and_false not_true_eq_false not_false_eq_true eq_self decide_true decide_false ne_eq implies_true forall_const true_implies false_implies Bool.true_eq_false Bool.false_eq_true List.map_cons List.map_nil List.all_cons List.all_nil List.length_cons List.length_nil List.length_map List.length_append List.nil_append List.cons_append List.set_cons_zero List.set_cons_succ List.set_nil List.drop_zero List.drop_succ_cons List.drop_nil List.take_zero List.take_succ_cons List.take_nil Option.map_some Option.map_none Option.isSome_some List.all_append List.all_map Function.comp_def decide_eq_true_eq Bool.and_eq_true beq_self_eq_true or_self and_self ite_true ite_false Nat.le_refl Bool.not_eq_true decide_not Bool.not_eq_true' decide_eq_false_iff_not Bool.not_eq_false Bool.or_eq_true if_true if_false ite_self u_roF u_cvF u_cvC u_ceT u_ceK u_appS sm_it sm_len sm_sure sm_ltA sm_lt1 sm_all1 sm_ro sm_take sm_sl sm_set sm_noT sm_fr sm_st_fr sm_set_fr sm_kd sm_st_kd sm_set_kd sm_vw sm_st_vw sm_set_vw sm_sq sm_st_sq sm_set_sq sm_tm sm_st_tm sm_set_tm zsm_len zsm_sure zsm_lt1 zsm_sl zsm_ro zsm_setz zsm_set zsm_setr zsm_take sms_ltA sms_len ce_it ce_len ce_sure ce_ltA ce_lt1 ce_all1 ce_ro ce_take ce_sl ce_set ce_noT ce_sq ce_st_sq ce_set_sq ce_vw ce_st_vw ce_set_vw ce_tm ce_st_tm ce_set_tm ce_body ce_st_body ce_set_body ce_vs ce_st_vs ce_set_vs zce_len zce_sure zce_lt1 zce_sl zce_ro zce_setz zce_set zce_setr zce_take ces_ltA ces_len cg_it cg_len cg_sure cg_ltA cg_lt1 cg_all1 cg_ro cg_take cg_sl cg_set cg_noT cg_fr cg_st_fr cg_set_fr cg_vw cg_st_vw cg_set_vw cg_st cg_st_st cg_set_st cg_rt cg_st_rt cg_set_rt cg_pf cg_st_pf cg_set_pf cg_cs cg_st_cs cg_set_cs zcg_len zcg_sure zcg_lt1 zcg_sl zcg_ro zcg_setz zcg_set zcg_setr zcg_take cgs_ltA cgs_len ms_it ms_len ms_sure ms_ltA ms_lt1 ms_all1 ms_ro ms_take ms_sl ms_set ms_noT ms_kd ms_st_kd ms_set_kd ms_fr ms_st_fr ms_set_fr ms_vw ms_st_vw ms_set_vw ms_sq ms_st_sq ms_set_sq ms_tm ms_st_tm ms_set_tm ms_body ms_st_body ms_set_body ms_vs ms_st_vs ms_set_vs ms_chs ms_st_chs ms_set_chs zms_len zms_sure zms_lt1 zms_sl zms_ro zms_setz zms_set zms_setr zms_take mss_ltA mss_len natInt u_nthM u_bz u_bi1 u_bi2 u_bi3 u_bi4 u_bi5 u_bi6 u_bi7 bC_length bc_ltA bc_one nthOL ltO_o ltO_r takeL bC_append u_addS List.take_length
theorem nums_s (m : Nat) (X : AObj) (B : List UInt8) (Y : List AObj) (l : List Int) (hX : ∀ n, ltO n X = true) (hY : ∀ n, Y.all (ltO n) = true) (hl : inI l) (hm : l.length < m) (hB : B.length + 10 * l.length ≤ 34359738368) :
    wire_writer_nums m (OP 1 0) (SL (l.map nA)) (X :: ⟨1, ty_wire_writer, 0, [OW 2 B.length]⟩ :: ⟨2, ty_uint8, 1, bC B⟩ :: Y) = some (TU [], (X :: ⟨1, ty_wire_writer, 0, [OW 2 (B ++ putsL l).length]⟩ :: ⟨2, ty_uint8, 1, bC (B ++ putsL l)⟩ :: Y)) := by
  obtain ⟨r, hr⟩ : ∃ r, r = some (TU [], (X :: ⟨1, ty_wire_writer, 0, [OW 2 (B ++ putsL l).length]⟩ :: ⟨2, ty_uint8, 1, bC (B ++ putsL l)⟩ :: Y)) := ⟨_, rfl⟩
  have hY2 : 2 < Y.length + 1 + 1 + 1 := by omega
  rw [← hr, wire_writer_nums_eq]
  simp (config := {maxSteps := 4000000, implicitDefEqProofs := false}) (disch := omega) only [go_sem, ↓reduceIte, Nat.reduceAdd, Nat.reduceSub, Nat.reduceMul, Nat.reduceLeDiff, Nat.reduceLT, Int.reduceEq, Int.reduceNe, Int.reduceLT, Int.reduceLE, Int.reduceAdd, Int.reduceSub, Int.reduceMul, Int.reduceNeg, Int.reduceToNat, reduceCtorEq, Nat.reduceEqDiff, Nat.reduceBEq, Nat.reduceGT]
  have e0 : B = B ++ putsL (l.take 0) := by simp [putsL]
  have hr' := hr
  clear hr
  rw [e0]
  refine iter_go (ι := {k : Nat // k ≤ l.length}) (fun k => ⟨(X :: ⟨1, ty_wire_writer, 0, [OW 2 (B ++ putsL (l.take k.1)).length]⟩ :: ⟨2, ty_uint8, 1, bC (B ++ putsL (l.take k.1))⟩ :: Y), [(0, OP 1 0), (6, SL (l.map nA)), (7, nA l.length), (8, nA k.1)]⟩) (fun k => l.length - k.1) (fun _ => r) ?_ ⟨0, Nat.zero_le _⟩ (by dsimp only; omega)
  rintro kx hkx ⟨k, hk⟩ kc hkc
  dsimp only at hkc ⊢
  have hlen := putsL_len (hl.take k)
  rw [List.length_take, Nat.min_eq_left hk] at hlen
  rw [wire_writer_nums_b1_eq]
  by_cases hlt : k < l.length
  · have hlt' : (k : Int) < (l.length : Int) := by omega
    obtain ⟨hv0, hv1⟩ := hl l[k] (List.getElem_mem hlt)
    have hp := put_len l[k].toNat (by omega)
    have hP := put_i m (Y.length + 3) l[k] hv0 (by omega)
    have hw : IntKind.u64.wrap l[k] = l[k] := by rw [w_u64 (by omega) (by omega)]
    have step := hkc ⟨k + 1, by omega⟩ (by dsimp only; omega)
    dsimp only at step
    rw [List.take_succ_eq_append_getElem hlt, putsL_append, putsL_cons, putsL_nil, List.append_nil, ← List.append_assoc] at step
    generalize putsL (l.take k) = B1 at hlen step ⊢
    have hs : B.length + B1.length + (put l[k].toNat).length ≤ 34359738368 := by omega
    have hY3 : Y.length ≤ Y.length + 1 := Nat.le_succ _
    simp only [List.length_append, bC_append] at step
    simp (config := {maxSteps := 4000000, implicitDefEqProofs := false}) (disch := omega) only [go_sem, ↓reduceIte, Nat.reduceAdd, Nat.reduceSub, Nat.reduceMul, Nat.reduceLeDiff, Nat.reduceLT, Int.reduceEq, Int.reduceNe, Int.reduceLT, Int.reduceLE, Int.reduceAdd, Int.reduceSub, Int.reduceMul, Int.reduceNeg, Int.reduceToNat, reduceCtorEq, Nat.reduceEqDiff, Nat.reduceBEq, Nat.reduceGT, hlt', hw, hP, hX, hY, hY2, hY3, hs, w_i64]
    exact step
  · have hlt' : ¬ (k : Int) < (l.length : Int) := by omega
    have hk2 : l.take k = l := List.take_of_length_le (by omega)
    rw [hk2] at hlen ⊢
    rw [hr']
    generalize putsL l = B1 at hlen ⊢
    simp (config := {maxSteps := 4000000, implicitDefEqProofs := false}) (disch := omega) only [go_sem, ↓reduceIte, Nat.reduceAdd, Nat.reduceSub, Nat.reduceMul, Nat.reduceLeDiff, Nat.reduceLT, Int.reduceEq, Int.reduceNe, Int.reduceLT, Int.reduceLE, Int.reduceAdd, Int.reduceSub, Int.reduceMul, Int.reduceNeg, Int.reduceToNat, reduceCtorEq, Nat.reduceEqDiff, Nat.reduceBEq, Nat.reduceGT, hlt', hkx, hX, hY, hY2]
theorem setL {o o' : AObj} {Y : List AObj} : (Y ++ [o]).set Y.length o' = Y ++ [o'] := by simp
def textB (s : List UInt8) : List UInt8 := put s.length ++ s
theorem putsL_one (n : Nat) : putsL [(n : Int)] = put n := by simp [putsL]
theorem ro_cl {H : List AObj} {fn : Fn} {i : Nat} : ro H (CL fn 1 [OP i 0]) = CL fn 1 [OP i 0] := _root_.id rfl
theorem text_s (m : Nat) (X : AObj) (B : List UInt8) (Y : List AObj) (s : List UInt8) (hX : ∀ n, ltO n X = true) (hY : ∀ n, Y.all (ltO n) = true) (hm : 70 < m) (hB : B.length + 10 + s.length ≤ 34359738368) :
    wire_writer_text m (OP 1 0) (sA s) (X :: ⟨1, ty_wire_writer, 0, [OW 2 B.length]⟩ :: ⟨2, ty_uint8, 1, bC B⟩ :: Y) = some (TU [], (X :: ⟨1, ty_wire_writer, 0, [OW 2 (B ++ textB s).length]⟩ :: ⟨2, ty_uint8, 1, bC (B ++ textB s)⟩ :: Y)) := by
  have hN := nums_s m X B Y [(s.length : Int)] hX hY (by intro v hv; simp at hv; omega) (by simp; omega) (by simp; omega)
  rw [putsL_one] at hN
  simp only [List.map_cons, List.map_nil, List.length_append, bC_append] at hN
  have hp := put_len s.length (by omega)
  have hY2 : 2 < Y.length + 1 + 1 + 1 := by omega
  have hs : B.length + ((put s.length).length + s.length) ≤ 34359738368 := by omega
  rw [wire_writer_text_eq]
  unfold textB
  simp (config := {maxSteps := 4000000, implicitDefEqProofs := false}) (disch := omega) only [go_sem, ↓reduceIte, Nat.reduceAdd, Nat.reduceSub, Nat.reduceMul, Nat.reduceLeDiff, Nat.reduceLT, Int.reduceEq, Int.reduceNe, Int.reduceLT, Int.reduceLE, Int.reduceAdd, Int.reduceSub, Int.reduceMul, Int.reduceNeg, Int.reduceToNat, reduceCtorEq, Nat.reduceEqDiff, Nat.reduceBEq, Nat.reduceGT, hN, hX, hY, hY2, hs, strA_of, List.append_assoc, Nat.add_assoc]
theorem smB_inI {x : Sm} (h : smB x = true) : inI [x.fr, x.kd, x.vw, x.sq, x.tm] := by
  unfold smB parB at h
  simp only [Bool.and_eq_true, decide_eq_true_eq, List.all_eq_true] at h
  obtain ⟨h1, h2⟩ := h
  intro v hv
  rcases List.mem_cons.1 hv with rfl | hv
  · omega
  · have := h2 v hv
    unfold numB at this
    simp only [Bool.and_eq_true, decide_eq_true_eq] at this
    omega
theorem all_inI {l : List Int} (h : l.all numB = true) : inI l := by
  intro v hv
  have := List.all_eq_true.1 h v hv
  unfold numB at this
  simp only [Bool.and_eq_true, decide_eq_true_eq] at this
  omega
def encSm (x : Sm) : List UInt8 := putsL [x.fr, x.kd, x.vw, x.sq, x.tm]
theorem encSm_len {x : Sm} (h : smB x = true) : (encSm x).length ≤ 50 := putsL_len (smB_inI h)
theorem wstmt_s (m : Nat) (X : AObj) (B : List UInt8) (Y : List AObj) (x : Sm) (hX : ∀ n, ltO n X = true) (hY : ∀ n, Y.all (ltO n) = true) (hx : smB x = true) (hm : 70 < m) (hB : B.length + 50 ≤ 34359738368) :
    wire_writer_stmt m (OP 1 0) (smE x) (X :: ⟨1, ty_wire_writer, 0, [OW 2 B.length]⟩ :: ⟨2, ty_uint8, 1, bC B⟩ :: Y) = some (TU [], (X :: ⟨1, ty_wire_writer, 0, [OW 2 (B ++ encSm x).length]⟩ :: ⟨2, ty_uint8, 1, bC (B ++ encSm x)⟩ :: Y)) := by
  have hN := nums_s m X B (Y ++ [⟨1, ty_api_Stmt, 0, smC x⟩]) [x.fr, x.kd, x.vw, x.sq, x.tm] hX (fun n => by rw [List.all_append, hY]; rfl) (smB_inI hx) (by simp; omega) (by simpa using hB)
  simp only [List.map_cons, List.map_nil, List.length_append, bC_append] at hN
  have hY2 : 2 < Y.length + 1 + 1 + 1 := by omega
  have hY3 : Y.length ≤ Y.length + 1 := Nat.le_succ _
  rw [wire_writer_stmt_eq, sm_it]
  unfold encSm
  simp (config := {maxSteps := 4000000, implicitDefEqProofs := false}) (disch := omega) only [go_sem, ↓reduceIte, Nat.reduceAdd, Nat.reduceSub, Nat.reduceMul, Nat.reduceLeDiff, Nat.reduceLT, Int.reduceEq, Int.reduceNe, Int.reduceLT, Int.reduceLE, Int.reduceAdd, Int.reduceSub, Int.reduceMul, Int.reduceNeg, Int.reduceToNat, reduceCtorEq, Nat.reduceEqDiff, Nat.reduceBEq, Nat.reduceGT, hN, hX, hY, hY2, hY3]
theorem stmt_t {m : Nat} {a b : AV} {H : List AObj} : wire_writer_stmt_t m [a, b] H = wire_writer_stmt m a b H := _root_.id rfl
theorem stmt_f {m : Nat} : findE (wire_each_Stmt_env m) 46 = some (.keep (wire_writer_stmt_t m)) := _root_.id rfl
def encStmts (l : List Sm) : List UInt8 := put l.length ++ l.flatMap encSm
theorem flatStmt_len : ∀ {l : List Sm}, l.all smB = true → (l.flatMap encSm).length ≤ 50 * l.length
  | [], _ => Nat.le_refl _
  | x :: r, h => by
    rw [List.all_cons, Bool.and_eq_true] at h
    have h1 := flatStmt_len h.2
    have h2 := encSm_len h.1
    rw [List.flatMap_cons, List.length_append, List.length_cons]; omega
theorem eachStmt_s (m : Nat) (X : AObj) (B : List UInt8) (Y : List AObj) (l : List Sm) (hX : ∀ n, ltO n X = true) (hY : ∀ n, Y.all (ltO n) = true) (hx : l.all smB = true) (h64 : l.length ≤ 64) (hm : 70 < m) (hB : B.length + 10 + 50 * l.length ≤ 34359738368) :
    wire_each_Stmt m (OP 1 0) (SL (l.map smE)) (CL (.func 46) 1 [OP 1 0]) (X :: ⟨1, ty_wire_writer, 0, [OW 2 B.length]⟩ :: ⟨2, ty_uint8, 1, bC B⟩ :: Y) = some (TU [], (X :: ⟨1, ty_wire_writer, 0, [OW 2 (B ++ encStmts l).length]⟩ :: ⟨2, ty_uint8, 1, bC (B ++ encStmts l)⟩ :: Y)) := by
  have hp := put_len l.length (by omega)
  obtain ⟨r, hr⟩ : ∃ r, r = some (TU [], (X :: ⟨1, ty_wire_writer, 0, [OW 2 (B ++ encStmts l).length]⟩ :: ⟨2, ty_uint8, 1, bC (B ++ encStmts l)⟩ :: Y)) := ⟨_, rfl⟩
  have hY2 : 2 < Y.length + 1 + 1 + 1 := by omega
  have hY3 : Y.length ≤ Y.length + 1 := Nat.le_succ _
  have hN := nums_s m X B Y [(l.length : Int)] hX hY (by intro v hv; simp at hv; omega) (by simp; omega) (by simp; omega)
  rw [putsL_one] at hN
  simp only [List.map_cons, List.map_nil] at hN
  rw [← hr, wire_each_Stmt_eq]
  rw [show put l.length = put l.length ++ (l.take 0).flatMap encSm by simp] at hN
  generalize hz : (l.take 0).flatMap encSm = Z at hN
  simp only [List.length_append, bC_append] at hN
  simp (config := {maxSteps := 4000000, implicitDefEqProofs := false}) (disch := omega) only [go_sem, ↓reduceIte, Nat.reduceAdd, Nat.reduceSub, Nat.reduceMul, Nat.reduceLeDiff, Nat.reduceLT, Int.reduceEq, Int.reduceNe, Int.reduceLT, Int.reduceLE, Int.reduceAdd, Int.reduceSub, Int.reduceMul, Int.reduceNeg, Int.reduceToNat, reduceCtorEq, Nat.reduceEqDiff, Nat.reduceBEq, Nat.reduceGT, hN]
  subst hz
  simp only [← bC_append, ← List.length_append]
  refine iter_go (ι := {k : Nat // k ≤ l.length}) (fun k => ⟨(X :: ⟨1, ty_wire_writer, 0, [OW 2 (B ++ (put l.length ++ (l.take k.1).flatMap encSm)).length]⟩ :: ⟨2, ty_uint8, 1, bC (B ++ (put l.length ++ (l.take k.1).flatMap encSm))⟩ :: Y), [(2, CL (.func 46) 1 [OP 1 0]), (13, SL (l.map smE)), (14, nA l.length), (15, nA k.1)]⟩) (fun k => l.length - k.1) (fun _ => r) ?_ ⟨0, Nat.zero_le _⟩ (by dsimp only; omega)
  rintro kx hkx ⟨k, hk⟩ kc hkc
  dsimp only at hkc ⊢
  rw [wire_each_Stmt_b1_eq]
  by_cases hlt : k < l.length
  · have hlt' : (k : Int) < (l.length : Int) := by omega
    have hv := List.all_eq_true.1 hx l[k] (List.getElem_mem hlt)
    have hlen := flatStmt_len (l := l.take k) (List.all_eq_true.2 fun y hy => List.all_eq_true.1 hx y (List.mem_of_mem_take hy))
    rw [List.length_take, Nat.min_eq_left hk] at hlen
    have step := hkc ⟨k + 1, by omega⟩ (by dsimp only; omega)
    dsimp only at step
    rw [List.take_succ_eq_append_getElem hlt, List.flatMap_append, List.flatMap_cons, List.flatMap_nil, List.append_nil] at step
    generalize (l.take k).flatMap encSm = B1 at hlen step ⊢
    have hV := wstmt_s m X (B ++ (put l.length ++ B1)) (Y ++ [⟨1, ty_api_Stmt, 0, smC l[k]⟩]) l[k] hX (fun n => by rw [List.all_append, hY]; rfl) hv hm (by simp only [List.length_append]; omega)
    rw [sm_it] at hV
    simp only [List.length_append, bC_append, List.append_assoc, Nat.add_assoc] at hV step
    simp (config := {maxSteps := 4000000, implicitDefEqProofs := false}) (disch := omega) only [go_sem, ↓reduceIte, Nat.reduceAdd, Nat.reduceSub, Nat.reduceMul, Nat.reduceLeDiff, Nat.reduceLT, Int.reduceEq, Int.reduceNe, Int.reduceLT, Int.reduceLE, Int.reduceAdd, Int.reduceSub, Int.reduceMul, Int.reduceNeg, Int.reduceToNat, reduceCtorEq, Nat.reduceEqDiff, Nat.reduceBEq, Nat.reduceGT, hlt', hV, hX, hY, hY2, hY3, w_i64, setL, stmt_t, stmt_f, List.append_assoc, Nat.add_assoc]
    exact step
  · have hlt' : ¬ (k : Int) < (l.length : Int) := by omega
    have hk2 : l.take k = l := List.take_of_length_le (by omega)
    rw [hk2, hr]
    unfold encStmts
    generalize l.flatMap encSm = B1
    simp (config := {maxSteps := 4000000, implicitDefEqProofs := false}) (disch := omega) only [go_sem, ↓reduceIte, Nat.reduceAdd, Nat.reduceSub, Nat.reduceMul, Nat.reduceLeDiff, Nat.reduceLT, Int.reduceEq, Int.reduceNe, Int.reduceLT, Int.reduceLE, Int.reduceAdd, Int.reduceSub, Int.reduceMul, Int.reduceNeg, Int.reduceToNat, reduceCtorEq, Nat.reduceEqDiff, Nat.reduceBEq, Nat.reduceGT, hlt', hkx, hX, hY, hY2]
theorem smsB_ok {l : List Sm} (h : smsB l = true) : l.length ≤ 64 ∧ l.all smB = true := by
  unfold smsB at h
  simpa [Bool.and_eq_true] using h
theorem textB_len (s : List UInt8) (h : s.length ≤ 65536) : (textB s).length ≤ 65546 := by
  have := put_len s.length (by omega)
  unfold textB; rw [List.length_append]; omega
theorem encStmts_len {l : List Sm} (h : smsB l = true) : (encStmts l).length ≤ 3210 := by
  obtain ⟨h1, h2⟩ := smsB_ok h
  have h3 := flatStmt_len h2
  have := put_len l.length (by omega)
  unfold encStmts; rw [List.length_append]; omega
theorem ceB_ok {x : Ce} (h : ceB x = true) : [x.sq, x.vw, x.tm].all numB = true ∧ x.body.length ≤ 65536 ∧ smsB x.vs = true := by
  unfold ceB at h
  rw [Bool.and_eq_true, Bool.and_eq_true, decide_eq_true_eq] at h
  exact h
def encCe (x : Ce) : List UInt8 := putsL [x.sq, x.vw, x.tm] ++ (textB x.body ++ encStmts x.vs)
theorem encCe_len {x : Ce} (h : ceB x = true) : (encCe x).length ≤ 70000 := by
  obtain ⟨h1, h2, h3⟩ := ceB_ok h
  have e1 := putsL_len (all_inI h1)
  have e2 := textB_len x.body h2
  have e3 := encStmts_len h3
  unfold encCe
  rw [List.length_append, List.length_append]
  simp only [List.length_cons, List.length_nil] at e1
  omega
theorem wcert_s (m : Nat) (X : AObj) (B : List UInt8) (Y : List AObj) (x : Ce) (hX : ∀ n, ltO n X = true) (hY : ∀ n, Y.all (ltO n) = true) (hx : ceB x = true) (hm : 70 < m) (hB : B.length + 70000 ≤ 34359738368) :
    wire_writer_cert m (OP 1 0) (ceE x) (X :: ⟨1, ty_wire_writer, 0, [OW 2 B.length]⟩ :: ⟨2, ty_uint8, 1, bC B⟩ :: Y) = some (TU [], (X :: ⟨1, ty_wire_writer, 0, [OW 2 (B ++ encCe x).length]⟩ :: ⟨2, ty_uint8, 1, bC (B ++ encCe x)⟩ :: Y)) := by
  obtain ⟨h1, h2, h3⟩ := ceB_ok hx
  obtain ⟨h4, h5⟩ := smsB_ok h3
  have e1 := putsL_len (all_inI h1)
  have e2 := textB_len x.body h2
  have e3 := encStmts_len h3
  simp only [List.length_cons, List.length_nil] at e1
  have hY' : ∀ n, (Y ++ [(⟨1, ty_api_Cert, 0, ceC x⟩ : AObj)]).all (ltO n) = true := fun n => by rw [List.all_append, hY]; rfl
  have hN := nums_s m X B (Y ++ [⟨1, ty_api_Cert, 0, ceC x⟩]) [x.sq, x.vw, x.tm] hX hY' (all_inI h1) (by simp; omega) (by simp; omega)
  have hT := text_s m X (B ++ putsL [x.sq, x.vw, x.tm]) (Y ++ [⟨1, ty_api_Cert, 0, ceC x⟩]) x.body hX hY' hm (by rw [List.length_append]; omega)
  have hE := eachStmt_s m X (B ++ putsL [x.sq, x.vw, x.tm] ++ textB x.body) (Y ++ [⟨1, ty_api_Cert, 0, ceC x⟩]) x.vs hX hY' h5 h4 hm (by rw [List.length_append, List.length_append]; omega)
  simp only [List.map_cons, List.map_nil, List.length_append, bC_append, List.append_assoc, Nat.add_assoc] at hN hT hE
  have hY2 : 2 < Y.length + 1 + 1 + 1 := by omega
  have hY3 : Y.length ≤ Y.length + 1 := Nat.le_succ _
  rw [wire_writer_cert_eq, ce_it]
  unfold encCe
  simp (config := {maxSteps := 4000000, implicitDefEqProofs := false}) (disch := omega) only [go_sem, ↓reduceIte, Nat.reduceAdd, Nat.reduceSub, Nat.reduceMul, Nat.reduceLeDiff, Nat.reduceLT, Int.reduceEq, Int.reduceNe, Int.reduceLT, Int.reduceLE, Int.reduceAdd, Int.reduceSub, Int.reduceMul, Int.reduceNeg, Int.reduceToNat, reduceCtorEq, Nat.reduceEqDiff, Nat.reduceBEq, Nat.reduceGT, hN, hT, hE, ro_cl, hX, hY, hY2, hY3, List.append_assoc, Nat.add_assoc]
theorem cert_t {m : Nat} {a b : AV} {H : List AObj} : wire_writer_cert_t m [a, b] H = wire_writer_cert m a b H := _root_.id rfl
theorem cert_f {m : Nat} : findE (wire_each_Cert_env m) 66 = some (.keep (wire_writer_cert_t m)) := _root_.id rfl
def encCerts (l : List Ce) : List UInt8 := put l.length ++ l.flatMap encCe
theorem flatCert_len : ∀ {l : List Ce}, l.all ceB = true → (l.flatMap encCe).length ≤ 70000 * l.length
  | [], _ => Nat.le_refl _
  | x :: r, h => by
    rw [List.all_cons, Bool.and_eq_true] at h
    have h1 := flatCert_len h.2
    have h2 := encCe_len h.1
    rw [List.flatMap_cons, List.length_append, List.length_cons]; omega
theorem eachCert_s (m : Nat) (X : AObj) (B : List UInt8) (Y : List AObj) (l : List Ce) (hX : ∀ n, ltO n X = true) (hY : ∀ n, Y.all (ltO n) = true) (hx : l.all ceB = true) (h64 : l.length ≤ 64) (hm : 70 < m) (hB : B.length + 10 + 70000 * l.length ≤ 34359738368) :
    wire_each_Cert m (OP 1 0) (SL (l.map ceE)) (CL (.func 66) 1 [OP 1 0]) (X :: ⟨1, ty_wire_writer, 0, [OW 2 B.length]⟩ :: ⟨2, ty_uint8, 1, bC B⟩ :: Y) = some (TU [], (X :: ⟨1, ty_wire_writer, 0, [OW 2 (B ++ encCerts l).length]⟩ :: ⟨2, ty_uint8, 1, bC (B ++ encCerts l)⟩ :: Y)) := by
  have hp := put_len l.length (by omega)
  obtain ⟨r, hr⟩ : ∃ r, r = some (TU [], (X :: ⟨1, ty_wire_writer, 0, [OW 2 (B ++ encCerts l).length]⟩ :: ⟨2, ty_uint8, 1, bC (B ++ encCerts l)⟩ :: Y)) := ⟨_, rfl⟩
  have hY2 : 2 < Y.length + 1 + 1 + 1 := by omega
  have hY3 : Y.length ≤ Y.length + 1 := Nat.le_succ _
  have hN := nums_s m X B Y [(l.length : Int)] hX hY (by intro v hv; simp at hv; omega) (by simp; omega) (by simp; omega)
  rw [putsL_one] at hN
  simp only [List.map_cons, List.map_nil] at hN
  rw [← hr, wire_each_Cert_eq]
  rw [show put l.length = put l.length ++ (l.take 0).flatMap encCe by simp] at hN
  generalize hz : (l.take 0).flatMap encCe = Z at hN
  simp only [List.length_append, bC_append] at hN
  simp (config := {maxSteps := 4000000, implicitDefEqProofs := false}) (disch := omega) only [go_sem, ↓reduceIte, Nat.reduceAdd, Nat.reduceSub, Nat.reduceMul, Nat.reduceLeDiff, Nat.reduceLT, Int.reduceEq, Int.reduceNe, Int.reduceLT, Int.reduceLE, Int.reduceAdd, Int.reduceSub, Int.reduceMul, Int.reduceNeg, Int.reduceToNat, reduceCtorEq, Nat.reduceEqDiff, Nat.reduceBEq, Nat.reduceGT, hN]
  subst hz
  simp only [← bC_append, ← List.length_append]
  refine iter_go (ι := {k : Nat // k ≤ l.length}) (fun k => ⟨(X :: ⟨1, ty_wire_writer, 0, [OW 2 (B ++ (put l.length ++ (l.take k.1).flatMap encCe)).length]⟩ :: ⟨2, ty_uint8, 1, bC (B ++ (put l.length ++ (l.take k.1).flatMap encCe))⟩ :: Y), [(2, CL (.func 66) 1 [OP 1 0]), (13, SL (l.map ceE)), (14, nA l.length), (15, nA k.1)]⟩) (fun k => l.length - k.1) (fun _ => r) ?_ ⟨0, Nat.zero_le _⟩ (by dsimp only; omega)
  rintro kx hkx ⟨k, hk⟩ kc hkc
  dsimp only at hkc ⊢
  rw [wire_each_Cert_b1_eq]
  by_cases hlt : k < l.length
  · have hlt' : (k : Int) < (l.length : Int) := by omega
    have hv := List.all_eq_true.1 hx l[k] (List.getElem_mem hlt)
    have hlen := flatCert_len (l := l.take k) (List.all_eq_true.2 fun y hy => List.all_eq_true.1 hx y (List.mem_of_mem_take hy))
    rw [List.length_take, Nat.min_eq_left hk] at hlen
    have step := hkc ⟨k + 1, by omega⟩ (by dsimp only; omega)
    dsimp only at step
    rw [List.take_succ_eq_append_getElem hlt, List.flatMap_append, List.flatMap_cons, List.flatMap_nil, List.append_nil] at step
    generalize (l.take k).flatMap encCe = B1 at hlen step ⊢
    have hV := wcert_s m X (B ++ (put l.length ++ B1)) (Y ++ [⟨1, ty_api_Cert, 0, ceC l[k]⟩]) l[k] hX (fun n => by rw [List.all_append, hY]; rfl) hv hm (by simp only [List.length_append]; omega)
    rw [ce_it] at hV
    simp only [List.length_append, bC_append, List.append_assoc, Nat.add_assoc] at hV step
    simp (config := {maxSteps := 4000000, implicitDefEqProofs := false}) (disch := omega) only [go_sem, ↓reduceIte, Nat.reduceAdd, Nat.reduceSub, Nat.reduceMul, Nat.reduceLeDiff, Nat.reduceLT, Int.reduceEq, Int.reduceNe, Int.reduceLT, Int.reduceLE, Int.reduceAdd, Int.reduceSub, Int.reduceMul, Int.reduceNeg, Int.reduceToNat, reduceCtorEq, Nat.reduceEqDiff, Nat.reduceBEq, Nat.reduceGT, hlt', hV, hX, hY, hY2, hY3, w_i64, setL, cert_t, cert_f, List.append_assoc, Nat.add_assoc]
    exact step
  · have hlt' : ¬ (k : Int) < (l.length : Int) := by omega
    have hk2 : l.take k = l := List.take_of_length_le (by omega)
    rw [hk2, hr]
    unfold encCerts
    generalize l.flatMap encCe = B1
    simp (config := {maxSteps := 4000000, implicitDefEqProofs := false}) (disch := omega) only [go_sem, ↓reduceIte, Nat.reduceAdd, Nat.reduceSub, Nat.reduceMul, Nat.reduceLeDiff, Nat.reduceLT, Int.reduceEq, Int.reduceNe, Int.reduceLT, Int.reduceLE, Int.reduceAdd, Int.reduceSub, Int.reduceMul, Int.reduceNeg, Int.reduceToNat, reduceCtorEq, Nat.reduceEqDiff, Nat.reduceBEq, Nat.reduceGT, hlt', hkx, hX, hY, hY2]
theorem cesB_ok {l : List Ce} (h : cesB l = true) : l.length ≤ 64 ∧ l.all ceB = true := by
  unfold cesB at h
  simpa [Bool.and_eq_true] using h
theorem encCerts_len {l : List Ce} (h : cesB l = true) : (encCerts l).length ≤ 4480010 := by
  obtain ⟨h1, h2⟩ := cesB_ok h
  have h3 := flatCert_len h2
  have := put_len l.length (by omega)
  unfold encCerts; rw [List.length_append]; omega
theorem cgB_ok {x : Ch} (h : cgB x = true) : parB x.fr = true ∧ [x.vw, x.st, x.rt].all numB = true ∧ smsB x.pf = true ∧ cesB x.cs = true := by
  unfold cgB at h
  rw [Bool.and_eq_true, Bool.and_eq_true, Bool.and_eq_true] at h
  exact h
theorem parB_num {v : Int} (h : parB v = true) : numB v = true := by
  unfold parB at h
  unfold numB
  simp only [Bool.and_eq_true, decide_eq_true_eq] at h ⊢
  omega
def encCg (x : Ch) : List UInt8 := putsL [x.fr, x.vw, x.st, x.rt] ++ (encStmts x.pf ++ encCerts x.cs)
theorem cgB_inI {x : Ch} (h : cgB x = true) : inI [x.fr, x.vw, x.st, x.rt] := by
  obtain ⟨h0, h1, _, _⟩ := cgB_ok h
  exact all_inI (by rw [List.all_cons, parB_num h0, h1]; rfl)
theorem encCg_len {x : Ch} (h : cgB x = true) : (encCg x).length ≤ 4500000 := by
  obtain ⟨h0, h1, h2, h3⟩ := cgB_ok h
  have e1 := putsL_len (cgB_inI h)
  have e2 := encStmts_len h2
  have e3 := encCerts_len h3
  unfold encCg
  rw [List.length_append, List.length_append]
  simp only [List.length_cons, List.length_nil] at e1
  omega
theorem wchange_s (m : Nat) (X : AObj) (B : List UInt8) (Y : List AObj) (x : Ch) (hX : ∀ n, ltO n X = true) (hY : ∀ n, Y.all (ltO n) = true) (hx : cgB x = true) (hm : 70 < m) (hB : B.length + 4500000 ≤ 34359738368) :
    wire_writer_change m (OP 1 0) (cgE x) (X :: ⟨1, ty_wire_writer, 0, [OW 2 B.length]⟩ :: ⟨2, ty_uint8, 1, bC B⟩ :: Y) = some (TU [], (X :: ⟨1, ty_wire_writer, 0, [OW 2 (B ++ encCg x).length]⟩ :: ⟨2, ty_uint8, 1, bC (B ++ encCg x)⟩ :: Y)) := by
  obtain ⟨h0, h1, h2, h3⟩ := cgB_ok hx
  obtain ⟨h4, h5⟩ := smsB_ok h2
  obtain ⟨h6, h7⟩ := cesB_ok h3
  have e1 := putsL_len (cgB_inI hx)
  have e2 := encStmts_len h2
  have e3 := encCerts_len h3
  simp only [List.length_cons, List.length_nil] at e1
  have hY' : ∀ n, (Y ++ [(⟨1, ty_api_Change, 0, cgC x⟩ : AObj)]).all (ltO n) = true := fun n => by rw [List.all_append, hY]; rfl
  have hN := nums_s m X B (Y ++ [⟨1, ty_api_Change, 0, cgC x⟩]) [x.fr, x.vw, x.st, x.rt] hX hY' (cgB_inI hx) (by simp; omega) (by simp; omega)
  have hT := eachStmt_s m X (B ++ putsL [x.fr, x.vw, x.st, x.rt]) (Y ++ [⟨1, ty_api_Change, 0, cgC x⟩]) x.pf hX hY' h5 h4 hm (by rw [List.length_append]; omega)
  have hE := eachCert_s m X (B ++ putsL [x.fr, x.vw, x.st, x.rt] ++ encStmts x.pf) (Y ++ [⟨1, ty_api_Change, 0, cgC x⟩]) x.cs hX hY' h7 h6 hm (by rw [List.length_append, List.length_append]; omega)
  simp only [List.map_cons, List.map_nil, List.length_append, bC_append, List.append_assoc, Nat.add_assoc] at hN hT hE
  have hY2 : 2 < Y.length + 1 + 1 + 1 := by omega
  have hY3 : Y.length ≤ Y.length + 1 := Nat.le_succ _
  rw [wire_writer_change_eq, cg_it]
  unfold encCg
  simp (config := {maxSteps := 4000000, implicitDefEqProofs := false}) (disch := omega) only [go_sem, ↓reduceIte, Nat.reduceAdd, Nat.reduceSub, Nat.reduceMul, Nat.reduceLeDiff, Nat.reduceLT, Int.reduceEq, Int.reduceNe, Int.reduceLT, Int.reduceLE, Int.reduceAdd, Int.reduceSub, Int.reduceMul, Int.reduceNeg, Int.reduceToNat, reduceCtorEq, Nat.reduceEqDiff, Nat.reduceBEq, Nat.reduceGT, hN, hT, hE, ro_cl, hX, hY, hY2, hY3, List.append_assoc, Nat.add_assoc]
theorem change_t {m : Nat} {a b : AV} {H : List AObj} : wire_writer_change_t m [a, b] H = wire_writer_change m a b H := _root_.id rfl
theorem change_f {m : Nat} : findE (wire_each_Change_env m) 48 = some (.keep (wire_writer_change_t m)) := _root_.id rfl
def encChanges (l : List Ch) : List UInt8 := put l.length ++ l.flatMap encCg
theorem flatChange_len : ∀ {l : List Ch}, l.all cgB = true → (l.flatMap encCg).length ≤ 4500000 * l.length
  | [], _ => Nat.le_refl _
  | x :: r, h => by
    rw [List.all_cons, Bool.and_eq_true] at h
    have h1 := flatChange_len h.2
    have h2 := encCg_len h.1
    rw [List.flatMap_cons, List.length_append, List.length_cons]; omega
theorem eachChange_s (m : Nat) (X : AObj) (B : List UInt8) (Y : List AObj) (l : List Ch) (hX : ∀ n, ltO n X = true) (hY : ∀ n, Y.all (ltO n) = true) (hx : l.all cgB = true) (h64 : l.length ≤ 64) (hm : 70 < m) (hB : B.length + 10 + 4500000 * l.length ≤ 34359738368) :
    wire_each_Change m (OP 1 0) (SL (l.map cgE)) (CL (.func 48) 1 [OP 1 0]) (X :: ⟨1, ty_wire_writer, 0, [OW 2 B.length]⟩ :: ⟨2, ty_uint8, 1, bC B⟩ :: Y) = some (TU [], (X :: ⟨1, ty_wire_writer, 0, [OW 2 (B ++ encChanges l).length]⟩ :: ⟨2, ty_uint8, 1, bC (B ++ encChanges l)⟩ :: Y)) := by
  have hp := put_len l.length (by omega)
  obtain ⟨r, hr⟩ : ∃ r, r = some (TU [], (X :: ⟨1, ty_wire_writer, 0, [OW 2 (B ++ encChanges l).length]⟩ :: ⟨2, ty_uint8, 1, bC (B ++ encChanges l)⟩ :: Y)) := ⟨_, rfl⟩
  have hY2 : 2 < Y.length + 1 + 1 + 1 := by omega
  have hY3 : Y.length ≤ Y.length + 1 := Nat.le_succ _
  have hN := nums_s m X B Y [(l.length : Int)] hX hY (by intro v hv; simp at hv; omega) (by simp; omega) (by simp; omega)
  rw [putsL_one] at hN
  simp only [List.map_cons, List.map_nil] at hN
  rw [← hr, wire_each_Change_eq]
  rw [show put l.length = put l.length ++ (l.take 0).flatMap encCg by simp] at hN
  generalize hz : (l.take 0).flatMap encCg = Z at hN
  simp only [List.length_append, bC_append] at hN
  simp (config := {maxSteps := 4000000, implicitDefEqProofs := false}) (disch := omega) only [go_sem, ↓reduceIte, Nat.reduceAdd, Nat.reduceSub, Nat.reduceMul, Nat.reduceLeDiff, Nat.reduceLT, Int.reduceEq, Int.reduceNe, Int.reduceLT, Int.reduceLE, Int.reduceAdd, Int.reduceSub, Int.reduceMul, Int.reduceNeg, Int.reduceToNat, reduceCtorEq, Nat.reduceEqDiff, Nat.reduceBEq, Nat.reduceGT, hN]
  subst hz
  simp only [← bC_append, ← List.length_append]
  refine iter_go (ι := {k : Nat // k ≤ l.length}) (fun k => ⟨(X :: ⟨1, ty_wire_writer, 0, [OW 2 (B ++ (put l.length ++ (l.take k.1).flatMap encCg)).length]⟩ :: ⟨2, ty_uint8, 1, bC (B ++ (put l.length ++ (l.take k.1).flatMap encCg))⟩ :: Y), [(2, CL (.func 48) 1 [OP 1 0]), (13, SL (l.map cgE)), (14, nA l.length), (15, nA k.1)]⟩) (fun k => l.length - k.1) (fun _ => r) ?_ ⟨0, Nat.zero_le _⟩ (by dsimp only; omega)
  rintro kx hkx ⟨k, hk⟩ kc hkc
  dsimp only at hkc ⊢
  rw [wire_each_Change_b1_eq]
  by_cases hlt : k < l.length
  · have hlt' : (k : Int) < (l.length : Int) := by omega
    have hv := List.all_eq_true.1 hx l[k] (List.getElem_mem hlt)
    have hlen := flatChange_len (l := l.take k) (List.all_eq_true.2 fun y hy => List.all_eq_true.1 hx y (List.mem_of_mem_take hy))
    rw [List.length_take, Nat.min_eq_left hk] at hlen
    have step := hkc ⟨k + 1, by omega⟩ (by dsimp only; omega)
    dsimp only at step
    rw [List.take_succ_eq_append_getElem hlt, List.flatMap_append, List.flatMap_cons, List.flatMap_nil, List.append_nil] at step
    generalize (l.take k).flatMap encCg = B1 at hlen step ⊢
    have hV := wchange_s m X (B ++ (put l.length ++ B1)) (Y ++ [⟨1, ty_api_Change, 0, cgC l[k]⟩]) l[k] hX (fun n => by rw [List.all_append, hY]; rfl) hv hm (by simp only [List.length_append]; omega)
    rw [cg_it] at hV
    simp only [List.length_append, bC_append, List.append_assoc, Nat.add_assoc] at hV step
    simp (config := {maxSteps := 4000000, implicitDefEqProofs := false}) (disch := omega) only [go_sem, ↓reduceIte, Nat.reduceAdd, Nat.reduceSub, Nat.reduceMul, Nat.reduceLeDiff, Nat.reduceLT, Int.reduceEq, Int.reduceNe, Int.reduceLT, Int.reduceLE, Int.reduceAdd, Int.reduceSub, Int.reduceMul, Int.reduceNeg, Int.reduceToNat, reduceCtorEq, Nat.reduceEqDiff, Nat.reduceBEq, Nat.reduceGT, hlt', hV, hX, hY, hY2, hY3, w_i64, setL, change_t, change_f, List.append_assoc, Nat.add_assoc]
    exact step
  · have hlt' : ¬ (k : Int) < (l.length : Int) := by omega
    have hk2 : l.take k = l := List.take_of_length_le (by omega)
    rw [hk2, hr]
    unfold encChanges
    generalize l.flatMap encCg = B1
    simp (config := {maxSteps := 4000000, implicitDefEqProofs := false}) (disch := omega) only [go_sem, ↓reduceIte, Nat.reduceAdd, Nat.reduceSub, Nat.reduceMul, Nat.reduceLeDiff, Nat.reduceLT, Int.reduceEq, Int.reduceNe, Int.reduceLT, Int.reduceLE, Int.reduceAdd, Int.reduceSub, Int.reduceMul, Int.reduceNeg, Int.reduceToNat, reduceCtorEq, Nat.reduceEqDiff, Nat.reduceBEq, Nat.reduceGT, hlt', hkx, hX, hY, hY2]
theorem cgsB_ok {l : List Ch} (h : cgsB l = true) : l.length ≤ 64 ∧ l.all cgB = true := by
  unfold cgsB at h
  simpa [Bool.and_eq_true] using h
theorem msB_ok {x : Ms} (h : msB x = true) : 1 ≤ x.kd ∧ x.kd ≤ 10 ∧ parB x.fr = true ∧ [x.vw, x.sq, x.tm].all numB = true ∧ x.body.length ≤ 65536 ∧ smsB x.vs = true ∧ cgsB x.chs = true := by
  unfold msB at h
  simp only [Bool.and_eq_true, decide_eq_true_eq] at h
  exact h
theorem msB_inI {x : Ms} (h : msB x = true) : inI [x.kd, x.fr, x.vw, x.sq, x.tm] := by
  obtain ⟨h0, h1, h2, h3, _⟩ := msB_ok h
  refine all_inI ?_
  rw [List.all_cons, List.all_cons, parB_num h2, h3]
  unfold numB
  rw [decide_eq_true (by omega), decide_eq_true (by omega)]
  rfl
def encMs (x : Ms) : List UInt8 := putsL [x.kd, x.fr, x.vw, x.sq, x.tm] ++ (textB x.body ++ (encStmts x.vs ++ encChanges x.chs))
theorem gh_it {X : AObj} {T : Tm} (h : get T 3 = OP 1 0) : ghS 3 0 ty_uint8 1 ⟨[X, ⟨1, ty_wire_writer, 0, [V (.slice none 0 0)]⟩], T⟩ = ⟨[X, ⟨1, ty_wire_writer, 0, [OW 2 0]⟩, ⟨2, ty_uint8, 1, []⟩], T⟩ := by
  unfold ghS
  rw [h]
  rfl
theorem zw_b {R : Type} {K1 : AV → Option R} : buildE (some pl_wire_writer) (some zc_wire_writer) [] K1 = K1 (.agg [V (.slice none 0 0)]) := _root_.id rfl
theorem encodeChange_s (m : Nat) (x : Ch) (hm : 70 < m) : wire_EncodeChange m (cgE x) = some (SL (bC (if cgB x = true then encCg x else [])), []) := by
  have hC := change_s m x hm
  rw [cg_it] at hC
  rw [wire_EncodeChange_eq, cg_it]
  cases h : cgB x with
  | false => rw [h] at hC; have hz : bC [] = [] := rfl; simp (config := {maxSteps := 4000000, implicitDefEqProofs := false}) (disch := omega) only [go_sem, ↓reduceIte, Nat.reduceAdd, Nat.reduceSub, Nat.reduceMul, Nat.reduceLeDiff, Nat.reduceLT, Int.reduceEq, Int.reduceNe, Int.reduceLT, Int.reduceLE, Int.reduceAdd, Int.reduceSub, Int.reduceMul, Int.reduceNeg, Int.reduceToNat, reduceCtorEq, Nat.reduceEqDiff, Nat.reduceBEq, Nat.reduceGT, hC, hz]
  | true =>
    rw [h] at hC
    have hW := wchange_s m ⟨1, ty_api_Change, 0, cgC x⟩ [] [] x (fun n => rfl) (fun n => rfl) h hm (by simp)
    rw [cg_it] at hW
    simp only [List.length_nil, List.nil_append, List.length_append] at hW
    have hz : bC [] = [] := rfl
    rw [hz] at hW
    simp (config := {maxSteps := 4000000, implicitDefEqProofs := false}) (disch := omega) only [go_sem, ↓reduceIte, Nat.reduceAdd, Nat.reduceSub, Nat.reduceMul, Nat.reduceLeDiff, Nat.reduceLT, Int.reduceEq, Int.reduceNe, Int.reduceLT, Int.reduceLE, Int.reduceAdd, Int.reduceSub, Int.reduceMul, Int.reduceNeg, Int.reduceToNat, reduceCtorEq, Nat.reduceEqDiff, Nat.reduceBEq, Nat.reduceGT, hC, zw_b]
    rw [gh_it (by rfl), wire_EncodeChange_r1_eq]
    simp (config := {maxSteps := 4000000, implicitDefEqProofs := false}) (disch := omega) only [go_sem, ↓reduceIte, Nat.reduceAdd, Nat.reduceSub, Nat.reduceMul, Nat.reduceLeDiff, Nat.reduceLT, Int.reduceEq, Int.reduceNe, Int.reduceLT, Int.reduceLE, Int.reduceAdd, Int.reduceSub, Int.reduceMul, Int.reduceNeg, Int.reduceToNat, reduceCtorEq, Nat.reduceEqDiff, Nat.reduceBEq, Nat.reduceGT, hW]
theorem encode_s (m : Nat) (x : Ms) (hm : 70 < m) : wire_Encode m (msE x) = some (SL (bC (if msB x = true then encMs x else [])), []) := by
  have hC := may_s m x hm
  rw [ms_it] at hC
  rw [wire_Encode_eq, ms_it]
  cases h : msB x with
  | false => rw [h] at hC; have hz : bC [] = [] := rfl; simp (config := {maxSteps := 4000000, implicitDefEqProofs := false}) (disch := omega) only [go_sem, ↓reduceIte, Nat.reduceAdd, Nat.reduceSub, Nat.reduceMul, Nat.reduceLeDiff, Nat.reduceLT, Int.reduceEq, Int.reduceNe, Int.reduceLT, Int.reduceLE, Int.reduceAdd, Int.reduceSub, Int.reduceMul, Int.reduceNeg, Int.reduceToNat, reduceCtorEq, Nat.reduceEqDiff, Nat.reduceBEq, Nat.reduceGT, hC, hz]
  | true =>
    rw [h] at hC
    obtain ⟨_, _, _, _, h2, h3, h4⟩ := msB_ok h
    obtain ⟨h5, h6⟩ := smsB_ok h3
    obtain ⟨h7, h8⟩ := cgsB_ok h4
    have e1 := putsL_len (msB_inI h)
    have e2 := textB_len x.body h2
    have e3 := encStmts_len h3
    simp only [List.length_cons, List.length_nil] at e1
    have hN := nums_s m ⟨1, ty_api_Msg, 0, msC x⟩ [] [] [x.kd, x.fr, x.vw, x.sq, x.tm] (fun n => rfl) (fun n => rfl) (msB_inI h) (by simp; omega) (by simp)
    have hT := text_s m ⟨1, ty_api_Msg, 0, msC x⟩ ([] ++ putsL [x.kd, x.fr, x.vw, x.sq, x.tm]) [] x.body (fun n => rfl) (fun n => rfl) hm (by rw [List.nil_append]; omega)
    have hE := eachStmt_s m ⟨1, ty_api_Msg, 0, msC x⟩ ([] ++ putsL [x.kd, x.fr, x.vw, x.sq, x.tm] ++ textB x.body) [] x.vs (fun n => rfl) (fun n => rfl) h6 h5 hm (by rw [List.nil_append, List.length_append]; omega)
    have hG := eachChange_s m ⟨1, ty_api_Msg, 0, msC x⟩ ([] ++ putsL [x.kd, x.fr, x.vw, x.sq, x.tm] ++ textB x.body ++ encStmts x.vs) [] x.chs (fun n => rfl) (fun n => rfl) h8 h7 hm (by rw [List.nil_append, List.length_append, List.length_append]; omega)
    have hz : bC [] = [] := rfl
    simp only [List.map_cons, List.map_nil, List.length_nil, List.nil_append, Nat.zero_add, hz, List.length_append, bC_append, List.append_assoc, Nat.add_assoc] at hN hT hE hG
    unfold encMs
    simp (config := {maxSteps := 4000000, implicitDefEqProofs := false}) (disch := omega) only [go_sem, ↓reduceIte, Nat.reduceAdd, Nat.reduceSub, Nat.reduceMul, Nat.reduceLeDiff, Nat.reduceLT, Int.reduceEq, Int.reduceNe, Int.reduceLT, Int.reduceLE, Int.reduceAdd, Int.reduceSub, Int.reduceMul, Int.reduceNeg, Int.reduceToNat, reduceCtorEq, Nat.reduceEqDiff, Nat.reduceBEq, Nat.reduceGT, hC, zw_b]
    rw [gh_it (by rfl), wire_Encode_r1_eq]
    simp (config := {maxSteps := 4000000, implicitDefEqProofs := false}) (disch := omega) only [go_sem, ↓reduceIte, Nat.reduceAdd, Nat.reduceSub, Nat.reduceMul, Nat.reduceLeDiff, Nat.reduceLT, Int.reduceEq, Int.reduceNe, Int.reduceLT, Int.reduceLE, Int.reduceAdd, Int.reduceSub, Int.reduceMul, Int.reduceNeg, Int.reduceToNat, reduceCtorEq, Nat.reduceEqDiff, Nat.reduceBEq, Nat.reduceGT, hN, hT, hE, hG, ro_cl, List.append_assoc, Nat.add_assoc]
end Go.Proofs.Ytbdbmfifclmpcaa

namespace Go.Proofs.Ytbdbmfifclmpcaa
open Go.RowKit
set_option linter.unusedVariables false
set_option linter.unusedSimpArgs false
set_option maxRecDepth 20000
attribute [local go_sem] Nat.zero_add Nat.add_zero Nat.mul_one Int.toNat_natCast Int.natCast_zero Int.cast_ofNat_Int or_false false_or or_true true_or Nat.sub_zero Int.natCast_nonneg Int.toNat_zero Bool.true_and Bool.and_true Bool.false_and Bool.and_false Bool.true_or Bool.or_true Bool.false_or Bool.or_false Bool.not_true Bool.not_false Bool.not_not true_and and_true false_and and_false not_true_eq_false not_false_eq_true eq_self decide_true decide_false ne_eq implies_true forall_const true_implies false_implies Bool.true_eq_false Bool.false_eq_true List.map_cons List.map_nil List.all_cons List.all_nil List.length_cons List.length_nil List.length_map List.length_append List.nil_append List.cons_append List.set_cons_zero List.set_cons_succ List.set_nil List.drop_zero List.drop_succ_cons List.drop_nil List.take_zero List.take_succ_cons List.take_nil Option.map_some Option.map_none Option.isSome_some List.all_append List.all_map Function.comp_def decide_eq_true_eq Bool.and_eq_true beq_self_eq_true or_self and_self ite_true ite_false Nat.le_refl Bool.not_eq_true decide_not Bool.not_eq_true' decide_eq_false_iff_not Bool.not_eq_false Bool.or_eq_true if_true if_false ite_self u_roF u_cvF u_cvC u_ceT u_ceK u_appS sm_it sm_len sm_sure sm_ltA sm_lt1 sm_all1 sm_ro sm_take sm_sl sm_set sm_noT sm_fr sm_st_fr sm_set_fr sm_kd sm_st_kd sm_set_kd sm_vw sm_st_vw sm_set_vw sm_sq sm_st_sq sm_set_sq sm_tm sm_st_tm sm_set_tm zsm_len zsm_sure zsm_lt1 zsm_sl zsm_ro zsm_setz zsm_set zsm_setr zsm_take sms_ltA sms_len ce_it ce_len ce_sure ce_ltA ce_lt1 ce_all1 ce_ro ce_take ce_sl ce_set ce_noT ce_sq ce_st_sq ce_set_sq ce_vw ce_st_vw ce_set_vw ce_tm ce_st_tm ce_set_tm ce_body ce_st_body ce_set_body ce_vs ce_st_vs ce_set_vs zce_len zce_sure zce_lt1 zce_sl zce_ro zce_setz zce_set zce_setr zce_take ces_ltA ces_len cg_it cg_len cg_sure cg_ltA cg_lt1 cg_all1 cg_ro cg_take cg_sl cg_set cg_noT cg_fr cg_st_fr cg_set_fr cg_vw cg_st_vw cg_set_vw cg_st cg_st_st cg_set_st cg_rt cg_st_rt cg_set_rt cg_pf cg_st_pf cg_set_pf cg_cs cg_st_cs cg_set_cs zcg_len zcg_sure zcg_lt1 zcg_sl zcg_ro zcg_setz zcg_set zcg_setr zcg_take cgs_ltA cgs_len ms_it ms_len ms_sure ms_ltA ms_lt1 ms_all1 ms_ro ms_take ms_sl ms_set ms_noT ms_kd ms_st_kd ms_set_kd ms_fr ms_st_fr ms_set_fr ms_vw ms_st_vw ms_set_vw ms_sq ms_st_sq ms_set_sq ms_tm ms_st_tm ms_set_tm ms_body ms_st_body ms_set_body ms_vs ms_st_vs ms_set_vs ms_chs ms_st_chs ms_set_chs zms_len zms_sure zms_lt1 zms_sl zms_ro zms_setz zms_set zms_setr zms_take mss_ltA mss_len natInt u_nthM u_bz u_bi1 u_bi2 u_bi3 u_bi4 u_bi5 u_bi6 u_bi7 bC_length bc_ltA bc_one nthOL ltO_o ltO_r takeL bC_append u_addS List.take_length
theorem in_s (m : Nat) (v : Int) : plenumref28_in m (nA v) (nA 63) = some (bA (parB v), []) := by
  rw [plenumref28_in_eq]
  unfold parB
  by_cases h1 : 0 ≤ v
  · simp (config := {maxSteps := 4000000, implicitDefEqProofs := false}) (disch := omega) only [go_sem, ↓reduceIte, Nat.reduceAdd, Nat.reduceSub, Nat.reduceMul, Nat.reduceLeDiff, Nat.reduceLT, Int.reduceEq, Int.reduceNe, Int.reduceLT, Int.reduceLE, Int.reduceAdd, Int.reduceSub, Int.reduceMul, Int.reduceNeg, Int.reduceToNat, reduceCtorEq, Nat.reduceEqDiff, Nat.reduceBEq, Nat.reduceGT, h1]
  · simp (config := {maxSteps := 4000000, implicitDefEqProofs := false}) (disch := omega) only [go_sem, ↓reduceIte, Nat.reduceAdd, Nat.reduceSub, Nat.reduceMul, Nat.reduceLeDiff, Nat.reduceLT, Int.reduceEq, Int.reduceNe, Int.reduceLT, Int.reduceLE, Int.reduceAdd, Int.reduceSub, Int.reduceMul, Int.reduceNeg, Int.reduceToNat, reduceCtorEq, Nat.reduceEqDiff, Nat.reduceBEq, Nat.reduceGT, h1]
theorem num_s (m : Nat) (v : Int) : plenumref28_num m (nA v) = some (bA (numB v), []) := by
  rw [plenumref28_num_eq, plenumref28_in_eq]
  unfold numB
  by_cases h1 : 0 ≤ v
  · simp (config := {maxSteps := 4000000, implicitDefEqProofs := false}) (disch := omega) only [go_sem, ↓reduceIte, Nat.reduceAdd, Nat.reduceSub, Nat.reduceMul, Nat.reduceLeDiff, Nat.reduceLT, Int.reduceEq, Int.reduceNe, Int.reduceLT, Int.reduceLE, Int.reduceAdd, Int.reduceSub, Int.reduceMul, Int.reduceNeg, Int.reduceToNat, reduceCtorEq, Nat.reduceEqDiff, Nat.reduceBEq, Nat.reduceGT, h1]
  · simp (config := {maxSteps := 4000000, implicitDefEqProofs := false}) (disch := omega) only [go_sem, ↓reduceIte, Nat.reduceAdd, Nat.reduceSub, Nat.reduceMul, Nat.reduceLeDiff, Nat.reduceLT, Int.reduceEq, Int.reduceNe, Int.reduceLT, Int.reduceLE, Int.reduceAdd, Int.reduceSub, Int.reduceMul, Int.reduceNeg, Int.reduceToNat, reduceCtorEq, Nat.reduceEqDiff, Nat.reduceBEq, Nat.reduceGT, h1]
theorem rstmts_s (m : Nat) (l : List Sm) (hm : l.length < m) (hl : l.length ≤ 34359738367) : plenumref28_stmts m (SL (l.map smE)) = some (bA (smsB l), []) := by
  rw [plenumref28_stmts_eq]
  simp (config := {maxSteps := 4000000, implicitDefEqProofs := false}) (disch := omega) only [go_sem, ↓reduceIte, Nat.reduceAdd, Nat.reduceSub, Nat.reduceMul, Nat.reduceLeDiff, Nat.reduceLT, Int.reduceEq, Int.reduceNe, Int.reduceLT, Int.reduceLE, Int.reduceAdd, Int.reduceSub, Int.reduceMul, Int.reduceNeg, Int.reduceToNat, reduceCtorEq, Nat.reduceEqDiff, Nat.reduceBEq, Nat.reduceGT]
  generalize hg : smsB l = g
  refine iter_go (ι := {k : Nat // k ≤ l.length ∧ (decide (l.length ≤ 64) && (l.drop k).all smB) = g}) (fun k => ⟨[], [(0, SL (l.map smE)), (3, nA k.1)]⟩) (fun k => l.length - k.1) (fun _ => some (bA g, [])) ?_ ⟨0, Nat.zero_le _, hg⟩ (by dsimp only; omega)
  rintro kx hkx ⟨k, hk, hG⟩ kc hkc
  dsimp only at hkc hG ⊢
  rw [plenumref28_stmts_b1_eq]
  by_cases hlt : k < l.length
  · have hlt' : (k : Int) < (l.length : Int) := by omega
    rw [List.drop_eq_getElem_cons hlt, List.all_cons] at hG
    have q0 := in_s m l[k].fr
    have q1 := num_s m l[k].kd
    have q2 := num_s m l[k].vw
    have q3 := num_s m l[k].sq
    have q4 := num_s m l[k].tm
    cases c0 : parB l[k].fr with
    | false =>
      rw [c0] at q0
      have e : smB l[k] = false := by simp [smB, c0]
      rw [e] at hG
      have hG2 : false = g := by rw [← hG]; simp
      subst hG2
      simp (config := {maxSteps := 4000000, implicitDefEqProofs := false}) (disch := omega) only [go_sem, ↓reduceIte, Nat.reduceAdd, Nat.reduceSub, Nat.reduceMul, Nat.reduceLeDiff, Nat.reduceLT, Int.reduceEq, Int.reduceNe, Int.reduceLT, Int.reduceLE, Int.reduceAdd, Int.reduceSub, Int.reduceMul, Int.reduceNeg, Int.reduceToNat, reduceCtorEq, Nat.reduceEqDiff, Nat.reduceBEq, Nat.reduceGT, hlt', q0, q1, q2, q3, q4, w_i64, hkx, plenumref28_stmts_r3_eq, plenumref28_stmts_r2_eq, plenumref28_stmts_r1_eq]
    | true =>
      rw [c0] at q0
      cases c1 : numB l[k].kd with
      | false =>
        rw [c1] at q1
        have e : smB l[k] = false := by simp [smB, c0, c1]
        rw [e] at hG
        have hG2 : false = g := by rw [← hG]; simp
        subst hG2
        simp (config := {maxSteps := 4000000, implicitDefEqProofs := false}) (disch := omega) only [go_sem, ↓reduceIte, Nat.reduceAdd, Nat.reduceSub, Nat.reduceMul, Nat.reduceLeDiff, Nat.reduceLT, Int.reduceEq, Int.reduceNe, Int.reduceLT, Int.reduceLE, Int.reduceAdd, Int.reduceSub, Int.reduceMul, Int.reduceNeg, Int.reduceToNat, reduceCtorEq, Nat.reduceEqDiff, Nat.reduceBEq, Nat.reduceGT, hlt', q0, q1, q2, q3, q4, w_i64, hkx, plenumref28_stmts_r3_eq, plenumref28_stmts_r2_eq, plenumref28_stmts_r1_eq]
      | true =>
        rw [c1] at q1
        cases c2 : numB l[k].vw with
        | false =>
          rw [c2] at q2
          have e : smB l[k] = false := by simp [smB, c0, c1, c2]
          rw [e] at hG
          have hG2 : false = g := by rw [← hG]; simp
          subst hG2
          simp (config := {maxSteps := 4000000, implicitDefEqProofs := false}) (disch := omega) only [go_sem, ↓reduceIte, Nat.reduceAdd, Nat.reduceSub, Nat.reduceMul, Nat.reduceLeDiff, Nat.reduceLT, Int.reduceEq, Int.reduceNe, Int.reduceLT, Int.reduceLE, Int.reduceAdd, Int.reduceSub, Int.reduceMul, Int.reduceNeg, Int.reduceToNat, reduceCtorEq, Nat.reduceEqDiff, Nat.reduceBEq, Nat.reduceGT, hlt', q0, q1, q2, q3, q4, w_i64, hkx, plenumref28_stmts_r3_eq, plenumref28_stmts_r2_eq, plenumref28_stmts_r1_eq]
        | true =>
          rw [c2] at q2
          cases c3 : numB l[k].sq with
          | false =>
            rw [c3] at q3
            have e : smB l[k] = false := by simp [smB, c0, c1, c2, c3]
            rw [e] at hG
            have hG2 : false = g := by rw [← hG]; simp
            subst hG2
            simp (config := {maxSteps := 4000000, implicitDefEqProofs := false}) (disch := omega) only [go_sem, ↓reduceIte, Nat.reduceAdd, Nat.reduceSub, Nat.reduceMul, Nat.reduceLeDiff, Nat.reduceLT, Int.reduceEq, Int.reduceNe, Int.reduceLT, Int.reduceLE, Int.reduceAdd, Int.reduceSub, Int.reduceMul, Int.reduceNeg, Int.reduceToNat, reduceCtorEq, Nat.reduceEqDiff, Nat.reduceBEq, Nat.reduceGT, hlt', q0, q1, q2, q3, q4, w_i64, hkx, plenumref28_stmts_r3_eq, plenumref28_stmts_r2_eq, plenumref28_stmts_r1_eq]
          | true =>
            rw [c3] at q3
            cases c4 : numB l[k].tm with
            | false =>
              rw [c4] at q4
              have e : smB l[k] = false := by simp [smB, c0, c1, c2, c3, c4]
              rw [e] at hG
              have hG2 : false = g := by rw [← hG]; simp
              subst hG2
              simp (config := {maxSteps := 4000000, implicitDefEqProofs := false}) (disch := omega) only [go_sem, ↓reduceIte, Nat.reduceAdd, Nat.reduceSub, Nat.reduceMul, Nat.reduceLeDiff, Nat.reduceLT, Int.reduceEq, Int.reduceNe, Int.reduceLT, Int.reduceLE, Int.reduceAdd, Int.reduceSub, Int.reduceMul, Int.reduceNeg, Int.reduceToNat, reduceCtorEq, Nat.reduceEqDiff, Nat.reduceBEq, Nat.reduceGT, hlt', q0, q1, q2, q3, q4, w_i64, hkx, plenumref28_stmts_r3_eq, plenumref28_stmts_r2_eq, plenumref28_stmts_r1_eq]
            | true =>
              rw [c4] at q4
              have e : smB l[k] = true := by simp [smB, c0, c1, c2, c3, c4]
              rw [e] at hG
              have step := hkc ⟨k + 1, by omega, hG⟩ (by dsimp only; omega)
              simp (config := {maxSteps := 4000000, implicitDefEqProofs := false}) (disch := omega) only [go_sem, ↓reduceIte, Nat.reduceAdd, Nat.reduceSub, Nat.reduceMul, Nat.reduceLeDiff, Nat.reduceLT, Int.reduceEq, Int.reduceNe, Int.reduceLT, Int.reduceLE, Int.reduceAdd, Int.reduceSub, Int.reduceMul, Int.reduceNeg, Int.reduceToNat, reduceCtorEq, Nat.reduceEqDiff, Nat.reduceBEq, Nat.reduceGT, hlt', q0, q1, q2, q3, q4, w_i64, plenumref28_stmts_r3_eq, plenumref28_stmts_r2_eq, plenumref28_stmts_r1_eq]
              exact step
  · have hlt' : ¬ (k : Int) < (l.length : Int) := by omega
    rw [List.drop_of_length_le (by omega)] at hG
    have hG2 : decide (l.length ≤ 64) = g := by rw [← hG]; simp
    subst hG2
    have e : decide ((l.length : Int) ≤ 64) = decide (l.length ≤ 64) := by apply decide_eq_decide.2; omega
    simp (config := {maxSteps := 4000000, implicitDefEqProofs := false}) (disch := omega) only [go_sem, ↓reduceIte, Nat.reduceAdd, Nat.reduceSub, Nat.reduceMul, Nat.reduceLeDiff, Nat.reduceLT, Int.reduceEq, Int.reduceNe, Int.reduceLT, Int.reduceLE, Int.reduceAdd, Int.reduceSub, Int.reduceMul, Int.reduceNeg, Int.reduceToNat, reduceCtorEq, Nat.reduceEqDiff, Nat.reduceBEq, Nat.reduceGT, hlt', e, hkx, plenumref28_stmts_r3_eq, plenumref28_stmts_r2_eq, plenumref28_stmts_r1_eq]
theorem rchange_s (m : Nat) (x : Ch) (hp : x.pf.length < m) (hp2 : x.pf.length ≤ 34359738367) (hc : x.cs.length < m) (hc2 : x.cs.length ≤ 34359738367) (hv : ∀ y ∈ x.cs, y.vs.length < m ∧ y.vs.length ≤ 34359738367) : plenumref28_Change m (cgE x) = some (bA (cgB x), []) := by
  have q0 := in_s m x.fr
  have q1 := num_s m x.vw
  have q2 := num_s m x.st
  have q3 := num_s m x.rt
  have q4 := rstmts_s m x.pf hp hp2
  have E : cgB x = (parB x.fr && ([x.vw, x.st, x.rt].all numB && (smsB x.pf && (decide (x.cs.length ≤ 64) && x.cs.all ceB)))) := rfl
  rw [plenumref28_Change_eq, cg_it]
  cases c0 : parB x.fr with
  | false =>
    rw [c0] at q0
    have e : cgB x = false := by simp [E, c0]
    rw [e]
    simp (config := {maxSteps := 4000000, implicitDefEqProofs := false}) (disch := omega) only [go_sem, ↓reduceIte, Nat.reduceAdd, Nat.reduceSub, Nat.reduceMul, Nat.reduceLeDiff, Nat.reduceLT, Int.reduceEq, Int.reduceNe, Int.reduceLT, Int.reduceLE, Int.reduceAdd, Int.reduceSub, Int.reduceMul, Int.reduceNeg, Int.reduceToNat, reduceCtorEq, Nat.reduceEqDiff, Nat.reduceBEq, Nat.reduceGT, q0, q1, q2, q3, q4, plenumref28_Change_r5_eq, plenumref28_Change_r4_eq, plenumref28_Change_r3_eq, plenumref28_Change_r2_eq, plenumref28_Change_r1_eq]
  | true =>
    rw [c0] at q0
    cases c1 : numB x.vw with
    | false =>
      rw [c1] at q1
      have e : cgB x = false := by simp [E, c0, c1]
      rw [e]
      simp (config := {maxSteps := 4000000, implicitDefEqProofs := false}) (disch := omega) only [go_sem, ↓reduceIte, Nat.reduceAdd, Nat.reduceSub, Nat.reduceMul, Nat.reduceLeDiff, Nat.reduceLT, Int.reduceEq, Int.reduceNe, Int.reduceLT, Int.reduceLE, Int.reduceAdd, Int.reduceSub, Int.reduceMul, Int.reduceNeg, Int.reduceToNat, reduceCtorEq, Nat.reduceEqDiff, Nat.reduceBEq, Nat.reduceGT, q0, q1, q2, q3, q4, plenumref28_Change_r5_eq, plenumref28_Change_r4_eq, plenumref28_Change_r3_eq, plenumref28_Change_r2_eq, plenumref28_Change_r1_eq]
    | true =>
      rw [c1] at q1
      cases c2 : numB x.st with
      | false =>
        rw [c2] at q2
        have e : cgB x = false := by simp [E, c0, c1, c2]
        rw [e]
        simp (config := {maxSteps := 4000000, implicitDefEqProofs := false}) (disch := omega) only [go_sem, ↓reduceIte, Nat.reduceAdd, Nat.reduceSub, Nat.reduceMul, Nat.reduceLeDiff, Nat.reduceLT, Int.reduceEq, Int.reduceNe, Int.reduceLT, Int.reduceLE, Int.reduceAdd, Int.reduceSub, Int.reduceMul, Int.reduceNeg, Int.reduceToNat, reduceCtorEq, Nat.reduceEqDiff, Nat.reduceBEq, Nat.reduceGT, q0, q1, q2, q3, q4, plenumref28_Change_r5_eq, plenumref28_Change_r4_eq, plenumref28_Change_r3_eq, plenumref28_Change_r2_eq, plenumref28_Change_r1_eq]
      | true =>
        rw [c2] at q2
        cases c3 : numB x.rt with
        | false =>
          rw [c3] at q3
          have e : cgB x = false := by simp [E, c0, c1, c2, c3]
          rw [e]
          simp (config := {maxSteps := 4000000, implicitDefEqProofs := false}) (disch := omega) only [go_sem, ↓reduceIte, Nat.reduceAdd, Nat.reduceSub, Nat.reduceMul, Nat.reduceLeDiff, Nat.reduceLT, Int.reduceEq, Int.reduceNe, Int.reduceLT, Int.reduceLE, Int.reduceAdd, Int.reduceSub, Int.reduceMul, Int.reduceNeg, Int.reduceToNat, reduceCtorEq, Nat.reduceEqDiff, Nat.reduceBEq, Nat.reduceGT, q0, q1, q2, q3, q4, plenumref28_Change_r5_eq, plenumref28_Change_r4_eq, plenumref28_Change_r3_eq, plenumref28_Change_r2_eq, plenumref28_Change_r1_eq]
        | true =>
          rw [c3] at q3
          cases c4 : smsB x.pf with
          | false =>
            rw [c4] at q4
            have e : cgB x = false := by simp [E, c0, c1, c2, c3, c4]
            rw [e]
            simp (config := {maxSteps := 4000000, implicitDefEqProofs := false}) (disch := omega) only [go_sem, ↓reduceIte, Nat.reduceAdd, Nat.reduceSub, Nat.reduceMul, Nat.reduceLeDiff, Nat.reduceLT, Int.reduceEq, Int.reduceNe, Int.reduceLT, Int.reduceLE, Int.reduceAdd, Int.reduceSub, Int.reduceMul, Int.reduceNeg, Int.reduceToNat, reduceCtorEq, Nat.reduceEqDiff, Nat.reduceBEq, Nat.reduceGT, q0, q1, q2, q3, q4, plenumref28_Change_r5_eq, plenumref28_Change_r4_eq, plenumref28_Change_r3_eq, plenumref28_Change_r2_eq, plenumref28_Change_r1_eq]
          | true =>
            rw [c4] at q4
            by_cases h64 : x.cs.length ≤ 64
            rotate_left
            · have h64' : (x.cs.length : Int) > 64 := by omega
              have e : cgB x = false := by rw [E, decide_eq_false h64]; simp
              rw [e]
              simp (config := {maxSteps := 4000000, implicitDefEqProofs := false}) (disch := omega) only [go_sem, ↓reduceIte, Nat.reduceAdd, Nat.reduceSub, Nat.reduceMul, Nat.reduceLeDiff, Nat.reduceLT, Int.reduceEq, Int.reduceNe, Int.reduceLT, Int.reduceLE, Int.reduceAdd, Int.reduceSub, Int.reduceMul, Int.reduceNeg, Int.reduceToNat, reduceCtorEq, Nat.reduceEqDiff, Nat.reduceBEq, Nat.reduceGT, q0, q1, q2, q3, q4, h64', plenumref28_Change_r5_eq, plenumref28_Change_r4_eq, plenumref28_Change_r3_eq, plenumref28_Change_r2_eq, plenumref28_Change_r1_eq]
            have h64' : ¬ (x.cs.length : Int) > 64 := by omega
            have e : cgB x = x.cs.all ceB := by rw [E, decide_eq_true h64]; simp [c0, c1, c2, c3, c4]
            rw [e]
            simp (config := {maxSteps := 4000000, implicitDefEqProofs := false}) (disch := omega) only [go_sem, ↓reduceIte, Nat.reduceAdd, Nat.reduceSub, Nat.reduceMul, Nat.reduceLeDiff, Nat.reduceLT, Int.reduceEq, Int.reduceNe, Int.reduceLT, Int.reduceLE, Int.reduceAdd, Int.reduceSub, Int.reduceMul, Int.reduceNeg, Int.reduceToNat, reduceCtorEq, Nat.reduceEqDiff, Nat.reduceBEq, Nat.reduceGT, q0, q1, q2, q3, q4, h64', plenumref28_Change_r5_eq, plenumref28_Change_r4_eq, plenumref28_Change_r3_eq, plenumref28_Change_r2_eq, plenumref28_Change_r1_eq]
            generalize hg : x.cs.all ceB = g
            refine iter_go (ι := {k : Nat // k ≤ x.cs.length ∧ (x.cs.drop k).all ceB = g}) (fun k => ⟨[⟨1, ty_api_Change, 0, cgC x⟩], [(1, OP 0 0), (3, nA k.1)]⟩) (fun k => x.cs.length - k.1) (fun _ => some (bA g, [])) ?_ ⟨0, Nat.zero_le _, hg⟩ (by dsimp only; omega)
            clear q0 q1 q2 q3 q4
            rintro kx hkx ⟨k, hk, hG⟩ kc hkc
            dsimp only at hkc hG ⊢
            rw [plenumref28_Change_b1_eq]
            by_cases hlt : k < x.cs.length
            rotate_left
            · have hlt' : ¬ (k : Int) < (x.cs.length : Int) := by omega
              rw [List.drop_of_length_le (by omega)] at hG
              have hG2 : true = g := hG
              subst hG2
              simp (config := {maxSteps := 4000000, implicitDefEqProofs := false}) (disch := omega) only [go_sem, ↓reduceIte, Nat.reduceAdd, Nat.reduceSub, Nat.reduceMul, Nat.reduceLeDiff, Nat.reduceLT, Int.reduceEq, Int.reduceNe, Int.reduceLT, Int.reduceLE, Int.reduceAdd, Int.reduceSub, Int.reduceMul, Int.reduceNeg, Int.reduceToNat, reduceCtorEq, Nat.reduceEqDiff, Nat.reduceBEq, Nat.reduceGT, hlt', hkx, plenumref28_Change_r5_eq, plenumref28_Change_r4_eq, plenumref28_Change_r3_eq, plenumref28_Change_r2_eq, plenumref28_Change_r1_eq]
            have hlt' : (k : Int) < (x.cs.length : Int) := by omega
            rw [List.drop_eq_getElem_cons hlt, List.all_cons] at hG
            obtain ⟨v1, v2⟩ := hv x.cs[k] (List.getElem_mem hlt)
            have q0 := num_s m x.cs[k].sq
            have q1 := num_s m x.cs[k].vw
            have q2 := num_s m x.cs[k].tm
            have q4 := rstmts_s m x.cs[k].vs v1 v2
            generalize hy : x.cs[k] = y at *
            cases d0 : numB y.sq with
            | false =>
              rw [d0] at q0
              have e : ceB y = false := by simp [ceB, d0]
              rw [e] at hG
              have hG2 : false = g := by rw [← hG]; simp
              subst hG2
              simp (config := {maxSteps := 4000000, implicitDefEqProofs := false}) (disch := omega) only [go_sem, ↓reduceIte, Nat.reduceAdd, Nat.reduceSub, Nat.reduceMul, Nat.reduceLeDiff, Nat.reduceLT, Int.reduceEq, Int.reduceNe, Int.reduceLT, Int.reduceLE, Int.reduceAdd, Int.reduceSub, Int.reduceMul, Int.reduceNeg, Int.reduceToNat, reduceCtorEq, Nat.reduceEqDiff, Nat.reduceBEq, Nat.reduceGT, hlt', hy, q0, q1, q2, q4, w_i64, hkx, plenumref28_Change_r5_eq, plenumref28_Change_r4_eq, plenumref28_Change_r3_eq, plenumref28_Change_r2_eq, plenumref28_Change_r1_eq]
            | true =>
              rw [d0] at q0
              cases d1 : numB y.vw with
              | false =>
                rw [d1] at q1
                have e : ceB y = false := by simp [ceB, d0, d1]
                rw [e] at hG
                have hG2 : false = g := by rw [← hG]; simp
                subst hG2
                simp (config := {maxSteps := 4000000, implicitDefEqProofs := false}) (disch := omega) only [go_sem, ↓reduceIte, Nat.reduceAdd, Nat.reduceSub, Nat.reduceMul, Nat.reduceLeDiff, Nat.reduceLT, Int.reduceEq, Int.reduceNe, Int.reduceLT, Int.reduceLE, Int.reduceAdd, Int.reduceSub, Int.reduceMul, Int.reduceNeg, Int.reduceToNat, reduceCtorEq, Nat.reduceEqDiff, Nat.reduceBEq, Nat.reduceGT, hlt', hy, q0, q1, q2, q4, w_i64, hkx, plenumref28_Change_r5_eq, plenumref28_Change_r4_eq, plenumref28_Change_r3_eq, plenumref28_Change_r2_eq, plenumref28_Change_r1_eq]
              | true =>
                rw [d1] at q1
                cases d2 : numB y.tm with
                | false =>
                  rw [d2] at q2
                  have e : ceB y = false := by simp [ceB, d0, d1, d2]
                  rw [e] at hG
                  have hG2 : false = g := by rw [← hG]; simp
                  subst hG2
                  simp (config := {maxSteps := 4000000, implicitDefEqProofs := false}) (disch := omega) only [go_sem, ↓reduceIte, Nat.reduceAdd, Nat.reduceSub, Nat.reduceMul, Nat.reduceLeDiff, Nat.reduceLT, Int.reduceEq, Int.reduceNe, Int.reduceLT, Int.reduceLE, Int.reduceAdd, Int.reduceSub, Int.reduceMul, Int.reduceNeg, Int.reduceToNat, reduceCtorEq, Nat.reduceEqDiff, Nat.reduceBEq, Nat.reduceGT, hlt', hy, q0, q1, q2, q4, w_i64, hkx, plenumref28_Change_r5_eq, plenumref28_Change_r4_eq, plenumref28_Change_r3_eq, plenumref28_Change_r2_eq, plenumref28_Change_r1_eq]
                | true =>
                  rw [d2] at q2
                  by_cases hb : y.body.length ≤ 65536
                  rotate_left
                  · have hb' : (y.body.length : Int) > 65536 := by omega
                    have e : ceB y = false := by simp [ceB, d0, d1, d2, hb]
                    rw [e] at hG
                    have hG2 : false = g := by rw [← hG]; simp
                    subst hG2
                    simp (config := {maxSteps := 4000000, implicitDefEqProofs := false}) (disch := omega) only [go_sem, ↓reduceIte, Nat.reduceAdd, Nat.reduceSub, Nat.reduceMul, Nat.reduceLeDiff, Nat.reduceLT, Int.reduceEq, Int.reduceNe, Int.reduceLT, Int.reduceLE, Int.reduceAdd, Int.reduceSub, Int.reduceMul, Int.reduceNeg, Int.reduceToNat, reduceCtorEq, Nat.reduceEqDiff, Nat.reduceBEq, Nat.reduceGT, hlt', hy, hb', q0, q1, q2, q4, w_i64, hkx, plenumref28_Change_r5_eq, plenumref28_Change_r4_eq, plenumref28_Change_r3_eq, plenumref28_Change_r2_eq, plenumref28_Change_r1_eq]
                  have hb' : ¬ (y.body.length : Int) > 65536 := by omega
                  cases d4 : smsB y.vs with
                  | false =>
                    rw [d4] at q4
                    have e : ceB y = false := by simp [ceB, d0, d1, d2, hb, d4]
                    rw [e] at hG
                    have hG2 : false = g := by rw [← hG]; simp
                    subst hG2
                    simp (config := {maxSteps := 4000000, implicitDefEqProofs := false}) (disch := omega) only [go_sem, ↓reduceIte, Nat.reduceAdd, Nat.reduceSub, Nat.reduceMul, Nat.reduceLeDiff, Nat.reduceLT, Int.reduceEq, Int.reduceNe, Int.reduceLT, Int.reduceLE, Int.reduceAdd, Int.reduceSub, Int.reduceMul, Int.reduceNeg, Int.reduceToNat, reduceCtorEq, Nat.reduceEqDiff, Nat.reduceBEq, Nat.reduceGT, hlt', hy, hb', q0, q1, q2, q4, w_i64, hkx, plenumref28_Change_r5_eq, plenumref28_Change_r4_eq, plenumref28_Change_r3_eq, plenumref28_Change_r2_eq, plenumref28_Change_r1_eq]
                  | true =>
                    rw [d4] at q4
                    have e : ceB y = true := by simp [ceB, d0, d1, d2, hb, d4]
                    rw [e] at hG
                    have step := hkc ⟨k + 1, by omega, hG⟩ (by dsimp only; omega)
                    simp (config := {maxSteps := 4000000, implicitDefEqProofs := false}) (disch := omega) only [go_sem, ↓reduceIte, Nat.reduceAdd, Nat.reduceSub, Nat.reduceMul, Nat.reduceLeDiff, Nat.reduceLT, Int.reduceEq, Int.reduceNe, Int.reduceLT, Int.reduceLE, Int.reduceAdd, Int.reduceSub, Int.reduceMul, Int.reduceNeg, Int.reduceToNat, reduceCtorEq, Nat.reduceEqDiff, Nat.reduceBEq, Nat.reduceGT, hlt', hy, hb', q0, q1, q2, q4, w_i64, plenumref28_Change_r5_eq, plenumref28_Change_r4_eq, plenumref28_Change_r3_eq, plenumref28_Change_r2_eq, plenumref28_Change_r1_eq]
                    exact step
def SzC (m : Nat) (x : Ch) : Prop := x.pf.length < m ∧ x.pf.length ≤ 34359738367 ∧ x.cs.length < m ∧ x.cs.length ≤ 34359738367 ∧ ∀ y ∈ x.cs, y.vs.length < m ∧ y.vs.length ≤ 34359738367
def SzM (m : Nat) (x : Ms) : Prop := x.vs.length < m ∧ x.vs.length ≤ 34359738367 ∧ x.chs.length < m ∧ x.chs.length ≤ 34359738367 ∧ ∀ y ∈ x.chs, SzC m y
theorem rmay_s (m : Nat) (x : Ms) (hz : SzM m x) : plenumref28_May m (msE x) = some (bA (msB x), []) := by
  obtain ⟨z1, z2, z3, z4, z5⟩ := hz
  have E : msB x = (decide (1 ≤ x.kd) && (decide (x.kd ≤ 10) && (parB x.fr && ([x.vw, x.sq, x.tm].all numB && (decide (x.body.length ≤ 65536) && (smsB x.vs && (decide (x.chs.length ≤ 64) && x.chs.all cgB))))))) := rfl
  rw [plenumref28_May_eq, ms_it]
  simp (config := {maxSteps := 4000000, implicitDefEqProofs := false}) (disch := omega) only [go_sem, ↓reduceIte, Nat.reduceAdd, Nat.reduceSub, Nat.reduceMul, Nat.reduceLeDiff, Nat.reduceLT, Int.reduceEq, Int.reduceNe, Int.reduceLT, Int.reduceLE, Int.reduceAdd, Int.reduceSub, Int.reduceMul, Int.reduceNeg, Int.reduceToNat, reduceCtorEq, Nat.reduceEqDiff, Nat.reduceBEq, Nat.reduceGT]
  generalize hg : msB x = g
  rw [E] at hg
  generalize hR : x.chs.all cgB = ga at hg
  refine iter_go (ι := {k : Nat // k ≤ x.chs.length ∧ (x.chs.drop k).all cgB = ga}) (fun k => ⟨[⟨1, ty_api_Msg, 0, msC x⟩], [(1, OP 0 0), (3, nA k.1)]⟩) (fun k => x.chs.length - k.1) (fun _ => some (bA g, [])) ?_ ⟨0, Nat.zero_le _, hR⟩ (by dsimp only; omega)
  clear hR
  rintro kx hkx ⟨k, hk, hG⟩ kc hkc
  dsimp only at hkc hG ⊢
  rw [plenumref28_May_b1_eq]
  by_cases hlt : k < x.chs.length
  · have hlt' : (k : Int) < (x.chs.length : Int) := by omega
    rw [List.drop_eq_getElem_cons hlt, List.all_cons] at hG
    obtain ⟨v1, v2, v3, v4, v5⟩ := z5 x.chs[k] (List.getElem_mem hlt)
    have hV := rchange_s m x.chs[k] v1 v2 v3 v4 v5
    rw [cg_it] at hV
    cases c : cgB x.chs[k] with
    | false =>
      rw [c] at hV hG
      have hG2 : false = ga := hG
      subst hG2
      have hg2 : false = g := by rw [← hg]; simp
      subst hg2
      simp (config := {maxSteps := 4000000, implicitDefEqProofs := false}) (disch := omega) only [go_sem, ↓reduceIte, Nat.reduceAdd, Nat.reduceSub, Nat.reduceMul, Nat.reduceLeDiff, Nat.reduceLT, Int.reduceEq, Int.reduceNe, Int.reduceLT, Int.reduceLE, Int.reduceAdd, Int.reduceSub, Int.reduceMul, Int.reduceNeg, Int.reduceToNat, reduceCtorEq, Nat.reduceEqDiff, Nat.reduceBEq, Nat.reduceGT, hlt', hV, w_i64, hkx, plenumref28_May_r1_eq]
    | true =>
      rw [c] at hV hG
      have step := hkc ⟨k + 1, by omega, hG⟩ (by dsimp only; omega)
      simp (config := {maxSteps := 4000000, implicitDefEqProofs := false}) (disch := omega) only [go_sem, ↓reduceIte, Nat.reduceAdd, Nat.reduceSub, Nat.reduceMul, Nat.reduceLeDiff, Nat.reduceLT, Int.reduceEq, Int.reduceNe, Int.reduceLT, Int.reduceLE, Int.reduceAdd, Int.reduceSub, Int.reduceMul, Int.reduceNeg, Int.reduceToNat, reduceCtorEq, Nat.reduceEqDiff, Nat.reduceBEq, Nat.reduceGT, hlt', hV, w_i64, plenumref28_May_r1_eq]
      exact step
  · have hlt' : ¬ (k : Int) < (x.chs.length : Int) := by omega
    rw [List.drop_of_length_le (by omega)] at hG
    have hG2 : true = ga := hG
    subst hG2
    clear hkc hG
    have q0 := in_s m x.fr
    have q1 := num_s m x.vw
    have q2 := num_s m x.sq
    have q3 := num_s m x.tm
    have q4 := rstmts_s m x.vs z1 z2
    by_cases k1 : 1 ≤ x.kd
    rotate_left
    · have hg2 : false = g := by rw [← hg]; simp [k1]
      subst hg2
      simp (config := {maxSteps := 4000000, implicitDefEqProofs := false}) (disch := omega) only [go_sem, ↓reduceIte, Nat.reduceAdd, Nat.reduceSub, Nat.reduceMul, Nat.reduceLeDiff, Nat.reduceLT, Int.reduceEq, Int.reduceNe, Int.reduceLT, Int.reduceLE, Int.reduceAdd, Int.reduceSub, Int.reduceMul, Int.reduceNeg, Int.reduceToNat, reduceCtorEq, Nat.reduceEqDiff, Nat.reduceBEq, Nat.reduceGT, hlt', k1, hkx, plenumref28_May_r1_eq]
    by_cases k2 : x.kd ≤ 10
    rotate_left
    · have hg2 : false = g := by rw [← hg]; simp [k2]
      subst hg2
      simp (config := {maxSteps := 4000000, implicitDefEqProofs := false}) (disch := omega) only [go_sem, ↓reduceIte, Nat.reduceAdd, Nat.reduceSub, Nat.reduceMul, Nat.reduceLeDiff, Nat.reduceLT, Int.reduceEq, Int.reduceNe, Int.reduceLT, Int.reduceLE, Int.reduceAdd, Int.reduceSub, Int.reduceMul, Int.reduceNeg, Int.reduceToNat, reduceCtorEq, Nat.reduceEqDiff, Nat.reduceBEq, Nat.reduceGT, hlt', k1, k2, hkx, plenumref28_May_r1_eq]
    cases c0 : parB x.fr with
    | false =>
      rw [c0] at q0
      have hg2 : false = g := by rw [← hg]; simp [c0]
      subst hg2
      simp (config := {maxSteps := 4000000, implicitDefEqProofs := false}) (disch := omega) only [go_sem, ↓reduceIte, Nat.reduceAdd, Nat.reduceSub, Nat.reduceMul, Nat.reduceLeDiff, Nat.reduceLT, Int.reduceEq, Int.reduceNe, Int.reduceLT, Int.reduceLE, Int.reduceAdd, Int.reduceSub, Int.reduceMul, Int.reduceNeg, Int.reduceToNat, reduceCtorEq, Nat.reduceEqDiff, Nat.reduceBEq, Nat.reduceGT, hlt', k1, k2, q0, q1, q2, q3, hkx, plenumref28_May_r1_eq]
    | true =>
      rw [c0] at q0
      cases c1 : numB x.vw with
      | false =>
        rw [c1] at q1
        have hg2 : false = g := by rw [← hg]; simp [c0, c1]
        subst hg2
        simp (config := {maxSteps := 4000000, implicitDefEqProofs := false}) (disch := omega) only [go_sem, ↓reduceIte, Nat.reduceAdd, Nat.reduceSub, Nat.reduceMul, Nat.reduceLeDiff, Nat.reduceLT, Int.reduceEq, Int.reduceNe, Int.reduceLT, Int.reduceLE, Int.reduceAdd, Int.reduceSub, Int.reduceMul, Int.reduceNeg, Int.reduceToNat, reduceCtorEq, Nat.reduceEqDiff, Nat.reduceBEq, Nat.reduceGT, hlt', k1, k2, q0, q1, q2, q3, hkx, plenumref28_May_r1_eq]
      | true =>
        rw [c1] at q1
        cases c2 : numB x.sq with
        | false =>
          rw [c2] at q2
          have hg2 : false = g := by rw [← hg]; simp [c0, c1, c2]
          subst hg2
          simp (config := {maxSteps := 4000000, implicitDefEqProofs := false}) (disch := omega) only [go_sem, ↓reduceIte, Nat.reduceAdd, Nat.reduceSub, Nat.reduceMul, Nat.reduceLeDiff, Nat.reduceLT, Int.reduceEq, Int.reduceNe, Int.reduceLT, Int.reduceLE, Int.reduceAdd, Int.reduceSub, Int.reduceMul, Int.reduceNeg, Int.reduceToNat, reduceCtorEq, Nat.reduceEqDiff, Nat.reduceBEq, Nat.reduceGT, hlt', k1, k2, q0, q1, q2, q3, hkx, plenumref28_May_r1_eq]
        | true =>
          rw [c2] at q2
          cases c3 : numB x.tm with
          | false =>
            rw [c3] at q3
            have hg2 : false = g := by rw [← hg]; simp [c0, c1, c2, c3]
            subst hg2
            simp (config := {maxSteps := 4000000, implicitDefEqProofs := false}) (disch := omega) only [go_sem, ↓reduceIte, Nat.reduceAdd, Nat.reduceSub, Nat.reduceMul, Nat.reduceLeDiff, Nat.reduceLT, Int.reduceEq, Int.reduceNe, Int.reduceLT, Int.reduceLE, Int.reduceAdd, Int.reduceSub, Int.reduceMul, Int.reduceNeg, Int.reduceToNat, reduceCtorEq, Nat.reduceEqDiff, Nat.reduceBEq, Nat.reduceGT, hlt', k1, k2, q0, q1, q2, q3, hkx, plenumref28_May_r1_eq]
          | true =>
            rw [c3] at q3
            by_cases hb : x.body.length ≤ 65536
            rotate_left
            · have hb' : ¬ (x.body.length : Int) ≤ 65536 := by omega
              have hg2 : false = g := by rw [← hg]; simp [hb]
              subst hg2
              simp (config := {maxSteps := 4000000, implicitDefEqProofs := false}) (disch := omega) only [go_sem, ↓reduceIte, Nat.reduceAdd, Nat.reduceSub, Nat.reduceMul, Nat.reduceLeDiff, Nat.reduceLT, Int.reduceEq, Int.reduceNe, Int.reduceLT, Int.reduceLE, Int.reduceAdd, Int.reduceSub, Int.reduceMul, Int.reduceNeg, Int.reduceToNat, reduceCtorEq, Nat.reduceEqDiff, Nat.reduceBEq, Nat.reduceGT, hlt', k1, k2, q0, q1, q2, q3, hb', hkx, plenumref28_May_r1_eq]
            have hb' : (x.body.length : Int) ≤ 65536 := by omega
            cases d4 : smsB x.vs with
            | false =>
              rw [d4] at q4
              have hg2 : false = g := by rw [← hg]; simp [d4]
              subst hg2
              simp (config := {maxSteps := 4000000, implicitDefEqProofs := false}) (disch := omega) only [go_sem, ↓reduceIte, Nat.reduceAdd, Nat.reduceSub, Nat.reduceMul, Nat.reduceLeDiff, Nat.reduceLT, Int.reduceEq, Int.reduceNe, Int.reduceLT, Int.reduceLE, Int.reduceAdd, Int.reduceSub, Int.reduceMul, Int.reduceNeg, Int.reduceToNat, reduceCtorEq, Nat.reduceEqDiff, Nat.reduceBEq, Nat.reduceGT, hlt', k1, k2, q0, q1, q2, q3, q4, hb', hkx, plenumref28_May_r1_eq]
            | true =>
              rw [d4] at q4
              have hg2 : decide (x.chs.length ≤ 64) = g := by rw [← hg]; simp [k1, k2, c0, c1, c2, c3, hb, d4]
              subst hg2
              have e : decide ((x.chs.length : Int) ≤ 64) = decide (x.chs.length ≤ 64) := by apply decide_eq_decide.2; omega
              simp (config := {maxSteps := 4000000, implicitDefEqProofs := false}) (disch := omega) only [go_sem, ↓reduceIte, Nat.reduceAdd, Nat.reduceSub, Nat.reduceMul, Nat.reduceLeDiff, Nat.reduceLT, Int.reduceEq, Int.reduceNe, Int.reduceLT, Int.reduceLE, Int.reduceAdd, Int.reduceSub, Int.reduceMul, Int.reduceNeg, Int.reduceToNat, reduceCtorEq, Nat.reduceEqDiff, Nat.reduceBEq, Nat.reduceGT, hlt', k1, k2, q0, q1, q2, q3, q4, hb', e, hkx, plenumref28_May_r1_eq]
end Go.Proofs.Ytbdbmfifclmpcaa

namespace Go.Proofs.Ytbdbmfifclmpcaa
open Go.RowKit
set_option linter.unusedVariables false
set_option linter.unusedSimpArgs false
set_option maxRecDepth 20000
attribute [local go_sem] Nat.zero_add Nat.add_zero Nat.mul_one Int.toNat_natCast Int.natCast_zero Int.cast_ofNat_Int or_false false_or or_true true_or Nat.sub_zero Int.natCast_nonneg Int.toNat_zero Bool.true_and Bool.and_true Bool.false_and Bool.and_false Bool.true_or Bool.or_true Bool.false_or Bool.or_false Bool.not_true Bool.not_false Bool.not_not true_and and_true false_and and_false not_true_eq_false not_false_eq_true eq_self decide_true decide_false ne_eq implies_true forall_const true_implies false_implies Bool.true_eq_false Bool.false_eq_true List.map_cons List.map_nil List.all_cons List.all_nil List.length_cons List.length_nil List.length_map List.length_append List.nil_append List.cons_append List.set_cons_zero List.set_cons_succ List.set_nil List.drop_zero List.drop_succ_cons List.drop_nil List.take_zero List.take_succ_cons List.take_nil Option.map_some Option.map_none Option.isSome_some List.all_append List.all_map Function.comp_def decide_eq_true_eq Bool.and_eq_true beq_self_eq_true or_self and_self ite_true ite_false Nat.le_refl Bool.not_eq_true decide_not Bool.not_eq_true' decide_eq_false_iff_not Bool.not_eq_false Bool.or_eq_true if_true if_false ite_self u_roF u_cvF u_cvC u_ceT u_ceK u_appS sm_it sm_len sm_sure sm_ltA sm_lt1 sm_all1 sm_ro sm_take sm_sl sm_set sm_noT sm_fr sm_st_fr sm_set_fr sm_kd sm_st_kd sm_set_kd sm_vw sm_st_vw sm_set_vw sm_sq sm_st_sq sm_set_sq sm_tm sm_st_tm sm_set_tm zsm_len zsm_sure zsm_lt1 zsm_sl zsm_ro zsm_setz zsm_set zsm_setr zsm_take sms_ltA sms_len ce_it ce_len ce_sure ce_ltA ce_lt1 ce_all1 ce_ro ce_take ce_sl ce_set ce_noT ce_sq ce_st_sq ce_set_sq ce_vw ce_st_vw ce_set_vw ce_tm ce_st_tm ce_set_tm ce_body ce_st_body ce_set_body ce_vs ce_st_vs ce_set_vs zce_len zce_sure zce_lt1 zce_sl zce_ro zce_setz zce_set zce_setr zce_take ces_ltA ces_len cg_it cg_len cg_sure cg_ltA cg_lt1 cg_all1 cg_ro cg_take cg_sl cg_set cg_noT cg_fr cg_st_fr cg_set_fr cg_vw cg_st_vw cg_set_vw cg_st cg_st_st cg_set_st cg_rt cg_st_rt cg_set_rt cg_pf cg_st_pf cg_set_pf cg_cs cg_st_cs cg_set_cs zcg_len zcg_sure zcg_lt1 zcg_sl zcg_ro zcg_setz zcg_set zcg_setr zcg_take cgs_ltA cgs_len ms_it ms_len ms_sure ms_ltA ms_lt1 ms_all1 ms_ro ms_take ms_sl ms_set ms_noT ms_kd ms_st_kd ms_set_kd ms_fr ms_st_fr ms_set_fr ms_vw ms_st_vw ms_set_vw ms_sq ms_st_sq ms_set_sq ms_tm ms_st_tm ms_set_tm ms_body ms_st_body ms_set_body ms_vs ms_st_vs ms_set_vs ms_chs ms_st_chs ms_set_chs zms_len zms_sure zms_lt1 zms_sl zms_ro zms_setz zms_set zms_setr zms_take mss_ltA mss_len natInt u_nthM u_bz u_bi1 u_bi2 u_bi3 u_bi4 u_bi5 u_bi6 u_bi7 bC_length bc_ltA bc_one nthOL ltO_o ltO_r takeL bC_append u_addS List.take_length
theorem rput_i (m : Nat) (v : Int) (h0 : 0 ≤ v) (h1 : v < 18446744073709551616) : plenumref01_Put_t m [V (.int .u64 v)] = some (sA (put v.toNat), []) := by
  have := plenumref01_Put_e m v.toNat (by omega)
  rw [Int.toNat_of_nonneg h0] at this
  exact this
theorem rputs_s (m : Nat) (l : List Int) (hl : inI l) (hm : l.length < m) (hm2 : l.length ≤ 1000) : plenumref28_put m (SL (l.map nA)) = some (sA (putsL l), []) := by
  rw [plenumref28_put_eq]
  refine iter_go (ι := {k : Nat // k ≤ l.length}) (fun k => ⟨[], [(0, SL (l.map nA)), (3, sA (putsL (l.take k.1))), (4, nA k.1)]⟩) (fun k => l.length - k.1) (fun _ => some (sA (putsL l), [])) ?_ ⟨0, Nat.zero_le _⟩ (by dsimp only; omega)
  rintro kx hkx ⟨k, hk⟩ kc hkc
  dsimp only at hkc ⊢
  have hlen := putsL_len (hl.take k)
  rw [List.length_take, Nat.min_eq_left hk] at hlen
  rw [plenumref28_put_b1_eq]
  by_cases hlt : k < l.length
  · have hlt' : (k : Int) < (l.length : Int) := by omega
    obtain ⟨hv0, hv1⟩ := hl l[k] (List.getElem_mem hlt)
    have hp := put_len l[k].toNat (by omega)
    have hP := rput_i m l[k] hv0 (by omega)
    have hw : IntKind.u64.wrap l[k] = l[k] := by rw [w_u64 (by omega) (by omega)]
    have step := hkc ⟨k + 1, by omega⟩ (by dsimp only; omega)
    dsimp only at step
    rw [List.take_succ_eq_append_getElem hlt, putsL_append, putsL_cons, putsL_nil, List.append_nil] at step
    generalize putsL (l.take k) = B1 at hlen step ⊢
    have hs : ((B1.length + (put l[k].toNat).length : Nat) : Int) ≤ 9223372036854775807 := by omega
    simp (config := {maxSteps := 4000000, implicitDefEqProofs := false}) (disch := omega) only [go_sem, ↓reduceIte, Nat.reduceAdd, Nat.reduceSub, Nat.reduceMul, Nat.reduceLeDiff, Nat.reduceLT, Int.reduceEq, Int.reduceNe, Int.reduceLT, Int.reduceLE, Int.reduceAdd, Int.reduceSub, Int.reduceMul, Int.reduceNeg, Int.reduceToNat, reduceCtorEq, Nat.reduceEqDiff, Nat.reduceBEq, Nat.reduceGT, hlt', hw, hP, hs, w_i64]
    exact step
  · have hlt' : ¬ (k : Int) < (l.length : Int) := by omega
    have hk2 : l.take k = l := List.take_of_length_le (by omega)
    rw [hk2] at hlen ⊢
    simp (config := {maxSteps := 4000000, implicitDefEqProofs := false}) (disch := omega) only [go_sem, ↓reduceIte, Nat.reduceAdd, Nat.reduceSub, Nat.reduceMul, Nat.reduceLeDiff, Nat.reduceLT, Int.reduceEq, Int.reduceNe, Int.reduceLT, Int.reduceLE, Int.reduceAdd, Int.reduceSub, Int.reduceMul, Int.reduceNeg, Int.reduceToNat, reduceCtorEq, Nat.reduceEqDiff, Nat.reduceBEq, Nat.reduceGT, hlt', hkx, plenumref28_put_r1_eq]
theorem rvoices_s (m : Nat) (l : List Sm) (h : smsB l = true) (hm : 70 < m) : plenumref28_voices m (SL (l.map smE)) = some (sA (encStmts l), []) := by
  obtain ⟨h64, hx⟩ := smsB_ok h
  have hN := rputs_s m [(l.length : Int)] (by intro v hv; simp at hv; omega) (by simp; omega) (by simp)
  rw [putsL_one] at hN
  simp only [List.map_cons, List.map_nil] at hN
  have hp := put_len l.length (by omega)
  rw [plenumref28_voices_eq]
  rw [show put l.length = put l.length ++ (l.take 0).flatMap encSm by simp] at hN
  simp (config := {maxSteps := 4000000, implicitDefEqProofs := false}) (disch := omega) only [go_sem, ↓reduceIte, Nat.reduceAdd, Nat.reduceSub, Nat.reduceMul, Nat.reduceLeDiff, Nat.reduceLT, Int.reduceEq, Int.reduceNe, Int.reduceLT, Int.reduceLE, Int.reduceAdd, Int.reduceSub, Int.reduceMul, Int.reduceNeg, Int.reduceToNat, reduceCtorEq, Nat.reduceEqDiff, Nat.reduceBEq, Nat.reduceGT, hN]
  refine iter_go (ι := {k : Nat // k ≤ l.length}) (fun k => ⟨[], [(0, SL (l.map smE)), (3, sA (put l.length ++ (l.take k.1).flatMap encSm)), (4, nA k.1)]⟩) (fun k => l.length - k.1) (fun _ => some (sA (encStmts l), [])) ?_ ⟨0, Nat.zero_le _⟩ (by dsimp only; omega)
  rintro kx hkx ⟨k, hk⟩ kc hkc
  dsimp only at hkc ⊢
  rw [plenumref28_voices_b1_eq]
  by_cases hlt : k < l.length
  · have hlt' : (k : Int) < (l.length : Int) := by omega
    have hv := List.all_eq_true.1 hx l[k] (List.getElem_mem hlt)
    have hlen := flatStmt_len (l := l.take k) (List.all_eq_true.2 fun y hy => List.all_eq_true.1 hx y (List.mem_of_mem_take hy))
    rw [List.length_take, Nat.min_eq_left hk] at hlen
    have step := hkc ⟨k + 1, by omega⟩ (by dsimp only; omega)
    dsimp only at step
    rw [List.take_succ_eq_append_getElem hlt, List.flatMap_append, List.flatMap_cons, List.flatMap_nil, List.append_nil, ← List.append_assoc] at step
    generalize (l.take k).flatMap encSm = B1 at hlen step ⊢
    have hV := rputs_s m [l[k].fr, l[k].kd, l[k].vw, l[k].sq, l[k].tm] (smB_inI hv) (by simp; omega) (by simp)
    have hV2 := encSm_len hv
    change plenumref28_put m _ = some (sA (encSm l[k]), []) at hV
    simp only [List.map_cons, List.map_nil] at hV
    generalize encSm l[k] = E at hV hV2 step
    have hs : (((put l.length).length + B1.length + E.length : Nat) : Int) ≤ 9223372036854775807 := by omega
    simp (config := {maxSteps := 4000000, implicitDefEqProofs := false}) (disch := omega) only [go_sem, ↓reduceIte, Nat.reduceAdd, Nat.reduceSub, Nat.reduceMul, Nat.reduceLeDiff, Nat.reduceLT, Int.reduceEq, Int.reduceNe, Int.reduceLT, Int.reduceLE, Int.reduceAdd, Int.reduceSub, Int.reduceMul, Int.reduceNeg, Int.reduceToNat, reduceCtorEq, Nat.reduceEqDiff, Nat.reduceBEq, Nat.reduceGT, hlt', hV, hs, w_i64]
    exact step
  · have hlt' : ¬ (k : Int) < (l.length : Int) := by omega
    have hk2 : l.take k = l := List.take_of_length_le (by omega)
    rw [hk2]
    unfold encStmts
    simp (config := {maxSteps := 4000000, implicitDefEqProofs := false}) (disch := omega) only [go_sem, ↓reduceIte, Nat.reduceAdd, Nat.reduceSub, Nat.reduceMul, Nat.reduceLeDiff, Nat.reduceLT, Int.reduceEq, Int.reduceNe, Int.reduceLT, Int.reduceLE, Int.reduceAdd, Int.reduceSub, Int.reduceMul, Int.reduceNeg, Int.reduceToNat, reduceCtorEq, Nat.reduceEqDiff, Nat.reduceBEq, Nat.reduceGT, hlt', hkx, plenumref28_voices_r1_eq]
theorem encCe_eq {x : Ce} : encCe x = putsL [x.sq, x.vw, x.tm, (x.body.length : Int)] ++ x.body ++ encStmts x.vs := by
  unfold encCe textB
  simp only [putsL_cons, putsL_nil, List.append_nil, List.append_assoc, Int.toNat_natCast]
theorem rencodeChange_s (m : Nat) (x : Ch) (h : cgB x = true) (hm : 70 < m) : plenumref28_EncodeChange m (cgE x) = some (sA (encCg x), []) := by
  obtain ⟨h0, h1, h2, h3⟩ := cgB_ok h
  obtain ⟨h6, h7⟩ := cesB_ok h3
  have e1 := putsL_len (cgB_inI h)
  have e2 := encStmts_len h2
  have e3 := encCerts_len h3
  have hN := rputs_s m [x.fr, x.vw, x.st, x.rt] (cgB_inI h) (by simp; omega) (by simp)
  have hV := rvoices_s m x.pf h2 hm
  have hN2 := rputs_s m [(x.cs.length : Int)] (by intro v hv; simp at hv; omega) (by simp; omega) (by simp)
  rw [putsL_one] at hN2
  have hp := put_len x.cs.length (by omega)
  simp only [List.map_cons, List.map_nil] at hN hN2
  simp only [List.length_cons, List.length_nil] at e1
  rw [plenumref28_EncodeChange_eq, cg_it]
  have E : encCg x = putsL [x.fr, x.vw, x.st, x.rt] ++ encStmts x.pf ++ put x.cs.length ++ x.cs.flatMap encCe := by
    unfold encCg encCerts
    simp only [List.append_assoc]
  rw [E]
  generalize putsL [x.fr, x.vw, x.st, x.rt] = A1 at *
  generalize encStmts x.pf = A2 at *
  generalize put x.cs.length = A3 at *
  have s1 : ((A1.length + A2.length : Nat) : Int) ≤ 9223372036854775807 := by omega
  have s2 : ((A1.length + A2.length + A3.length : Nat) : Int) ≤ 9223372036854775807 := by omega
  simp (config := {maxSteps := 4000000, implicitDefEqProofs := false}) (disch := omega) only [go_sem, ↓reduceIte, Nat.reduceAdd, Nat.reduceSub, Nat.reduceMul, Nat.reduceLeDiff, Nat.reduceLT, Int.reduceEq, Int.reduceNe, Int.reduceLT, Int.reduceLE, Int.reduceAdd, Int.reduceSub, Int.reduceMul, Int.reduceNeg, Int.reduceToNat, reduceCtorEq, Nat.reduceEqDiff, Nat.reduceBEq, Nat.reduceGT, hN, hV, hN2, s1, s2]
  rw [show A1 ++ A2 ++ A3 = A1 ++ A2 ++ A3 ++ (x.cs.take 0).flatMap encCe by simp]
  obtain ⟨r, hr⟩ : ∃ r, r = some (sA (A1 ++ A2 ++ A3 ++ (x.cs.take 0).flatMap encCe ++ x.cs.flatMap encCe), ([] : List AObj)) := ⟨_, rfl⟩
  rw [← hr]
  refine iter_go (ι := {k : Nat // k ≤ x.cs.length}) (fun k => ⟨[⟨1, ty_api_Change, 0, cgC x⟩], [(1, OP 0 0), (3, sA (A1 ++ A2 ++ A3 ++ (x.cs.take k.1).flatMap encCe)), (4, nA k.1)]⟩) (fun k => x.cs.length - k.1) (fun _ => r) ?_ ⟨0, Nat.zero_le _⟩ (by dsimp only; omega)
  simp only [List.take_zero, List.flatMap_nil, List.append_nil] at hr
  rintro kx hkx ⟨k, hk⟩ kc hkc
  dsimp only at hkc ⊢
  rw [plenumref28_EncodeChange_b1_eq]
  by_cases hlt : k < x.cs.length
  · have hlt' : (k : Int) < (x.cs.length : Int) := by omega
    have hv := List.all_eq_true.1 h7 x.cs[k] (List.getElem_mem hlt)
    have hlen := flatCert_len (l := x.cs.take k) (List.all_eq_true.2 fun y hy => List.all_eq_true.1 h7 y (List.mem_of_mem_take hy))
    rw [List.length_take, Nat.min_eq_left hk] at hlen
    have step := hkc ⟨k + 1, by omega⟩ (by dsimp only; omega)
    dsimp only at step
    rw [List.take_succ_eq_append_getElem hlt, List.flatMap_append, List.flatMap_cons, List.flatMap_nil, List.append_nil, encCe_eq, ← List.append_assoc] at step
    generalize (x.cs.take k).flatMap encCe = B1 at hlen step ⊢
    obtain ⟨v1, v2, v3⟩ := ceB_ok hv
    have hi : inI [x.cs[k].sq, x.cs[k].vw, x.cs[k].tm, (x.cs[k].body.length : Int)] := by
      have := all_inI v1
      intro v hv
      simp only [List.mem_cons, List.not_mem_nil, or_false] at hv
      rcases hv with rfl | rfl | rfl | rfl
      · exact this _ (by simp)
      · exact this _ (by simp)
      · exact this _ (by simp)
      · omega
    have hM := rputs_s m [x.cs[k].sq, x.cs[k].vw, x.cs[k].tm, (x.cs[k].body.length : Int)] hi (by simp; omega) (by simp)
    have hM2 := putsL_len hi
    have hW := rvoices_s m x.cs[k].vs v3 hm
    have hW2 := encStmts_len v3
    simp only [List.map_cons, List.map_nil] at hM
    simp only [List.length_cons, List.length_nil] at hM2
    generalize putsL [x.cs[k].sq, x.cs[k].vw, x.cs[k].tm, (x.cs[k].body.length : Int)] = C1 at *
    generalize encStmts x.cs[k].vs = C2 at *
    clear hN hV hN2
    have s1 : ((C1.length + x.cs[k].body.length : Nat) : Int) ≤ 9223372036854775807 := by omega
    have s2 : ((C1.length + x.cs[k].body.length + C2.length : Nat) : Int) ≤ 9223372036854775807 := by omega
    have s3 : ((A1.length + A2.length + A3.length + B1.length + (C1.length + x.cs[k].body.length + C2.length) : Nat) : Int) ≤ 9223372036854775807 := by omega
    simp (config := {maxSteps := 4000000, implicitDefEqProofs := false}) (disch := omega) only [go_sem, ↓reduceIte, Nat.reduceAdd, Nat.reduceSub, Nat.reduceMul, Nat.reduceLeDiff, Nat.reduceLT, Int.reduceEq, Int.reduceNe, Int.reduceLT, Int.reduceLE, Int.reduceAdd, Int.reduceSub, Int.reduceMul, Int.reduceNeg, Int.reduceToNat, reduceCtorEq, Nat.reduceEqDiff, Nat.reduceBEq, Nat.reduceGT, hlt', hM, hW, s1, s2, s3, w_i64]
    simp only [List.append_assoc] at step ⊢
    exact step
  · have hlt' : ¬ (k : Int) < (x.cs.length : Int) := by omega
    have hk2 : x.cs.take k = x.cs := List.take_of_length_le (by omega)
    rw [hk2, hr]
    simp (config := {maxSteps := 4000000, implicitDefEqProofs := false}) (disch := omega) only [go_sem, ↓reduceIte, Nat.reduceAdd, Nat.reduceSub, Nat.reduceMul, Nat.reduceLeDiff, Nat.reduceLT, Int.reduceEq, Int.reduceNe, Int.reduceLT, Int.reduceLE, Int.reduceAdd, Int.reduceSub, Int.reduceMul, Int.reduceNeg, Int.reduceToNat, reduceCtorEq, Nat.reduceEqDiff, Nat.reduceBEq, Nat.reduceGT, hlt', hkx, plenumref28_EncodeChange_r1_eq]
theorem rencode_s (m : Nat) (x : Ms) (h : msB x = true) (hm : 70 < m) : plenumref28_Encode m (msE x) = some (sA (encMs x), []) := by
  obtain ⟨k1, k2, h0, h1, h2, h3, h4⟩ := msB_ok h
  obtain ⟨h6, h7⟩ := cgsB_ok h4
  have hi : inI [x.kd, x.fr, x.vw, x.sq, x.tm, (x.body.length : Int)] := by
    have := msB_inI h
    intro v hv
    simp only [List.mem_cons, List.not_mem_nil, or_false] at hv
    rcases hv with rfl | rfl | rfl | rfl | rfl | rfl
    · exact this _ (by simp)
    · exact this _ (by simp)
    · exact this _ (by simp)
    · exact this _ (by simp)
    · exact this _ (by simp)
    · omega
  have e1 := putsL_len hi
  have e2 := encStmts_len h3
  have hN := rputs_s m [x.kd, x.fr, x.vw, x.sq, x.tm, (x.body.length : Int)] hi (by simp; omega) (by simp)
  have hV := rvoices_s m x.vs h3 hm
  have hN2 := rputs_s m [(x.chs.length : Int)] (by intro v hv; simp at hv; omega) (by simp; omega) (by simp)
  rw [putsL_one] at hN2
  have hp := put_len x.chs.length (by omega)
  simp only [List.map_cons, List.map_nil] at hN hN2
  simp only [List.length_cons, List.length_nil] at e1
  rw [plenumref28_Encode_eq, ms_it]
  have E : encMs x = putsL [x.kd, x.fr, x.vw, x.sq, x.tm, (x.body.length : Int)] ++ x.body ++ encStmts x.vs ++ put x.chs.length ++ x.chs.flatMap encCg := by
    unfold encMs encChanges textB
    simp only [putsL_cons, putsL_nil, List.append_nil, List.append_assoc, Int.toNat_natCast]
  rw [E]
  generalize putsL [x.kd, x.fr, x.vw, x.sq, x.tm, (x.body.length : Int)] = A1 at *
  generalize encStmts x.vs = A2 at *
  generalize put x.chs.length = A3 at *
  have s1 : ((A1.length + x.body.length : Nat) : Int) ≤ 9223372036854775807 := by omega
  have s2 : ((A1.length + x.body.length + A2.length : Nat) : Int) ≤ 9223372036854775807 := by omega
  have s3 : ((A1.length + x.body.length + A2.length + A3.length : Nat) : Int) ≤ 9223372036854775807 := by omega
  simp (config := {maxSteps := 4000000, implicitDefEqProofs := false}) (disch := omega) only [go_sem, ↓reduceIte, Nat.reduceAdd, Nat.reduceSub, Nat.reduceMul, Nat.reduceLeDiff, Nat.reduceLT, Int.reduceEq, Int.reduceNe, Int.reduceLT, Int.reduceLE, Int.reduceAdd, Int.reduceSub, Int.reduceMul, Int.reduceNeg, Int.reduceToNat, reduceCtorEq, Nat.reduceEqDiff, Nat.reduceBEq, Nat.reduceGT, hN, hV, hN2, s1, s2, s3]
  rw [show A1 ++ x.body ++ A2 ++ A3 = A1 ++ x.body ++ A2 ++ A3 ++ (x.chs.take 0).flatMap encCg by simp]
  obtain ⟨r, hr⟩ : ∃ r, r = some (sA (A1 ++ x.body ++ A2 ++ A3 ++ (x.chs.take 0).flatMap encCg ++ x.chs.flatMap encCg), ([] : List AObj)) := ⟨_, rfl⟩
  rw [← hr]
  refine iter_go (ι := {k : Nat // k ≤ x.chs.length}) (fun k => ⟨[⟨1, ty_api_Msg, 0, msC x⟩], [(1, OP 0 0), (3, sA (A1 ++ x.body ++ A2 ++ A3 ++ (x.chs.take k.1).flatMap encCg)), (4, nA k.1)]⟩) (fun k => x.chs.length - k.1) (fun _ => r) ?_ ⟨0, Nat.zero_le _⟩ (by dsimp only; omega)
  simp only [List.take_zero, List.flatMap_nil, List.append_nil] at hr
  rintro kx hkx ⟨k, hk⟩ kc hkc
  dsimp only at hkc ⊢
  rw [plenumref28_Encode_b1_eq]
  by_cases hlt : k < x.chs.length
  · have hlt' : (k : Int) < (x.chs.length : Int) := by omega
    have hv := List.all_eq_true.1 h7 x.chs[k] (List.getElem_mem hlt)
    have hlen := flatChange_len (l := x.chs.take k) (List.all_eq_true.2 fun y hy => List.all_eq_true.1 h7 y (List.mem_of_mem_take hy))
    rw [List.length_take, Nat.min_eq_left hk] at hlen
    have step := hkc ⟨k + 1, by omega⟩ (by dsimp only; omega)
    dsimp only at step
    rw [List.take_succ_eq_append_getElem hlt, List.flatMap_append, List.flatMap_cons, List.flatMap_nil, List.append_nil, ← List.append_assoc] at step
    generalize (x.chs.take k).flatMap encCg = B1 at hlen step ⊢
    have hW := rencodeChange_s m x.chs[k] hv hm
    have hW2 := encCg_len hv
    rw [cg_it] at hW
    generalize encCg x.chs[k] = C2 at *
    clear hN hV hN2
    have s1 : ((A1.length + x.body.length + A2.length + A3.length + B1.length + C2.length : Nat) : Int) ≤ 9223372036854775807 := by omega
    simp (config := {maxSteps := 4000000, implicitDefEqProofs := false}) (disch := omega) only [go_sem, ↓reduceIte, Nat.reduceAdd, Nat.reduceSub, Nat.reduceMul, Nat.reduceLeDiff, Nat.reduceLT, Int.reduceEq, Int.reduceNe, Int.reduceLT, Int.reduceLE, Int.reduceAdd, Int.reduceSub, Int.reduceMul, Int.reduceNeg, Int.reduceToNat, reduceCtorEq, Nat.reduceEqDiff, Nat.reduceBEq, Nat.reduceGT, hlt', hW, s1, w_i64]
    exact step
  · have hlt' : ¬ (k : Int) < (x.chs.length : Int) := by omega
    have hk2 : x.chs.take k = x.chs := List.take_of_length_le (by omega)
    rw [hk2, hr]
    simp (config := {maxSteps := 4000000, implicitDefEqProofs := false}) (disch := omega) only [go_sem, ↓reduceIte, Nat.reduceAdd, Nat.reduceSub, Nat.reduceMul, Nat.reduceLeDiff, Nat.reduceLT, Int.reduceEq, Int.reduceNe, Int.reduceLT, Int.reduceLE, Int.reduceAdd, Int.reduceSub, Int.reduceMul, Int.reduceNeg, Int.reduceToNat, reduceCtorEq, Nat.reduceEqDiff, Nat.reduceBEq, Nat.reduceGT, hlt', hkx, plenumref28_Encode_r1_eq]
end Go.Proofs.Ytbdbmfifclmpcaa

namespace Go.Proofs.Ytbdbmfifclmpcaa
open Go.RowKit
set_option linter.unusedVariables false
set_option linter.unusedSimpArgs false
set_option maxRecDepth 20000
inductive RdO (α : Type) where
  | ok (x : α) (a : Nat)
  | no (e a : Nat)
def RdO.bind {α β : Type} : RdO α → (α → Nat → RdO β) → RdO β
  | .ok x a, f => f x a
  | .no e a, _ => .no e a
def numR (b : List UInt8) (most a : Nat) : RdO Nat :=
  if (cut (b.drop a)).2.2 = 0 then (if most < (cut (b.drop a)).1 then .no 8 a else .ok (cut (b.drop a)).1 (a + (cut (b.drop a)).2.1)) else .no (cut (b.drop a)).2.2 a
def intR (b : List UInt8) (most a : Nat) : RdO Int := (numR b most a).bind fun v a => .ok (v : Int) a
def textR (b : List UInt8) (a : Nat) : RdO (List UInt8) := (numR b 65536 a).bind fun n a => if b.length - a < n then .no 2 a else .ok ((b.drop a).take n) (a + n)
def stmtR (b : List UInt8) (a : Nat) : RdO Sm := (intR b 63 a).bind fun x0 a => (intR b 2147483647 a).bind fun x1 a => (intR b 2147483647 a).bind fun x2 a => (intR b 2147483647 a).bind fun x3 a => (intR b 2147483647 a).bind fun x4 a => .ok ⟨x0, x1, x2, x3, x4⟩ a
def loopR {α : Type} (one : Nat → RdO α) : Nat → Nat → RdO (List α)
  | 0, a => .ok [] a
  | n + 1, a => (one a).bind fun x a => (loopR one n a).bind fun l a => .ok (x :: l) a
def someR {α : Type} (b : List UInt8) (one : Nat → RdO α) (a : Nat) : RdO (List α) := (numR b 64 a).bind fun n a => loopR one n a
def certR (b : List UInt8) (a : Nat) : RdO Ce := (intR b 2147483647 a).bind fun x0 a => (intR b 2147483647 a).bind fun x1 a => (intR b 2147483647 a).bind fun x2 a => (textR b a).bind fun x3 a => (someR b (stmtR b) a).bind fun x4 a => .ok ⟨x0, x1, x2, x3, x4⟩ a
def changeR (b : List UInt8) (a : Nat) : RdO Ch := (intR b 63 a).bind fun x0 a => (intR b 2147483647 a).bind fun x1 a => (intR b 2147483647 a).bind fun x2 a => (intR b 2147483647 a).bind fun x3 a => (someR b (stmtR b) a).bind fun x4 a => (someR b (certR b) a).bind fun x5 a => .ok ⟨x0, x1, x2, x3, x4, x5⟩ a
def msgR (b : List UInt8) : RdO Ms := (intR b 10 0).bind fun x0 a => (intR b 63 a).bind fun x1 a => (intR b 2147483647 a).bind fun x2 a => (intR b 2147483647 a).bind fun x3 a => (intR b 2147483647 a).bind fun x4 a => (textR b a).bind fun x5 a => (someR b (stmtR b) a).bind fun x6 a => (someR b (changeR b) a).bind fun x7 a => .ok ⟨x0, x1, x2, x3, x4, x5, x6, x7⟩ a
def RdO.In {α : Type} (b : List UInt8) (r : RdO α) : Prop := match r with | .ok _ a => a ≤ b.length | .no _ _ => True
theorem cutG_le : ∀ (l : List UInt8) (i : Nat), (cutG i l).2.2 = 0 → (cutG i l).2.1 ≤ l.length
  | [], i, h => by simp [cutG] at h
  | c :: r, i, h => by
    rw [cutG] at h ⊢
    split
    · rename_i hh; rw [if_pos hh] at h; cases h
    · rename_i hh; rw [if_neg hh] at h
      split
      · rename_i h2; rw [if_pos h2] at h
        split
        · rename_i h3
          have := cutG_le r (i + 1) h3
          simp only [List.length_cons]; omega
        · rename_i h3; rw [if_neg h3] at h; exact absurd h h3
      · rename_i h2; rw [if_neg h2] at h
        split
        · rename_i h3; rw [if_pos h3] at h; cases h
        · simp
theorem cut_le (l : List UInt8) (h : (cut l).2.2 = 0) : (cut l).2.1 ≤ l.length := cutG_le l 0 h
theorem numR_in {b : List UInt8} {most a : Nat} (h : a ≤ b.length) : (numR b most a).In b := by
  unfold numR
  split
  · rename_i h1
    split
    · trivial
    · have := cut_le _ h1
      rw [List.length_drop] at this
      show a + _ ≤ b.length
      omega
  · trivial
theorem bind_in {α β : Type} {b : List UInt8} {r : RdO α} {f : α → Nat → RdO β} (h : r.In b) (k : ∀ x a, r = .ok x a → a ≤ b.length → (f x a).In b) : (r.bind f).In b := by
  cases r with
  | ok x a => exact k x a rfl h
  | no e a => trivial
theorem intR_in {b : List UInt8} {most a : Nat} (h : a ≤ b.length) : (intR b most a).In b := bind_in (numR_in h) fun x a _ h => h
theorem textR_in {b : List UInt8} {a : Nat} (h : a ≤ b.length) : (textR b a).In b := bind_in (numR_in h) fun x a _ h => by
  split
  · trivial
  · show a + x ≤ b.length; omega
theorem stmtR_in {b : List UInt8} {a : Nat} (h : a ≤ b.length) : (stmtR b a).In b := bind_in (intR_in h) fun _ _ _ h => bind_in (intR_in h) fun _ _ _ h => bind_in (intR_in h) fun _ _ _ h => bind_in (intR_in h) fun _ _ _ h => bind_in (intR_in h) fun _ _ _ h => h
theorem loopR_in {α : Type} {b : List UInt8} {one : Nat → RdO α} (ho : ∀ a, a ≤ b.length → (one a).In b) : ∀ (n a : Nat), a ≤ b.length → (loopR one n a).In b
  | 0, a, h => h
  | n + 1, a, h => bind_in (ho a h) fun x a _ h => bind_in (loopR_in ho n a h) fun _ _ _ h => h
theorem someR_in {α : Type} {b : List UInt8} {one : Nat → RdO α} (ho : ∀ a, a ≤ b.length → (one a).In b) {a : Nat} (h : a ≤ b.length) : (someR b one a).In b := bind_in (numR_in h) fun n a _ h => loopR_in ho n a h
theorem certR_in {b : List UInt8} {a : Nat} (h : a ≤ b.length) : (certR b a).In b := bind_in (intR_in h) fun _ _ _ h => bind_in (intR_in h) fun _ _ _ h => bind_in (intR_in h) fun _ _ _ h => bind_in (textR_in h) fun _ _ _ h => bind_in (someR_in (fun _ => stmtR_in) h) fun _ _ _ h => h
theorem changeR_in {b : List UInt8} {a : Nat} (h : a ≤ b.length) : (changeR b a).In b := bind_in (intR_in h) fun _ _ _ h => bind_in (intR_in h) fun _ _ _ h => bind_in (intR_in h) fun _ _ _ h => bind_in (intR_in h) fun _ _ _ h => bind_in (someR_in (fun _ => stmtR_in) h) fun _ _ _ h => bind_in (someR_in (fun _ => certR_in) h) fun _ _ _ h => h
theorem numR_most {b : List UInt8} {most a v c : Nat} (h : numR b most a = .ok v c) : v ≤ most := by
  unfold numR at h
  split at h
  · split at h
    · cases h
    · cases h; omega
  · cases h
def RO3 (X0 X1 X2 : AObj) (t : TypeId) (b : List UInt8) (a : Nat) (Y : List AObj) : List AObj := X0 :: X1 :: X2 :: ⟨1, t, 0, [SL (bC b), nA a]⟩ :: Y
def noV (e a : Nat) : Value := .iface 47 (.agg #[.int .i64 e, .int .i64 a])
def prO {α : Type} (X0 X1 X2 : AObj) (t : TypeId) (b : List UInt8) (Y : List AObj) (f : α → AV) : RdO α → RO
  | .ok x a => some (f x, RO3 X0 X1 X2 t b a Y)
  | .no e a => some (PN (noV e a), RO3 X0 X1 X2 t b a Y)
theorem prO_ok {α : Type} {X0 X1 X2 : AObj} {t : TypeId} {b : List UInt8} {Y : List AObj} {f : α → AV} {x : α} {a : Nat} : prO X0 X1 X2 t b Y f (.ok x a) = some (f x, X0 :: X1 :: X2 :: ⟨1, t, 0, [SL (bC b), nA a]⟩ :: Y) := _root_.id rfl
theorem prO_no {α : Type} {X0 X1 X2 : AObj} {t : TypeId} {b : List UInt8} {Y : List AObj} {f : α → AV} {e a : Nat} : prO X0 X1 X2 t b Y f (.no e a) = some (PN (noV e a), X0 :: X1 :: X2 :: ⟨1, t, 0, [SL (bC b), nA a]⟩ :: Y) := _root_.id rfl
theorem RO3_it {X0 X1 X2 : AObj} {t : TypeId} {b : List UInt8} {a : Nat} {Y : List AObj} : RO3 X0 X1 X2 t b a Y = X0 :: X1 :: X2 :: ⟨1, t, 0, [SL (bC b), nA a]⟩ :: Y := _root_.id rfl
theorem noV_it {e a : Nat} : noV e a = .iface 47 (.agg #[.int .i64 e, .int .i64 a]) := _root_.id rfl
theorem zn_b {R : Type} {K1 : AV → Option R} {e a : Int} : buildE (some pl_wire_no) (some zc_wire_no) [(0, V (.int .i64 e)), (1, V (.int .i64 a))] K1 = K1 (.agg [V (.int .i64 e), V (.int .i64 a)]) := _root_.id rfl
theorem u_bcv {R : Type} {K1 : AV → Option R} {l : List UInt8} : convE false none true true (SL (bC l)) K1 = K1 (sA l) := by
  show whenE true (match bytesOf (bC l) with | some l => K1 (V (.string ⟨l.toArray⟩)) | none => none) = _
  rw [bytesOf_bC]; rfl
theorem bC_all {n : Nat} {l : List UInt8} (h : n = l.length) : (bC l).take n = bC l := by rw [bC_take, h, List.take_length]
attribute [local go_sem] Nat.zero_add Nat.add_zero Nat.mul_one Int.toNat_natCast Int.natCast_zero Int.cast_ofNat_Int or_false false_or or_true true_or Nat.sub_zero Int.natCast_nonneg Int.toNat_zero Bool.true_and Bool.and_true Bool.false_and Bool.and_false Bool.true_or Bool.or_true Bool.false_or Bool.or_false Bool.not_true Bool.not_false Bool.not_not true_and and_true false_and and_false not_true_eq_false not_false_eq_true eq_self decide_true decide_false ne_eq implies_true forall_const true_implies false_implies Bool.true_eq_false Bool.false_eq_true List.map_cons List.map_nil List.all_cons List.all_nil List.length_cons List.length_nil List.length_map List.length_append List.nil_append List.cons_append List.set_cons_zero List.set_cons_succ List.set_nil List.drop_zero List.drop_succ_cons List.drop_nil List.take_zero List.take_succ_cons List.take_nil Option.map_some Option.map_none Option.isSome_some List.all_append List.all_map Function.comp_def decide_eq_true_eq Bool.and_eq_true beq_self_eq_true or_self and_self ite_true ite_false Nat.le_refl Bool.not_eq_true decide_not Bool.not_eq_true' decide_eq_false_iff_not Bool.not_eq_false Bool.or_eq_true if_true if_false ite_self u_roF u_cvF u_cvC u_ceT u_ceK u_appS sm_it sm_len sm_sure sm_ltA sm_lt1 sm_all1 sm_ro sm_take sm_sl sm_set sm_noT sm_fr sm_st_fr sm_set_fr sm_kd sm_st_kd sm_set_kd sm_vw sm_st_vw sm_set_vw sm_sq sm_st_sq sm_set_sq sm_tm sm_st_tm sm_set_tm zsm_len zsm_sure zsm_lt1 zsm_sl zsm_ro zsm_setz zsm_set zsm_setr zsm_take sms_ltA sms_len ce_it ce_len ce_sure ce_ltA ce_lt1 ce_all1 ce_ro ce_take ce_sl ce_set ce_noT ce_sq ce_st_sq ce_set_sq ce_vw ce_st_vw ce_set_vw ce_tm ce_st_tm ce_set_tm ce_body ce_st_body ce_set_body ce_vs ce_st_vs ce_set_vs zce_len zce_sure zce_lt1 zce_sl zce_ro zce_setz zce_set zce_setr zce_take ces_ltA ces_len cg_it cg_len cg_sure cg_ltA cg_lt1 cg_all1 cg_ro cg_take cg_sl cg_set cg_noT cg_fr cg_st_fr cg_set_fr cg_vw cg_st_vw cg_set_vw cg_st cg_st_st cg_set_st cg_rt cg_st_rt cg_set_rt cg_pf cg_st_pf cg_set_pf cg_cs cg_st_cs cg_set_cs zcg_len zcg_sure zcg_lt1 zcg_sl zcg_ro zcg_setz zcg_set zcg_setr zcg_take cgs_ltA cgs_len ms_it ms_len ms_sure ms_ltA ms_lt1 ms_all1 ms_ro ms_take ms_sl ms_set ms_noT ms_kd ms_st_kd ms_set_kd ms_fr ms_st_fr ms_set_fr ms_vw ms_st_vw ms_set_vw ms_sq ms_st_sq ms_set_sq ms_tm ms_st_tm ms_set_tm ms_body ms_st_body ms_set_body ms_vs ms_st_vs ms_set_vs ms_chs ms_st_chs ms_set_chs zms_len zms_sure zms_lt1 zms_sl zms_ro zms_setz zms_set zms_setr zms_take mss_ltA mss_len natInt u_nthM u_bz u_bi1 u_bi2 u_bi3 u_bi4 u_bi5 u_bi6 u_bi7 bC_length bc_ltA bc_one nthOL ltO_o ltO_r takeL bC_append u_addS List.take_length u_panV u_panA u_panS u_panT u_panW u_panP u_panic u_ifV u_ifA2 u_panKE prO_ok prO_no noV_it zn_b Int.natCast_add u_bcv
section
variable {X0 X1 X2 : AObj} {t : TypeId} {b : List UInt8} {Y : List AObj}
theorem num_sR (m : Nat) (most a : Nat) (h0 : ∀ n, ltO n X0 = true) (h1 : ∀ n, ltO n X1 = true) (h2 : ∀ n, ltO n X2 = true) (hY : ∀ n, Y.all (ltO n) = true) (hb : b.length ≤ 34359738368) (ha : a ≤ b.length) (hm : most < 9223372036854775808) : wire_reader_num m (OP 3 0) (nA most) (RO3 X0 X1 X2 t b a Y) = prO X0 X1 X2 t b Y (fun v : Nat => nA v) (numR b most a) := by
  have hC := varint_Cut_e m (b.drop a) (by rw [List.length_drop]; omega)
  have hL := cut_le (b.drop a)
  rw [List.length_drop] at hL
  unfold cutX at hC
  unfold numR
  generalize cut (b.drop a) = c at hC hL ⊢
  obtain ⟨v, n, e⟩ := c
  dsimp only at hC hL ⊢
  rw [wire_reader_num_eq]
  unfold RO3
  have a1 : (0 : Int) ≤ (a : Int) := by omega
  have a2 : (a : Int) ≤ (b.length : Int) := by omega
  have a3 : (b.length : Int) ≤ (b.length : Int) := Int.le_refl _
  have hcut : cutE (bC b) (a : Int) (b.length : Int) = bC (b.drop a) := by
    unfold cutE
    rw [Int.toNat_natCast, Int.toNat_natCast, bC_all rfl, bC_drop]
  have hw : IntKind.u64.wrap (most : Int) = (most : Int) := w_u64 (by omega) (by omega)
  by_cases he : e = 0
  · subst he
    have hL := hL rfl
    by_cases hv : most < v
    · have hv' : (v : Int) > (most : Int) := by omega
      rw [if_pos rfl, if_pos hv]
      simp (config := {maxSteps := 4000000, implicitDefEqProofs := false}) (disch := omega) only [go_sem, ↓reduceIte, Nat.reduceAdd, Nat.reduceSub, Nat.reduceMul, Nat.reduceLeDiff, Nat.reduceLT, Int.reduceEq, Int.reduceNe, Int.reduceLT, Int.reduceLE, Int.reduceAdd, Int.reduceSub, Int.reduceMul, Int.reduceNeg, Int.reduceToNat, reduceCtorEq, Nat.reduceEqDiff, Nat.reduceBEq, Nat.reduceGT, a1, a2, a3, hcut, hC, hw, hv', h0, h1, h2, hY, wire_reader_num_r3_eq, wire_reader_num_r2_eq, wire_reader_num_r1_eq]
    · have hv' : ¬ (v : Int) > (most : Int) := by omega
      rw [if_pos rfl, if_neg hv]
      simp (config := {maxSteps := 4000000, implicitDefEqProofs := false}) (disch := omega) only [go_sem, ↓reduceIte, Nat.reduceAdd, Nat.reduceSub, Nat.reduceMul, Nat.reduceLeDiff, Nat.reduceLT, Int.reduceEq, Int.reduceNe, Int.reduceLT, Int.reduceLE, Int.reduceAdd, Int.reduceSub, Int.reduceMul, Int.reduceNeg, Int.reduceToNat, reduceCtorEq, Nat.reduceEqDiff, Nat.reduceBEq, Nat.reduceGT, a1, a2, a3, hcut, hC, hw, hv', h0, h1, h2, hY, w_i64, wire_reader_num_r3_eq, wire_reader_num_r2_eq, wire_reader_num_r1_eq]
  · have he' : ¬ (e : Int) = 0 := by omega
    rw [if_neg he]
    simp (config := {maxSteps := 4000000, implicitDefEqProofs := false}) (disch := omega) only [go_sem, ↓reduceIte, Nat.reduceAdd, Nat.reduceSub, Nat.reduceMul, Nat.reduceLeDiff, Nat.reduceLT, Int.reduceEq, Int.reduceNe, Int.reduceLT, Int.reduceLE, Int.reduceAdd, Int.reduceSub, Int.reduceMul, Int.reduceNeg, Int.reduceToNat, reduceCtorEq, Nat.reduceEqDiff, Nat.reduceBEq, Nat.reduceGT, a1, a2, a3, hcut, hC, hw, he', h0, h1, h2, hY, wire_reader_num_r3_eq, wire_reader_num_r2_eq, wire_reader_num_r1_eq]
theorem get_in {α : Type} {b : List UInt8} {r : RdO α} {x : α} {a : Nat} (h : r.In b) (e : r = .ok x a) : a ≤ b.length := by rw [e] at h; exact h
theorem any_sR (m : Nat) (a : Nat) (h0 : ∀ n, ltO n X0 = true) (h1 : ∀ n, ltO n X1 = true) (h2 : ∀ n, ltO n X2 = true) (hY : ∀ n, Y.all (ltO n) = true) (hb : b.length ≤ 34359738368) (ha : a ≤ b.length) : wire_reader_any m (OP 3 0) (RO3 X0 X1 X2 t b a Y) = prO X0 X1 X2 t b Y (fun v : Int => nA v) (intR b 2147483647 a) := by
  have q := num_sR (t := t) m 2147483647 a h0 h1 h2 hY hb ha (by omega)
  rw [wire_reader_any_eq]
  unfold intR
  cases hr : numR b 2147483647 a with
  | no e a' => rw [hr] at q; simp only [RO3_it, prO_no, Int.cast_ofNat_Int] at q ⊢; dsimp only [RdO.bind]; simp (config := {maxSteps := 4000000, implicitDefEqProofs := false}) (disch := omega) only [go_sem, ↓reduceIte, Nat.reduceAdd, Nat.reduceSub, Nat.reduceMul, Nat.reduceLeDiff, Nat.reduceLT, Int.reduceEq, Int.reduceNe, Int.reduceLT, Int.reduceLE, Int.reduceAdd, Int.reduceSub, Int.reduceMul, Int.reduceNeg, Int.reduceToNat, reduceCtorEq, Nat.reduceEqDiff, Nat.reduceBEq, Nat.reduceGT, q, h0, h1, h2, hY]
  | ok v a' => rw [hr] at q; simp only [RO3_it, prO_ok, Int.cast_ofNat_Int] at q ⊢; dsimp only [RdO.bind]; simp (config := {maxSteps := 4000000, implicitDefEqProofs := false}) (disch := omega) only [go_sem, ↓reduceIte, Nat.reduceAdd, Nat.reduceSub, Nat.reduceMul, Nat.reduceLeDiff, Nat.reduceLT, Int.reduceEq, Int.reduceNe, Int.reduceLT, Int.reduceLE, Int.reduceAdd, Int.reduceSub, Int.reduceMul, Int.reduceNeg, Int.reduceToNat, reduceCtorEq, Nat.reduceEqDiff, Nat.reduceBEq, Nat.reduceGT, q, h0, h1, h2, hY]
theorem party_sR (m : Nat) (a : Nat) (h0 : ∀ n, ltO n X0 = true) (h1 : ∀ n, ltO n X1 = true) (h2 : ∀ n, ltO n X2 = true) (hY : ∀ n, Y.all (ltO n) = true) (hb : b.length ≤ 34359738368) (ha : a ≤ b.length) : wire_reader_party m (OP 3 0) (RO3 X0 X1 X2 t b a Y) = prO X0 X1 X2 t b Y (fun v : Int => nA v) (intR b 63 a) := by
  have q := num_sR (t := t) m 63 a h0 h1 h2 hY hb ha (by omega)
  rw [wire_reader_party_eq]
  unfold intR
  cases hr : numR b 63 a with
  | no e a' => rw [hr] at q; simp only [RO3_it, prO_no, Int.cast_ofNat_Int] at q ⊢; dsimp only [RdO.bind]; simp (config := {maxSteps := 4000000, implicitDefEqProofs := false}) (disch := omega) only [go_sem, ↓reduceIte, Nat.reduceAdd, Nat.reduceSub, Nat.reduceMul, Nat.reduceLeDiff, Nat.reduceLT, Int.reduceEq, Int.reduceNe, Int.reduceLT, Int.reduceLE, Int.reduceAdd, Int.reduceSub, Int.reduceMul, Int.reduceNeg, Int.reduceToNat, reduceCtorEq, Nat.reduceEqDiff, Nat.reduceBEq, Nat.reduceGT, q, h0, h1, h2, hY]
  | ok v a' => rw [hr] at q; simp only [RO3_it, prO_ok, Int.cast_ofNat_Int] at q ⊢; dsimp only [RdO.bind]; simp (config := {maxSteps := 4000000, implicitDefEqProofs := false}) (disch := omega) only [go_sem, ↓reduceIte, Nat.reduceAdd, Nat.reduceSub, Nat.reduceMul, Nat.reduceLeDiff, Nat.reduceLT, Int.reduceEq, Int.reduceNe, Int.reduceLT, Int.reduceLE, Int.reduceAdd, Int.reduceSub, Int.reduceMul, Int.reduceNeg, Int.reduceToNat, reduceCtorEq, Nat.reduceEqDiff, Nat.reduceBEq, Nat.reduceGT, q, h0, h1, h2, hY]
theorem text_sR (m : Nat) (a : Nat) (h0 : ∀ n, ltO n X0 = true) (h1 : ∀ n, ltO n X1 = true) (h2 : ∀ n, ltO n X2 = true) (hY : ∀ n, Y.all (ltO n) = true) (hb : b.length ≤ 34359738368) (ha : a ≤ b.length) : wire_reader_text m (OP 3 0) (RO3 X0 X1 X2 t b a Y) = prO X0 X1 X2 t b Y (fun v : List UInt8 => sA v) (textR b a) := by
  have q := num_sR (t := t) m 65536 a h0 h1 h2 hY hb ha (by omega)
  have hi := numR_in (most := 65536) ha
  rw [wire_reader_text_eq]
  unfold textR
  cases hr : numR b 65536 a with
  | no e a' => rw [hr] at q; simp only [RO3_it, prO_no, Int.cast_ofNat_Int] at q ⊢; dsimp only [RdO.bind]; simp (config := {maxSteps := 4000000, implicitDefEqProofs := false}) (disch := omega) only [go_sem, ↓reduceIte, Nat.reduceAdd, Nat.reduceSub, Nat.reduceMul, Nat.reduceLeDiff, Nat.reduceLT, Int.reduceEq, Int.reduceNe, Int.reduceLT, Int.reduceLE, Int.reduceAdd, Int.reduceSub, Int.reduceMul, Int.reduceNeg, Int.reduceToNat, reduceCtorEq, Nat.reduceEqDiff, Nat.reduceBEq, Nat.reduceGT, q, h0, h1, h2, hY]
  | ok n c =>
    have hc : c ≤ b.length := get_in hi hr
    have hn := numR_most hr
    rw [hr] at q
    simp only [RO3_it, prO_ok, Int.cast_ofNat_Int] at q ⊢
    dsimp only [RdO.bind]
    have hw : IntKind.i64.wrap ((b.length : Int) - (c : Int)) = (b.length : Int) - (c : Int) := w_i64 (by omega) (by omega)
    by_cases hv : b.length - c < n
    · have hv' : (n : Int) > (b.length : Int) - (c : Int) := by omega
      rw [if_pos hv]
      simp (config := {maxSteps := 4000000, implicitDefEqProofs := false}) (disch := omega) only [go_sem, ↓reduceIte, Nat.reduceAdd, Nat.reduceSub, Nat.reduceMul, Nat.reduceLeDiff, Nat.reduceLT, Int.reduceEq, Int.reduceNe, Int.reduceLT, Int.reduceLE, Int.reduceAdd, Int.reduceSub, Int.reduceMul, Int.reduceNeg, Int.reduceToNat, reduceCtorEq, Nat.reduceEqDiff, Nat.reduceBEq, Nat.reduceGT, q, hw, hv', h0, h1, h2, hY]
    · have hv' : ¬ (n : Int) > (b.length : Int) - (c : Int) := by omega
      have c1 : (c : Int) + (n : Int) - (n : Int) = (c : Int) := by omega
      have c2 : (0 : Int) ≤ (c : Int) := by omega
      have c3 : (c : Int) ≤ (c : Int) + (n : Int) := by omega
      have c4 : (c : Int) + (n : Int) ≤ (b.length : Int) := by omega
      have hcut : cutE (bC b) (c : Int) ((c : Int) + (n : Int)) = bC ((b.drop c).take n) := by
        unfold cutE
        rw [show ((c : Int) + (n : Int)).toNat = c + n by omega, Int.toNat_natCast, bC_take, bC_drop, List.drop_take, Nat.add_sub_cancel_left]
      rw [if_neg hv]
      simp (config := {maxSteps := 4000000, implicitDefEqProofs := false}) (disch := omega) only [go_sem, ↓reduceIte, Nat.reduceAdd, Nat.reduceSub, Nat.reduceMul, Nat.reduceLeDiff, Nat.reduceLT, Int.reduceEq, Int.reduceNe, Int.reduceLT, Int.reduceLE, Int.reduceAdd, Int.reduceSub, Int.reduceMul, Int.reduceNeg, Int.reduceToNat, reduceCtorEq, Nat.reduceEqDiff, Nat.reduceBEq, Nat.reduceGT, q, hw, hv', c1, c2, c3, c4, hcut, bytesOf_bC, h0, h1, h2, hY, w_i64, wire_reader_text_r1_eq]
theorem sm_b {R : Type} {K1 : AV → Option R} {x0 x1 x2 x3 x4 : Int} : buildE (some pl_api_Stmt) (some zc_api_Stmt) [(0, nA x0), (1, nA x1), (2, nA x2), (3, nA x3), (4, nA x4)] K1 = K1 (.agg (smC ⟨x0, x1, x2, x3, x4⟩)) := _root_.id rfl
theorem stmt_sR (m : Nat) (a : Nat) (h0 : ∀ n, ltO n X0 = true) (h1 : ∀ n, ltO n X1 = true) (h2 : ∀ n, ltO n X2 = true) (hY : ∀ n, Y.all (ltO n) = true) (hb : b.length ≤ 34359738368) (ha : a ≤ b.length) : wire_reader_stmt m (OP 3 0) (RO3 X0 X1 X2 t b a Y) = prO X0 X1 X2 t b Y (fun v : Sm => smE v) (stmtR b a) := by
  have hY3 : Y.length ≤ Y.length + 1 := Nat.le_succ _
  have hY5 : Y.length ≤ Y.length + 2 := Nat.le_add_right _ _
  rw [wire_reader_stmt_eq]
  unfold stmtR
  have hY1 : ∀ n, (Y ++ [(⟨1, ty_api_Stmt, 0, zc_api_Stmt⟩ : AObj)]).all (ltO n) = true := fun n => by simp only [List.all_append, hY, Bool.true_and]; rfl
  have q0 := party_sR (t := t) (Y := Y ++ [(⟨1, ty_api_Stmt, 0, zc_api_Stmt⟩ : AObj)]) m a h0 h1 h2 (hY1) hb ha
  cases r0 : intR b 63 a with
  | no e c =>
    rw [r0] at q0
    simp only [RO3_it, prO_no] at q0 ⊢
    try dsimp only [RdO.bind]
    simp (config := {maxSteps := 4000000, implicitDefEqProofs := false}) (disch := omega) only [go_sem, ↓reduceIte, Nat.reduceAdd, Nat.reduceSub, Nat.reduceMul, Nat.reduceLeDiff, Nat.reduceLT, Int.reduceEq, Int.reduceNe, Int.reduceLT, Int.reduceLE, Int.reduceAdd, Int.reduceSub, Int.reduceMul, Int.reduceNeg, Int.reduceToNat, reduceCtorEq, Nat.reduceEqDiff, Nat.reduceBEq, Nat.reduceGT, q0, h0, h1, h2, hY, hY3, setL, ro_cl, sm_b]
  | ok x0 a0 =>
    have ha0 : a0 ≤ b.length := get_in (intR_in ha) r0
    rw [r0] at q0
    simp only [RO3_it, prO_ok] at q0
    try dsimp only [RdO.bind]
    have q1 := any_sR (t := t) (Y := Y ++ [(⟨1, ty_api_Stmt, 0, zc_api_Stmt⟩ : AObj)]) m a0 h0 h1 h2 (hY1) hb ha0
    cases r1 : intR b 2147483647 a0 with
    | no e c =>
      rw [r1] at q1
      simp only [RO3_it, prO_no] at q1 ⊢
      try dsimp only [RdO.bind]
      simp (config := {maxSteps := 4000000, implicitDefEqProofs := false}) (disch := omega) only [go_sem, ↓reduceIte, Nat.reduceAdd, Nat.reduceSub, Nat.reduceMul, Nat.reduceLeDiff, Nat.reduceLT, Int.reduceEq, Int.reduceNe, Int.reduceLT, Int.reduceLE, Int.reduceAdd, Int.reduceSub, Int.reduceMul, Int.reduceNeg, Int.reduceToNat, reduceCtorEq, Nat.reduceEqDiff, Nat.reduceBEq, Nat.reduceGT, q0, q1, h0, h1, h2, hY, hY3, setL, ro_cl, sm_b]
    | ok x1 a1 =>
      have ha1 : a1 ≤ b.length := get_in (intR_in ha0) r1
      rw [r1] at q1
      simp only [RO3_it, prO_ok] at q1
      try dsimp only [RdO.bind]
      have q2 := any_sR (t := t) (Y := Y ++ [(⟨1, ty_api_Stmt, 0, zc_api_Stmt⟩ : AObj)]) m a1 h0 h1 h2 (hY1) hb ha1
      cases r2 : intR b 2147483647 a1 with
      | no e c =>
        rw [r2] at q2
        simp only [RO3_it, prO_no] at q2 ⊢
        try dsimp only [RdO.bind]
        simp (config := {maxSteps := 4000000, implicitDefEqProofs := false}) (disch := omega) only [go_sem, ↓reduceIte, Nat.reduceAdd, Nat.reduceSub, Nat.reduceMul, Nat.reduceLeDiff, Nat.reduceLT, Int.reduceEq, Int.reduceNe, Int.reduceLT, Int.reduceLE, Int.reduceAdd, Int.reduceSub, Int.reduceMul, Int.reduceNeg, Int.reduceToNat, reduceCtorEq, Nat.reduceEqDiff, Nat.reduceBEq, Nat.reduceGT, q0, q1, q2, h0, h1, h2, hY, hY3, setL, ro_cl, sm_b]
      | ok x2 a2 =>
        have ha2 : a2 ≤ b.length := get_in (intR_in ha1) r2
        rw [r2] at q2
        simp only [RO3_it, prO_ok] at q2
        try dsimp only [RdO.bind]
        have q3 := any_sR (t := t) (Y := Y ++ [(⟨1, ty_api_Stmt, 0, zc_api_Stmt⟩ : AObj)]) m a2 h0 h1 h2 (hY1) hb ha2
        cases r3 : intR b 2147483647 a2 with
        | no e c =>
          rw [r3] at q3
          simp only [RO3_it, prO_no] at q3 ⊢
          try dsimp only [RdO.bind]
          simp (config := {maxSteps := 4000000, implicitDefEqProofs := false}) (disch := omega) only [go_sem, ↓reduceIte, Nat.reduceAdd, Nat.reduceSub, Nat.reduceMul, Nat.reduceLeDiff, Nat.reduceLT, Int.reduceEq, Int.reduceNe, Int.reduceLT, Int.reduceLE, Int.reduceAdd, Int.reduceSub, Int.reduceMul, Int.reduceNeg, Int.reduceToNat, reduceCtorEq, Nat.reduceEqDiff, Nat.reduceBEq, Nat.reduceGT, q0, q1, q2, q3, h0, h1, h2, hY, hY3, setL, ro_cl, sm_b]
        | ok x3 a3 =>
          have ha3 : a3 ≤ b.length := get_in (intR_in ha2) r3
          rw [r3] at q3
          simp only [RO3_it, prO_ok] at q3
          try dsimp only [RdO.bind]
          have q4 := any_sR (t := t) (Y := Y ++ [(⟨1, ty_api_Stmt, 0, zc_api_Stmt⟩ : AObj)]) m a3 h0 h1 h2 (hY1) hb ha3
          cases r4 : intR b 2147483647 a3 with
          | no e c =>
            rw [r4] at q4
            simp only [RO3_it, prO_no] at q4 ⊢
            try dsimp only [RdO.bind]
            simp (config := {maxSteps := 4000000, implicitDefEqProofs := false}) (disch := omega) only [go_sem, ↓reduceIte, Nat.reduceAdd, Nat.reduceSub, Nat.reduceMul, Nat.reduceLeDiff, Nat.reduceLT, Int.reduceEq, Int.reduceNe, Int.reduceLT, Int.reduceLE, Int.reduceAdd, Int.reduceSub, Int.reduceMul, Int.reduceNeg, Int.reduceToNat, reduceCtorEq, Nat.reduceEqDiff, Nat.reduceBEq, Nat.reduceGT, q0, q1, q2, q3, q4, h0, h1, h2, hY, hY3, setL, ro_cl, sm_b]
          | ok x4 a4 =>
            have ha4 : a4 ≤ b.length := get_in (intR_in ha3) r4
            rw [r4] at q4
            simp only [RO3_it, prO_ok] at q4
            try dsimp only [RdO.bind]
            simp only [RO3_it, prO_ok]
            simp (config := {maxSteps := 4000000, implicitDefEqProofs := false}) (disch := omega) only [go_sem, ↓reduceIte, Nat.reduceAdd, Nat.reduceSub, Nat.reduceMul, Nat.reduceLeDiff, Nat.reduceLT, Int.reduceEq, Int.reduceNe, Int.reduceLT, Int.reduceLE, Int.reduceAdd, Int.reduceSub, Int.reduceMul, Int.reduceNeg, Int.reduceToNat, reduceCtorEq, Nat.reduceEqDiff, Nat.reduceBEq, Nat.reduceGT, q0, q1, q2, q3, q4, h0, h1, h2, hY, hY3, setL, ro_cl, sm_b]
theorem u_cvpC {R : Type} {E : Env} {H : List AObj} {args caps : List AV} {K : AV → List AObj → Option R} {KP : Value → List AObj → Option R} {f k z : Nat} {q q' : Array Value} : callVPE E (.slice caps [.held (.inl (.func (.func f) q q')), .held (.inr (.inl (k, z)))]) args H K KP = callPE (findE E f) ((caps.take k ++ args ++ caps.drop k).map (ro H)) H K KP := _root_.id rfl
theorem u_cepP {R : Type} {H : List AObj} {args : List AV} {K : AV → List AObj → Option R} {KP : Value → List AObj → Option R} {g : List AV → List AObj → RO} : callPE (some (.pan g)) args H K KP = panE (g args H) K KP := _root_.id rfl
theorem u_blkPn {j : Nat} {kk : KO (AV × List AObj)} {ch : List PanicEntry} {s : ASt} : blockX j kk (.panic ch) s = kk (.panic ch) s := _root_.id rfl
theorem u_seqPn {next : ASt → RO} {kk : KO (AV × List AObj)} {ch : List PanicEntry} {s : ASt} : seqX next kk (.panic ch) s = kk (.panic ch) s := _root_.id rfl
theorem takeLA {o : AObj} {Y : List AObj} : (Y ++ [o]).take (Y.length + 1) = Y ++ [o] := List.take_of_length_le (by simp)
theorem ro_last {e z : Nat} {c : List AV} {A0 A1 A2 A3 : AObj} {Y : List AObj} : ro (A0 :: A1 :: A2 :: A3 :: (Y ++ [⟨2, e, z, c⟩])) (OW (Y.length + 1 + 1 + 1 + 1) c.length) = SL c := by
  simp [ro, roA, ro1]
theorem ro_lastM {α : Type} {f : α → AV} {l : List α} {e z : Nat} {A0 A1 A2 A3 : AObj} {Y : List AObj} : ro (A0 :: A1 :: A2 :: A3 :: (Y ++ [⟨2, e, z, l.map f⟩])) (OW (Y.length + 1 + 1 + 1 + 1) l.length) = SL (l.map f) := by
  have := ro_last (e := e) (z := z) (c := l.map f) (A0 := A0) (A1 := A1) (A2 := A2) (A3 := A3) (Y := Y)
  rwa [List.length_map] at this
theorem ltT_cl {n f : Nat} : ltT (n + 1 + 1 + 1 + 1) (CL (.func f) 1 [OP 3 0]) = true := by
  simp [ltT, ltA, lt1, lt0]
def joinR {α : Type} (xs : List α) : RdO (List α) → RdO (List α)
  | .ok l a => .ok (xs ++ l) a
  | .no e a => .no e a
theorem joinR_bind {α : Type} (xs : List α) (x : α) (r : RdO (List α)) : joinR xs (r.bind fun l a => .ok (x :: l) a) = joinR (xs ++ [x]) r := by
  cases r with
  | ok l a => show RdO.ok _ _ = RdO.ok _ _; rw [List.append_assoc]; rfl
  | no e a => rfl
theorem joinR_nil {α : Type} (r : RdO (List α)) : joinR [] r = r := by cases r <;> rfl
theorem stmt_tR {m : Nat} {a : AV} {H : List AObj} : wire_reader_stmt_t m [a] H = wire_reader_stmt m a H := _root_.id rfl
theorem stmt_fR {m : Nat} : findE (wire_some_Stmt_env m) 27 = some (.pan (wire_reader_stmt_t m)) := _root_.id rfl
theorem stmt_finP {n : Nat} {u : Value} {s : ASt} : wire_some_Stmt_fin n (.panic (pch u)) s = panKE n s.H u := _root_.id rfl
theorem someStmt_sR (m : Nat) (a : Nat) (h0 : ∀ n, ltO n X0 = true) (h1 : ∀ n, ltO n X1 = true) (h2 : ∀ n, ltO n X2 = true) (hY : ∀ n, Y.all (ltO n) = true) (hb : b.length ≤ 34359738368) (ha : a ≤ b.length) (hm : 70 < m) : wire_some_Stmt m (OP 3 0) (CL (.func 27) 1 [OP 3 0]) (RO3 X0 X1 X2 t b a Y) = prO X0 X1 X2 t b Y (fun l : List Sm => SL (l.map smE)) (someR b (stmtR b) a) := by
  have q := num_sR (t := t) m 64 a h0 h1 h2 hY hb ha (by omega)
  have hi := numR_in (most := 64) ha
  rw [wire_some_Stmt_eq]
  unfold someR
  cases hr : numR b 64 a with
  | no e a' => rw [hr] at q; simp only [RO3_it, prO_no, Int.cast_ofNat_Int] at q ⊢; dsimp only [RdO.bind]; simp (config := {maxSteps := 4000000, implicitDefEqProofs := false}) (disch := omega) only [go_sem, ↓reduceIte, Nat.reduceAdd, Nat.reduceSub, Nat.reduceMul, Nat.reduceLeDiff, Nat.reduceLT, Int.reduceEq, Int.reduceNe, Int.reduceLT, Int.reduceLE, Int.reduceAdd, Int.reduceSub, Int.reduceMul, Int.reduceNeg, Int.reduceToNat, reduceCtorEq, Nat.reduceEqDiff, Nat.reduceBEq, Nat.reduceGT, q, h0, h1, h2, hY]
  | ok n c =>
    have hc : c ≤ b.length := get_in hi hr
    have hn := numR_most hr
    rw [hr] at q
    simp only [RO3_it, prO_ok, Int.cast_ofNat_Int] at q ⊢
    dsimp only [RdO.bind]
    generalize hR : loopR (stmtR b) n c = R
    obtain ⟨r, hr2⟩ : ∃ r, r = prO X0 X1 X2 t b Y (fun l : List Sm => SL (l.map smE)) R := ⟨_, rfl⟩
    rw [← hr2]
    have i0 : joinR ([] : List Sm) (loopR (stmtR b) (n - 0) c) = R := by rw [joinR_nil]; exact hR
    simp (config := {maxSteps := 4000000, implicitDefEqProofs := false}) (disch := omega) only [go_sem, ↓reduceIte, Nat.reduceAdd, Nat.reduceSub, Nat.reduceMul, Nat.reduceLeDiff, Nat.reduceLT, Int.reduceEq, Int.reduceNe, Int.reduceLT, Int.reduceLE, Int.reduceAdd, Int.reduceSub, Int.reduceMul, Int.reduceNeg, Int.reduceToNat, reduceCtorEq, Nat.reduceEqDiff, Nat.reduceBEq, Nat.reduceGT, q, ro_cl]
    refine iter_go (m := m) (ι := {k : Nat × List Sm × Nat // k.1 ≤ n ∧ k.2.1.length = k.1 ∧ k.2.2 ≤ b.length ∧ joinR k.2.1 (loopR (stmtR b) (n - k.1) k.2.2) = R}) (fun k => ⟨X0 :: X1 :: X2 :: ⟨1, t, 0, [SL (bC b), nA k.1.2.2]⟩ :: (Y ++ [⟨2, ty_api_Stmt, 5, k.1.2.1.map smE⟩]), [(1, CL (.func 27) 1 [OP 3 0]), (5, OW (Y.length + 1 + 1 + 1 + 1) k.1.2.1.length), (7, nA n), (8, nA k.1.1)]⟩) (fun k => n - k.1.1) (fun _ => r) ?_ ⟨(0, [], c), Nat.zero_le _, rfl, hc, i0⟩ (by dsimp only; omega)
    rintro kx hkx ⟨⟨k, xs, d⟩, hk, hxl, hd, hJ⟩ kc hkc
    dsimp only at hk hxl hd hJ hkc ⊢
    have hY3 : Y.length ≤ Y.length + 1 := Nat.le_succ _
    have hY' : ∀ n, (Y ++ [(⟨2, ty_api_Stmt, 5, xs.map smE⟩ : AObj)]).all (ltO n) = true := fun n => by
      simp only [List.all_append, hY, Bool.true_and, List.all_cons, List.all_nil, Bool.and_true, ltO_r, List.all_map]
      exact sms_ltA
    rw [wire_some_Stmt_b1_eq]
    by_cases hlt : k < n
    · have hlt' : (k : Int) < (n : Int) := by omega
      have hq := stmt_sR (t := t) m d h0 h1 h2 hY' hb hd
      rw [show n - k = (n - (k + 1)) + 1 by omega] at hJ
      unfold loopR at hJ
      cases ho : stmtR b d with
      | no e d' =>
        rw [ho] at hq hJ
        simp only [RO3_it, prO_no] at hq
        have hJ2 : RdO.no e d' = R := hJ
        subst hJ2
        rw [hr2]
        simp (config := {maxSteps := 4000000, implicitDefEqProofs := false}) (disch := omega) only [go_sem, ↓reduceIte, Nat.reduceAdd, Nat.reduceSub, Nat.reduceMul, Nat.reduceLeDiff, Nat.reduceLT, Int.reduceEq, Int.reduceNe, Int.reduceLT, Int.reduceLE, Int.reduceAdd, Int.reduceSub, Int.reduceMul, Int.reduceNeg, Int.reduceToNat, reduceCtorEq, Nat.reduceEqDiff, Nat.reduceBEq, Nat.reduceGT, hlt', u_cvpC, u_cepP, u_blkPn, u_seqPn, stmt_tR, stmt_fR, stmt_finP, hq, hkx, h0, h1, h2, hY, hY3]
      | ok x d' =>
        have hd' : d' ≤ b.length := get_in (stmtR_in hd) ho
        rw [ho] at hq hJ
        simp only [RO3_it, prO_ok] at hq
        have hJ2 : joinR xs ((loopR (stmtR b) (n - (k + 1)) d').bind fun l a => .ok (x :: l) a) = R := hJ
        rw [joinR_bind] at hJ2
        have step := hkc ⟨(k + 1, xs ++ [x], d'), by dsimp only; omega, by simp [hxl], hd', hJ2⟩ (by dsimp only; omega)
        have hY4 : Y.length + 1 + 1 + 1 + 1 < Y.length + 1 + 1 + 1 + 1 + 1 := Nat.lt_succ_self _
        have hroom : xs.length + 1 ≤ 34359738368 := by omega
        have hx2 : (xs.map smE ++ [DataW.agg (smC x)]).all (ltA (Y.length + 1 + 1 + 1 + 1 + 1)) = true := by
          rw [List.all_append, List.all_map, Function.comp_def, sms_ltA]; rfl
        simp only [List.map_append, List.map_cons, List.map_nil, List.length_append, List.length_cons, List.length_nil, Nat.zero_add, sm_it] at step
        simp (config := {maxSteps := 4000000, implicitDefEqProofs := false}) (disch := omega) only [go_sem, ↓reduceIte, Nat.reduceAdd, Nat.reduceSub, Nat.reduceMul, Nat.reduceLeDiff, Nat.reduceLT, Int.reduceEq, Int.reduceNe, Int.reduceLT, Int.reduceLE, Int.reduceAdd, Int.reduceSub, Int.reduceMul, Int.reduceNeg, Int.reduceToNat, reduceCtorEq, Nat.reduceEqDiff, Nat.reduceBEq, Nat.reduceGT, hlt', u_cvpC, u_cepP, stmt_tR, stmt_fR, hq, h0, h1, h2, hY, hY3, hroom, setL, takeLA, ltT_cl, hY4, w_i64]
        exact step
    · have hlt' : ¬ (k : Int) < (n : Int) := by omega
      rw [show n - k = 0 by omega] at hJ
      have hJ2 : RdO.ok (xs ++ []) d = R := hJ
      rw [List.append_nil] at hJ2
      subst hJ2
      rw [hr2]
      simp (config := {maxSteps := 4000000, implicitDefEqProofs := false}) (disch := omega) only [go_sem, ↓reduceIte, Nat.reduceAdd, Nat.reduceSub, Nat.reduceMul, Nat.reduceLeDiff, Nat.reduceLT, Int.reduceEq, Int.reduceNe, Int.reduceLT, Int.reduceLE, Int.reduceAdd, Int.reduceSub, Int.reduceMul, Int.reduceNeg, Int.reduceToNat, reduceCtorEq, Nat.reduceEqDiff, Nat.reduceBEq, Nat.reduceGT, hlt', hkx, h0, h1, h2, hY, hY3, ro_lastM, wire_some_Stmt_r1_eq]
theorem setL2 {A B B' : AObj} {Y : List AObj} : (Y ++ [A] ++ [B]).set (Y.length + 1) B' = Y ++ [A] ++ [B'] := by
  rw [show Y.length + 1 = (Y ++ [A]).length by simp, setL]
theorem setL2a {A A' B : AObj} {Y : List AObj} : (Y ++ [A] ++ [B]).set Y.length A' = Y ++ [A'] ++ [B] := by
  rw [List.append_assoc, List.append_assoc]
  simp
theorem nthOL2 {R : Type} {A B : AObj} {Y : List AObj} {K : AObj → Option R} : nthOE (Y ++ [A] ++ [B]) (Y.length + 1) K = K B := by
  rw [show Y.length + 1 = (Y ++ [A]).length by simp, nthOL]
theorem nthOL2a {R : Type} {A B : AObj} {Y : List AObj} {K : AObj → Option R} : nthOE (Y ++ [A] ++ [B]) Y.length K = K A := by
  rw [List.append_assoc]; simp [nthOE]
theorem takeL2 {A B : AObj} {Y : List AObj} : (Y ++ [A] ++ [B]).take Y.length = Y := by
  rw [List.append_assoc]; exact List.take_left
def ceN (x0 x1 x2 : Int) (x3 : List UInt8) : List AV := [nA x0, nA x1, nA x2, sA x3, V (.slice none 0 0)]
theorem ce_b {R : Type} {K1 : AV → Option R} {x0 x1 x2 : Int} {x3 : List UInt8} : buildE (some pl_api_Cert) (some zc_api_Cert) [(0, nA x0), (1, nA x1), (2, nA x2), (3, sA x3)] K1 = K1 (.agg (ceN x0 x1 x2 x3)) := _root_.id rfl
theorem ceN_set {x0 x1 x2 : Int} {x3 : List UInt8} : setCells zc_api_Cert 0 (ceN x0 x1 x2 x3) = ceN x0 x1 x2 x3 := _root_.id rfl
theorem ceN_len {x0 x1 x2 : Int} {x3 : List UInt8} : (ceN x0 x1 x2 x3).length = 5 := _root_.id rfl
theorem ceN_sure {x0 x1 x2 : Int} {x3 : List UInt8} : (ceN x0 x1 x2 x3).all sure = true := _root_.id rfl
theorem ceN_sl {x0 x1 x2 : Int} {x3 : List UInt8} {n : Nat} : ((ceN x0 x1 x2 x3).all fun y => sure y && lt1 n y) = true := _root_.id rfl
theorem ceN_set4 {x0 x1 x2 : Int} {x3 : List UInt8} {l : List Sm} : setCells (ceN x0 x1 x2 x3) 4 [SL (l.map smE)] = ceC ⟨x0, x1, x2, x3, l⟩ := _root_.id rfl
theorem cert_sR (m : Nat) (a : Nat) (h0 : ∀ n, ltO n X0 = true) (h1 : ∀ n, ltO n X1 = true) (h2 : ∀ n, ltO n X2 = true) (hY : ∀ n, Y.all (ltO n) = true) (hb : b.length ≤ 34359738368) (ha : a ≤ b.length) (hm : 70 < m) : wire_reader_cert m (OP 3 0) (RO3 X0 X1 X2 t b a Y) = prO X0 X1 X2 t b Y (fun v : Ce => ceE v) (certR b a) := by
  have hY3 : Y.length ≤ Y.length + 1 := Nat.le_succ _
  have hY5 : Y.length ≤ Y.length + 2 := Nat.le_add_right _ _
  rw [wire_reader_cert_eq]
  unfold certR
  have hY1 : ∀ n, (Y ++ [(⟨1, ty_api_Cert, 0, zc_api_Cert⟩ : AObj)]).all (ltO n) = true := fun n => by simp only [List.all_append, hY, Bool.true_and]; rfl
  have q0 := any_sR (t := t) (Y := Y ++ [(⟨1, ty_api_Cert, 0, zc_api_Cert⟩ : AObj)]) m a h0 h1 h2 (hY1) hb ha
  cases r0 : intR b 2147483647 a with
  | no e c =>
    rw [r0] at q0
    simp only [RO3_it, prO_no] at q0 ⊢
    try dsimp only [RdO.bind]
    simp (config := {maxSteps := 4000000, implicitDefEqProofs := false}) (disch := omega) only [go_sem, ↓reduceIte, Nat.reduceAdd, Nat.reduceSub, Nat.reduceMul, Nat.reduceLeDiff, Nat.reduceLT, Int.reduceEq, Int.reduceNe, Int.reduceLT, Int.reduceLE, Int.reduceAdd, Int.reduceSub, Int.reduceMul, Int.reduceNeg, Int.reduceToNat, reduceCtorEq, Nat.reduceEqDiff, Nat.reduceBEq, Nat.reduceGT, q0, h0, h1, h2, hY, hY3, setL, ro_cl, ce_b, ceN_set, ceN_len, ceN_sure, ceN_sl, ceN_set4, hY5, setL2, setL2a, nthOL2, nthOL2a, takeL2]
  | ok x0 a0 =>
    have ha0 : a0 ≤ b.length := get_in (intR_in ha) r0
    rw [r0] at q0
    simp only [RO3_it, prO_ok] at q0
    try dsimp only [RdO.bind]
    have q1 := any_sR (t := t) (Y := Y ++ [(⟨1, ty_api_Cert, 0, zc_api_Cert⟩ : AObj)]) m a0 h0 h1 h2 (hY1) hb ha0
    cases r1 : intR b 2147483647 a0 with
    | no e c =>
      rw [r1] at q1
      simp only [RO3_it, prO_no] at q1 ⊢
      try dsimp only [RdO.bind]
      simp (config := {maxSteps := 4000000, implicitDefEqProofs := false}) (disch := omega) only [go_sem, ↓reduceIte, Nat.reduceAdd, Nat.reduceSub, Nat.reduceMul, Nat.reduceLeDiff, Nat.reduceLT, Int.reduceEq, Int.reduceNe, Int.reduceLT, Int.reduceLE, Int.reduceAdd, Int.reduceSub, Int.reduceMul, Int.reduceNeg, Int.reduceToNat, reduceCtorEq, Nat.reduceEqDiff, Nat.reduceBEq, Nat.reduceGT, q0, q1, h0, h1, h2, hY, hY3, setL, ro_cl, ce_b, ceN_set, ceN_len, ceN_sure, ceN_sl, ceN_set4, hY5, setL2, setL2a, nthOL2, nthOL2a, takeL2]
    | ok x1 a1 =>
      have ha1 : a1 ≤ b.length := get_in (intR_in ha0) r1
      rw [r1] at q1
      simp only [RO3_it, prO_ok] at q1
      try dsimp only [RdO.bind]
      have q2 := any_sR (t := t) (Y := Y ++ [(⟨1, ty_api_Cert, 0, zc_api_Cert⟩ : AObj)]) m a1 h0 h1 h2 (hY1) hb ha1
      cases r2 : intR b 2147483647 a1 with
      | no e c =>
        rw [r2] at q2
        simp only [RO3_it, prO_no] at q2 ⊢
        try dsimp only [RdO.bind]
        simp (config := {maxSteps := 4000000, implicitDefEqProofs := false}) (disch := omega) only [go_sem, ↓reduceIte, Nat.reduceAdd, Nat.reduceSub, Nat.reduceMul, Nat.reduceLeDiff, Nat.reduceLT, Int.reduceEq, Int.reduceNe, Int.reduceLT, Int.reduceLE, Int.reduceAdd, Int.reduceSub, Int.reduceMul, Int.reduceNeg, Int.reduceToNat, reduceCtorEq, Nat.reduceEqDiff, Nat.reduceBEq, Nat.reduceGT, q0, q1, q2, h0, h1, h2, hY, hY3, setL, ro_cl, ce_b, ceN_set, ceN_len, ceN_sure, ceN_sl, ceN_set4, hY5, setL2, setL2a, nthOL2, nthOL2a, takeL2]
      | ok x2 a2 =>
        have ha2 : a2 ≤ b.length := get_in (intR_in ha1) r2
        rw [r2] at q2
        simp only [RO3_it, prO_ok] at q2
        try dsimp only [RdO.bind]
        have q3 := text_sR (t := t) (Y := Y ++ [(⟨1, ty_api_Cert, 0, zc_api_Cert⟩ : AObj)]) m a2 h0 h1 h2 (hY1) hb ha2
        cases r3 : textR b a2 with
        | no e c =>
          rw [r3] at q3
          simp only [RO3_it, prO_no] at q3 ⊢
          try dsimp only [RdO.bind]
          simp (config := {maxSteps := 4000000, implicitDefEqProofs := false}) (disch := omega) only [go_sem, ↓reduceIte, Nat.reduceAdd, Nat.reduceSub, Nat.reduceMul, Nat.reduceLeDiff, Nat.reduceLT, Int.reduceEq, Int.reduceNe, Int.reduceLT, Int.reduceLE, Int.reduceAdd, Int.reduceSub, Int.reduceMul, Int.reduceNeg, Int.reduceToNat, reduceCtorEq, Nat.reduceEqDiff, Nat.reduceBEq, Nat.reduceGT, q0, q1, q2, q3, h0, h1, h2, hY, hY3, setL, ro_cl, ce_b, ceN_set, ceN_len, ceN_sure, ceN_sl, ceN_set4, hY5, setL2, setL2a, nthOL2, nthOL2a, takeL2]
        | ok x3 a3 =>
          have ha3 : a3 ≤ b.length := get_in (textR_in ha2) r3
          rw [r3] at q3
          simp only [RO3_it, prO_ok] at q3
          try dsimp only [RdO.bind]
          have hY2 : ∀ n, (Y ++ [(⟨1, ty_api_Cert, 0, zc_api_Cert⟩ : AObj)] ++ [(⟨1, ty_api_Cert, 0, ceN x0 x1 x2 x3⟩ : AObj)]).all (ltO n) = true := fun n => by simp only [List.all_append, hY, Bool.true_and]; rfl
          have q4 := someStmt_sR (t := t) (Y := Y ++ [(⟨1, ty_api_Cert, 0, zc_api_Cert⟩ : AObj)] ++ [(⟨1, ty_api_Cert, 0, ceN x0 x1 x2 x3⟩ : AObj)]) m a3 h0 h1 h2 (hY2) hb ha3 hm
          cases r4 : someR b (stmtR b) a3 with
          | no e c =>
            rw [r4] at q4
            simp only [RO3_it, prO_no] at q4 ⊢
            try dsimp only [RdO.bind]
            simp (config := {maxSteps := 4000000, implicitDefEqProofs := false}) (disch := omega) only [go_sem, ↓reduceIte, Nat.reduceAdd, Nat.reduceSub, Nat.reduceMul, Nat.reduceLeDiff, Nat.reduceLT, Int.reduceEq, Int.reduceNe, Int.reduceLT, Int.reduceLE, Int.reduceAdd, Int.reduceSub, Int.reduceMul, Int.reduceNeg, Int.reduceToNat, reduceCtorEq, Nat.reduceEqDiff, Nat.reduceBEq, Nat.reduceGT, q0, q1, q2, q3, q4, h0, h1, h2, hY, hY3, setL, ro_cl, ce_b, ceN_set, ceN_len, ceN_sure, ceN_sl, ceN_set4, hY5, setL2, setL2a, nthOL2, nthOL2a, takeL2]
          | ok x4 a4 =>
            have ha4 : a4 ≤ b.length := get_in (someR_in (fun _ => stmtR_in) ha3) r4
            rw [r4] at q4
            simp only [RO3_it, prO_ok] at q4
            try dsimp only [RdO.bind]
            simp only [RO3_it, prO_ok]
            simp (config := {maxSteps := 4000000, implicitDefEqProofs := false}) (disch := omega) only [go_sem, ↓reduceIte, Nat.reduceAdd, Nat.reduceSub, Nat.reduceMul, Nat.reduceLeDiff, Nat.reduceLT, Int.reduceEq, Int.reduceNe, Int.reduceLT, Int.reduceLE, Int.reduceAdd, Int.reduceSub, Int.reduceMul, Int.reduceNeg, Int.reduceToNat, reduceCtorEq, Nat.reduceEqDiff, Nat.reduceBEq, Nat.reduceGT, q0, q1, q2, q3, q4, h0, h1, h2, hY, hY3, setL, ro_cl, ce_b, ceN_set, ceN_len, ceN_sure, ceN_sl, ceN_set4, hY5, setL2, setL2a, nthOL2, nthOL2a, takeL2]
theorem cert_tR {m : Nat} {a : AV} {H : List AObj} : wire_reader_cert_t m [a] H = wire_reader_cert m a H := _root_.id rfl
theorem cert_fR {m : Nat} : findE (wire_some_Cert_env m) 62 = some (.pan (wire_reader_cert_t m)) := _root_.id rfl
theorem cert_finP {n : Nat} {u : Value} {s : ASt} : wire_some_Cert_fin n (.panic (pch u)) s = panKE n s.H u := _root_.id rfl
theorem someCert_sR (m : Nat) (a : Nat) (h0 : ∀ n, ltO n X0 = true) (h1 : ∀ n, ltO n X1 = true) (h2 : ∀ n, ltO n X2 = true) (hY : ∀ n, Y.all (ltO n) = true) (hb : b.length ≤ 34359738368) (ha : a ≤ b.length) (hm : 70 < m) : wire_some_Cert m (OP 3 0) (CL (.func 62) 1 [OP 3 0]) (RO3 X0 X1 X2 t b a Y) = prO X0 X1 X2 t b Y (fun l : List Ce => SL (l.map ceE)) (someR b (certR b) a) := by
  have q := num_sR (t := t) m 64 a h0 h1 h2 hY hb ha (by omega)
  have hi := numR_in (most := 64) ha
  rw [wire_some_Cert_eq]
  unfold someR
  cases hr : numR b 64 a with
  | no e a' => rw [hr] at q; simp only [RO3_it, prO_no, Int.cast_ofNat_Int] at q ⊢; dsimp only [RdO.bind]; simp (config := {maxSteps := 4000000, implicitDefEqProofs := false}) (disch := omega) only [go_sem, ↓reduceIte, Nat.reduceAdd, Nat.reduceSub, Nat.reduceMul, Nat.reduceLeDiff, Nat.reduceLT, Int.reduceEq, Int.reduceNe, Int.reduceLT, Int.reduceLE, Int.reduceAdd, Int.reduceSub, Int.reduceMul, Int.reduceNeg, Int.reduceToNat, reduceCtorEq, Nat.reduceEqDiff, Nat.reduceBEq, Nat.reduceGT, q, h0, h1, h2, hY]
  | ok n c =>
    have hc : c ≤ b.length := get_in hi hr
    have hn := numR_most hr
    rw [hr] at q
    simp only [RO3_it, prO_ok, Int.cast_ofNat_Int] at q ⊢
    dsimp only [RdO.bind]
    generalize hR : loopR (certR b) n c = R
    obtain ⟨r, hr2⟩ : ∃ r, r = prO X0 X1 X2 t b Y (fun l : List Ce => SL (l.map ceE)) R := ⟨_, rfl⟩
    rw [← hr2]
    have i0 : joinR ([] : List Ce) (loopR (certR b) (n - 0) c) = R := by rw [joinR_nil]; exact hR
    simp (config := {maxSteps := 4000000, implicitDefEqProofs := false}) (disch := omega) only [go_sem, ↓reduceIte, Nat.reduceAdd, Nat.reduceSub, Nat.reduceMul, Nat.reduceLeDiff, Nat.reduceLT, Int.reduceEq, Int.reduceNe, Int.reduceLT, Int.reduceLE, Int.reduceAdd, Int.reduceSub, Int.reduceMul, Int.reduceNeg, Int.reduceToNat, reduceCtorEq, Nat.reduceEqDiff, Nat.reduceBEq, Nat.reduceGT, q, ro_cl]
    refine iter_go (m := m) (ι := {k : Nat × List Ce × Nat // k.1 ≤ n ∧ k.2.1.length = k.1 ∧ k.2.2 ≤ b.length ∧ joinR k.2.1 (loopR (certR b) (n - k.1) k.2.2) = R}) (fun k => ⟨X0 :: X1 :: X2 :: ⟨1, t, 0, [SL (bC b), nA k.1.2.2]⟩ :: (Y ++ [⟨2, ty_api_Cert, 5, k.1.2.1.map ceE⟩]), [(1, CL (.func 62) 1 [OP 3 0]), (5, OW (Y.length + 1 + 1 + 1 + 1) k.1.2.1.length), (7, nA n), (8, nA k.1.1)]⟩) (fun k => n - k.1.1) (fun _ => r) ?_ ⟨(0, [], c), Nat.zero_le _, rfl, hc, i0⟩ (by dsimp only; omega)
    rintro kx hkx ⟨⟨k, xs, d⟩, hk, hxl, hd, hJ⟩ kc hkc
    dsimp only at hk hxl hd hJ hkc ⊢
    have hY3 : Y.length ≤ Y.length + 1 := Nat.le_succ _
    have hY' : ∀ n, (Y ++ [(⟨2, ty_api_Cert, 5, xs.map ceE⟩ : AObj)]).all (ltO n) = true := fun n => by
      simp only [List.all_append, hY, Bool.true_and, List.all_cons, List.all_nil, Bool.and_true, ltO_r, List.all_map]
      exact ces_ltA
    rw [wire_some_Cert_b1_eq]
    by_cases hlt : k < n
    · have hlt' : (k : Int) < (n : Int) := by omega
      have hq := cert_sR (t := t) m d h0 h1 h2 hY' hb hd hm
      rw [show n - k = (n - (k + 1)) + 1 by omega] at hJ
      unfold loopR at hJ
      cases ho : certR b d with
      | no e d' =>
        rw [ho] at hq hJ
        simp only [RO3_it, prO_no] at hq
        have hJ2 : RdO.no e d' = R := hJ
        subst hJ2
        rw [hr2]
        simp (config := {maxSteps := 4000000, implicitDefEqProofs := false}) (disch := omega) only [go_sem, ↓reduceIte, Nat.reduceAdd, Nat.reduceSub, Nat.reduceMul, Nat.reduceLeDiff, Nat.reduceLT, Int.reduceEq, Int.reduceNe, Int.reduceLT, Int.reduceLE, Int.reduceAdd, Int.reduceSub, Int.reduceMul, Int.reduceNeg, Int.reduceToNat, reduceCtorEq, Nat.reduceEqDiff, Nat.reduceBEq, Nat.reduceGT, hlt', u_cvpC, u_cepP, u_blkPn, u_seqPn, cert_tR, cert_fR, cert_finP, hq, hkx, h0, h1, h2, hY, hY3]
      | ok x d' =>
        have hd' : d' ≤ b.length := get_in (certR_in hd) ho
        rw [ho] at hq hJ
        simp only [RO3_it, prO_ok] at hq
        have hJ2 : joinR xs ((loopR (certR b) (n - (k + 1)) d').bind fun l a => .ok (x :: l) a) = R := hJ
        rw [joinR_bind] at hJ2
        have step := hkc ⟨(k + 1, xs ++ [x], d'), by dsimp only; omega, by simp [hxl], hd', hJ2⟩ (by dsimp only; omega)
        have hY4 : Y.length + 1 + 1 + 1 + 1 < Y.length + 1 + 1 + 1 + 1 + 1 := Nat.lt_succ_self _
        have hroom : xs.length + 1 ≤ 34359738368 := by omega
        have hx2 : (xs.map ceE ++ [DataW.agg (ceC x)]).all (ltA (Y.length + 1 + 1 + 1 + 1 + 1)) = true := by
          rw [List.all_append, List.all_map, Function.comp_def, ces_ltA]; rfl
        simp only [List.map_append, List.map_cons, List.map_nil, List.length_append, List.length_cons, List.length_nil, Nat.zero_add, ce_it] at step
        simp (config := {maxSteps := 4000000, implicitDefEqProofs := false}) (disch := omega) only [go_sem, ↓reduceIte, Nat.reduceAdd, Nat.reduceSub, Nat.reduceMul, Nat.reduceLeDiff, Nat.reduceLT, Int.reduceEq, Int.reduceNe, Int.reduceLT, Int.reduceLE, Int.reduceAdd, Int.reduceSub, Int.reduceMul, Int.reduceNeg, Int.reduceToNat, reduceCtorEq, Nat.reduceEqDiff, Nat.reduceBEq, Nat.reduceGT, hlt', u_cvpC, u_cepP, cert_tR, cert_fR, hq, h0, h1, h2, hY, hY3, hroom, setL, takeLA, ltT_cl, hY4, w_i64]
        exact step
    · have hlt' : ¬ (k : Int) < (n : Int) := by omega
      rw [show n - k = 0 by omega] at hJ
      have hJ2 : RdO.ok (xs ++ []) d = R := hJ
      rw [List.append_nil] at hJ2
      subst hJ2
      rw [hr2]
      simp (config := {maxSteps := 4000000, implicitDefEqProofs := false}) (disch := omega) only [go_sem, ↓reduceIte, Nat.reduceAdd, Nat.reduceSub, Nat.reduceMul, Nat.reduceLeDiff, Nat.reduceLT, Int.reduceEq, Int.reduceNe, Int.reduceLT, Int.reduceLE, Int.reduceAdd, Int.reduceSub, Int.reduceMul, Int.reduceNeg, Int.reduceToNat, reduceCtorEq, Nat.reduceEqDiff, Nat.reduceBEq, Nat.reduceGT, hlt', hkx, h0, h1, h2, hY, hY3, ro_lastM, wire_some_Cert_r1_eq]
def cgN (x0 x1 x2 x3 : Int) : List AV := [nA x0, nA x1, nA x2, nA x3, V (.slice none 0 0), V (.slice none 0 0)]
def cgM (x0 x1 x2 x3 : Int) (l : List Sm) : List AV := [nA x0, nA x1, nA x2, nA x3, SL (l.map smE), V (.slice none 0 0)]
theorem cg_b {R : Type} {K1 : AV → Option R} {x0 x1 x2 x3 : Int} : buildE (some pl_api_Change) (some zc_api_Change) [(0, nA x0), (1, nA x1), (2, nA x2), (3, nA x3)] K1 = K1 (.agg (cgN x0 x1 x2 x3)) := _root_.id rfl
theorem cgN_set {x0 x1 x2 x3 : Int} : setCells zc_api_Change 0 (cgN x0 x1 x2 x3) = cgN x0 x1 x2 x3 := _root_.id rfl
theorem cgN_len {x0 x1 x2 x3 : Int} : (cgN x0 x1 x2 x3).length = 6 := _root_.id rfl
theorem cgM_len {x0 x1 x2 x3 : Int} {l : List Sm} : (cgM x0 x1 x2 x3 l).length = 6 := _root_.id rfl
theorem cgN_sure {x0 x1 x2 x3 : Int} : (cgN x0 x1 x2 x3).all sure = true := _root_.id rfl
theorem cgN_sl {x0 x1 x2 x3 : Int} {n : Nat} : ((cgN x0 x1 x2 x3).all fun y => sure y && lt1 n y) = true := _root_.id rfl
theorem cgN_set4 {x0 x1 x2 x3 : Int} {l : List Sm} : setCells (cgN x0 x1 x2 x3) 4 [SL (l.map smE)] = cgM x0 x1 x2 x3 l := _root_.id rfl
theorem cgM_set5 {x0 x1 x2 x3 : Int} {l : List Sm} {l2 : List Ce} : setCells (cgM x0 x1 x2 x3 l) 5 [SL (l2.map ceE)] = cgC ⟨x0, x1, x2, x3, l, l2⟩ := _root_.id rfl
theorem change_sR (m : Nat) (a : Nat) (h0 : ∀ n, ltO n X0 = true) (h1 : ∀ n, ltO n X1 = true) (h2 : ∀ n, ltO n X2 = true) (hY : ∀ n, Y.all (ltO n) = true) (hb : b.length ≤ 34359738368) (ha : a ≤ b.length) (hm : 70 < m) : wire_reader_change m (OP 3 0) (RO3 X0 X1 X2 t b a Y) = prO X0 X1 X2 t b Y (fun v : Ch => cgE v) (changeR b a) := by
  have hY3 : Y.length ≤ Y.length + 1 := Nat.le_succ _
  have hY5 : Y.length ≤ Y.length + 2 := Nat.le_add_right _ _
  rw [wire_reader_change_eq]
  unfold changeR
  have hY1 : ∀ n, (Y ++ [(⟨1, ty_api_Change, 0, zc_api_Change⟩ : AObj)]).all (ltO n) = true := fun n => by simp only [List.all_append, hY, Bool.true_and]; rfl
  have q0 := party_sR (t := t) (Y := Y ++ [(⟨1, ty_api_Change, 0, zc_api_Change⟩ : AObj)]) m a h0 h1 h2 (hY1) hb ha
  cases r0 : intR b 63 a with
  | no e c =>
    rw [r0] at q0
    simp only [RO3_it, prO_no] at q0 ⊢
    try dsimp only [RdO.bind]
    simp (config := {maxSteps := 4000000, implicitDefEqProofs := false}) (disch := omega) only [go_sem, ↓reduceIte, Nat.reduceAdd, Nat.reduceSub, Nat.reduceMul, Nat.reduceLeDiff, Nat.reduceLT, Int.reduceEq, Int.reduceNe, Int.reduceLT, Int.reduceLE, Int.reduceAdd, Int.reduceSub, Int.reduceMul, Int.reduceNeg, Int.reduceToNat, reduceCtorEq, Nat.reduceEqDiff, Nat.reduceBEq, Nat.reduceGT, q0, h0, h1, h2, hY, hY3, setL, ro_cl, cg_b, cgN_set, cgN_len, cgN_sure, cgN_sl, cgN_set4, cgM_set5, cgM_len, hY5, setL2, setL2a, nthOL2, nthOL2a, takeL2]
  | ok x0 a0 =>
    have ha0 : a0 ≤ b.length := get_in (intR_in ha) r0
    rw [r0] at q0
    simp only [RO3_it, prO_ok] at q0
    try dsimp only [RdO.bind]
    have q1 := any_sR (t := t) (Y := Y ++ [(⟨1, ty_api_Change, 0, zc_api_Change⟩ : AObj)]) m a0 h0 h1 h2 (hY1) hb ha0
    cases r1 : intR b 2147483647 a0 with
    | no e c =>
      rw [r1] at q1
      simp only [RO3_it, prO_no] at q1 ⊢
      try dsimp only [RdO.bind]
      simp (config := {maxSteps := 4000000, implicitDefEqProofs := false}) (disch := omega) only [go_sem, ↓reduceIte, Nat.reduceAdd, Nat.reduceSub, Nat.reduceMul, Nat.reduceLeDiff, Nat.reduceLT, Int.reduceEq, Int.reduceNe, Int.reduceLT, Int.reduceLE, Int.reduceAdd, Int.reduceSub, Int.reduceMul, Int.reduceNeg, Int.reduceToNat, reduceCtorEq, Nat.reduceEqDiff, Nat.reduceBEq, Nat.reduceGT, q0, q1, h0, h1, h2, hY, hY3, setL, ro_cl, cg_b, cgN_set, cgN_len, cgN_sure, cgN_sl, cgN_set4, cgM_set5, cgM_len, hY5, setL2, setL2a, nthOL2, nthOL2a, takeL2]
    | ok x1 a1 =>
      have ha1 : a1 ≤ b.length := get_in (intR_in ha0) r1
      rw [r1] at q1
      simp only [RO3_it, prO_ok] at q1
      try dsimp only [RdO.bind]
      have q2 := any_sR (t := t) (Y := Y ++ [(⟨1, ty_api_Change, 0, zc_api_Change⟩ : AObj)]) m a1 h0 h1 h2 (hY1) hb ha1
      cases r2 : intR b 2147483647 a1 with
      | no e c =>
        rw [r2] at q2
        simp only [RO3_it, prO_no] at q2 ⊢
        try dsimp only [RdO.bind]
        simp (config := {maxSteps := 4000000, implicitDefEqProofs := false}) (disch := omega) only [go_sem, ↓reduceIte, Nat.reduceAdd, Nat.reduceSub, Nat.reduceMul, Nat.reduceLeDiff, Nat.reduceLT, Int.reduceEq, Int.reduceNe, Int.reduceLT, Int.reduceLE, Int.reduceAdd, Int.reduceSub, Int.reduceMul, Int.reduceNeg, Int.reduceToNat, reduceCtorEq, Nat.reduceEqDiff, Nat.reduceBEq, Nat.reduceGT, q0, q1, q2, h0, h1, h2, hY, hY3, setL, ro_cl, cg_b, cgN_set, cgN_len, cgN_sure, cgN_sl, cgN_set4, cgM_set5, cgM_len, hY5, setL2, setL2a, nthOL2, nthOL2a, takeL2]
      | ok x2 a2 =>
        have ha2 : a2 ≤ b.length := get_in (intR_in ha1) r2
        rw [r2] at q2
        simp only [RO3_it, prO_ok] at q2
        try dsimp only [RdO.bind]
        have q3 := any_sR (t := t) (Y := Y ++ [(⟨1, ty_api_Change, 0, zc_api_Change⟩ : AObj)]) m a2 h0 h1 h2 (hY1) hb ha2
        cases r3 : intR b 2147483647 a2 with
        | no e c =>
          rw [r3] at q3
          simp only [RO3_it, prO_no] at q3 ⊢
          try dsimp only [RdO.bind]
          simp (config := {maxSteps := 4000000, implicitDefEqProofs := false}) (disch := omega) only [go_sem, ↓reduceIte, Nat.reduceAdd, Nat.reduceSub, Nat.reduceMul, Nat.reduceLeDiff, Nat.reduceLT, Int.reduceEq, Int.reduceNe, Int.reduceLT, Int.reduceLE, Int.reduceAdd, Int.reduceSub, Int.reduceMul, Int.reduceNeg, Int.reduceToNat, reduceCtorEq, Nat.reduceEqDiff, Nat.reduceBEq, Nat.reduceGT, q0, q1, q2, q3, h0, h1, h2, hY, hY3, setL, ro_cl, cg_b, cgN_set, cgN_len, cgN_sure, cgN_sl, cgN_set4, cgM_set5, cgM_len, hY5, setL2, setL2a, nthOL2, nthOL2a, takeL2]
        | ok x3 a3 =>
          have ha3 : a3 ≤ b.length := get_in (intR_in ha2) r3
          rw [r3] at q3
          simp only [RO3_it, prO_ok] at q3
          try dsimp only [RdO.bind]
          have hY2 : ∀ n, (Y ++ [(⟨1, ty_api_Change, 0, zc_api_Change⟩ : AObj)] ++ [(⟨1, ty_api_Change, 0, cgN x0 x1 x2 x3⟩ : AObj)]).all (ltO n) = true := fun n => by simp only [List.all_append, hY, Bool.true_and]; rfl
          have q4 := someStmt_sR (t := t) (Y := Y ++ [(⟨1, ty_api_Change, 0, zc_api_Change⟩ : AObj)] ++ [(⟨1, ty_api_Change, 0, cgN x0 x1 x2 x3⟩ : AObj)]) m a3 h0 h1 h2 (hY2) hb ha3 hm
          cases r4 : someR b (stmtR b) a3 with
          | no e c =>
            rw [r4] at q4
            simp only [RO3_it, prO_no] at q4 ⊢
            try dsimp only [RdO.bind]
            simp (config := {maxSteps := 4000000, implicitDefEqProofs := false}) (disch := omega) only [go_sem, ↓reduceIte, Nat.reduceAdd, Nat.reduceSub, Nat.reduceMul, Nat.reduceLeDiff, Nat.reduceLT, Int.reduceEq, Int.reduceNe, Int.reduceLT, Int.reduceLE, Int.reduceAdd, Int.reduceSub, Int.reduceMul, Int.reduceNeg, Int.reduceToNat, reduceCtorEq, Nat.reduceEqDiff, Nat.reduceBEq, Nat.reduceGT, q0, q1, q2, q3, q4, h0, h1, h2, hY, hY3, setL, ro_cl, cg_b, cgN_set, cgN_len, cgN_sure, cgN_sl, cgN_set4, cgM_set5, cgM_len, hY5, setL2, setL2a, nthOL2, nthOL2a, takeL2]
          | ok x4 a4 =>
            have ha4 : a4 ≤ b.length := get_in (someR_in (fun _ => stmtR_in) ha3) r4
            rw [r4] at q4
            simp only [RO3_it, prO_ok] at q4
            try dsimp only [RdO.bind]
            have hY4 : ∀ n, (Y ++ [(⟨1, ty_api_Change, 0, zc_api_Change⟩ : AObj)] ++ [(⟨1, ty_api_Change, 0, cgM x0 x1 x2 x3 x4⟩ : AObj)]).all (ltO n) = true := fun n => by simp only [List.all_append, hY, Bool.true_and]; rfl
            have q5 := someCert_sR (t := t) (Y := Y ++ [(⟨1, ty_api_Change, 0, zc_api_Change⟩ : AObj)] ++ [(⟨1, ty_api_Change, 0, cgM x0 x1 x2 x3 x4⟩ : AObj)]) m a4 h0 h1 h2 (hY4) hb ha4 hm
            cases r5 : someR b (certR b) a4 with
            | no e c =>
              rw [r5] at q5
              simp only [RO3_it, prO_no] at q5 ⊢
              try dsimp only [RdO.bind]
              simp (config := {maxSteps := 4000000, implicitDefEqProofs := false}) (disch := omega) only [go_sem, ↓reduceIte, Nat.reduceAdd, Nat.reduceSub, Nat.reduceMul, Nat.reduceLeDiff, Nat.reduceLT, Int.reduceEq, Int.reduceNe, Int.reduceLT, Int.reduceLE, Int.reduceAdd, Int.reduceSub, Int.reduceMul, Int.reduceNeg, Int.reduceToNat, reduceCtorEq, Nat.reduceEqDiff, Nat.reduceBEq, Nat.reduceGT, q0, q1, q2, q3, q4, q5, h0, h1, h2, hY, hY3, setL, ro_cl, cg_b, cgN_set, cgN_len, cgN_sure, cgN_sl, cgN_set4, cgM_set5, cgM_len, hY5, setL2, setL2a, nthOL2, nthOL2a, takeL2]
            | ok x5 a5 =>
              have ha5 : a5 ≤ b.length := get_in (someR_in (fun _ => certR_in) ha4) r5
              rw [r5] at q5
              simp only [RO3_it, prO_ok] at q5
              try dsimp only [RdO.bind]
              simp only [RO3_it, prO_ok]
              simp (config := {maxSteps := 4000000, implicitDefEqProofs := false}) (disch := omega) only [go_sem, ↓reduceIte, Nat.reduceAdd, Nat.reduceSub, Nat.reduceMul, Nat.reduceLeDiff, Nat.reduceLT, Int.reduceEq, Int.reduceNe, Int.reduceLT, Int.reduceLE, Int.reduceAdd, Int.reduceSub, Int.reduceMul, Int.reduceNeg, Int.reduceToNat, reduceCtorEq, Nat.reduceEqDiff, Nat.reduceBEq, Nat.reduceGT, q0, q1, q2, q3, q4, q5, h0, h1, h2, hY, hY3, setL, ro_cl, cg_b, cgN_set, cgN_len, cgN_sure, cgN_sl, cgN_set4, cgM_set5, cgM_len, hY5, setL2, setL2a, nthOL2, nthOL2a, takeL2]
theorem change_tR {m : Nat} {a : AV} {H : List AObj} : wire_reader_change_t m [a] H = wire_reader_change m a H := _root_.id rfl
theorem change_fR {m : Nat} : findE (wire_some_Change_env m) 29 = some (.pan (wire_reader_change_t m)) := _root_.id rfl
theorem change_finP {n : Nat} {u : Value} {s : ASt} : wire_some_Change_fin n (.panic (pch u)) s = panKE n s.H u := _root_.id rfl
theorem someChange_sR (m : Nat) (a : Nat) (h0 : ∀ n, ltO n X0 = true) (h1 : ∀ n, ltO n X1 = true) (h2 : ∀ n, ltO n X2 = true) (hY : ∀ n, Y.all (ltO n) = true) (hb : b.length ≤ 34359738368) (ha : a ≤ b.length) (hm : 70 < m) : wire_some_Change m (OP 3 0) (CL (.func 29) 1 [OP 3 0]) (RO3 X0 X1 X2 t b a Y) = prO X0 X1 X2 t b Y (fun l : List Ch => SL (l.map cgE)) (someR b (changeR b) a) := by
  have q := num_sR (t := t) m 64 a h0 h1 h2 hY hb ha (by omega)
  have hi := numR_in (most := 64) ha
  rw [wire_some_Change_eq]
  unfold someR
  cases hr : numR b 64 a with
  | no e a' => rw [hr] at q; simp only [RO3_it, prO_no, Int.cast_ofNat_Int] at q ⊢; dsimp only [RdO.bind]; simp (config := {maxSteps := 4000000, implicitDefEqProofs := false}) (disch := omega) only [go_sem, ↓reduceIte, Nat.reduceAdd, Nat.reduceSub, Nat.reduceMul, Nat.reduceLeDiff, Nat.reduceLT, Int.reduceEq, Int.reduceNe, Int.reduceLT, Int.reduceLE, Int.reduceAdd, Int.reduceSub, Int.reduceMul, Int.reduceNeg, Int.reduceToNat, reduceCtorEq, Nat.reduceEqDiff, Nat.reduceBEq, Nat.reduceGT, q, h0, h1, h2, hY]
  | ok n c =>
    have hc : c ≤ b.length := get_in hi hr
    have hn := numR_most hr
    rw [hr] at q
    simp only [RO3_it, prO_ok, Int.cast_ofNat_Int] at q ⊢
    dsimp only [RdO.bind]
    generalize hR : loopR (changeR b) n c = R
    obtain ⟨r, hr2⟩ : ∃ r, r = prO X0 X1 X2 t b Y (fun l : List Ch => SL (l.map cgE)) R := ⟨_, rfl⟩
    rw [← hr2]
    have i0 : joinR ([] : List Ch) (loopR (changeR b) (n - 0) c) = R := by rw [joinR_nil]; exact hR
    simp (config := {maxSteps := 4000000, implicitDefEqProofs := false}) (disch := omega) only [go_sem, ↓reduceIte, Nat.reduceAdd, Nat.reduceSub, Nat.reduceMul, Nat.reduceLeDiff, Nat.reduceLT, Int.reduceEq, Int.reduceNe, Int.reduceLT, Int.reduceLE, Int.reduceAdd, Int.reduceSub, Int.reduceMul, Int.reduceNeg, Int.reduceToNat, reduceCtorEq, Nat.reduceEqDiff, Nat.reduceBEq, Nat.reduceGT, q, ro_cl]
    refine iter_go (m := m) (ι := {k : Nat × List Ch × Nat // k.1 ≤ n ∧ k.2.1.length = k.1 ∧ k.2.2 ≤ b.length ∧ joinR k.2.1 (loopR (changeR b) (n - k.1) k.2.2) = R}) (fun k => ⟨X0 :: X1 :: X2 :: ⟨1, t, 0, [SL (bC b), nA k.1.2.2]⟩ :: (Y ++ [⟨2, ty_api_Change, 6, k.1.2.1.map cgE⟩]), [(1, CL (.func 29) 1 [OP 3 0]), (5, OW (Y.length + 1 + 1 + 1 + 1) k.1.2.1.length), (7, nA n), (8, nA k.1.1)]⟩) (fun k => n - k.1.1) (fun _ => r) ?_ ⟨(0, [], c), Nat.zero_le _, rfl, hc, i0⟩ (by dsimp only; omega)
    rintro kx hkx ⟨⟨k, xs, d⟩, hk, hxl, hd, hJ⟩ kc hkc
    dsimp only at hk hxl hd hJ hkc ⊢
    have hY3 : Y.length ≤ Y.length + 1 := Nat.le_succ _
    have hY' : ∀ n, (Y ++ [(⟨2, ty_api_Change, 6, xs.map cgE⟩ : AObj)]).all (ltO n) = true := fun n => by
      simp only [List.all_append, hY, Bool.true_and, List.all_cons, List.all_nil, Bool.and_true, ltO_r, List.all_map]
      exact cgs_ltA
    rw [wire_some_Change_b1_eq]
    by_cases hlt : k < n
    · have hlt' : (k : Int) < (n : Int) := by omega
      have hq := change_sR (t := t) m d h0 h1 h2 hY' hb hd hm
      rw [show n - k = (n - (k + 1)) + 1 by omega] at hJ
      unfold loopR at hJ
      cases ho : changeR b d with
      | no e d' =>
        rw [ho] at hq hJ
        simp only [RO3_it, prO_no] at hq
        have hJ2 : RdO.no e d' = R := hJ
        subst hJ2
        rw [hr2]
        simp (config := {maxSteps := 4000000, implicitDefEqProofs := false}) (disch := omega) only [go_sem, ↓reduceIte, Nat.reduceAdd, Nat.reduceSub, Nat.reduceMul, Nat.reduceLeDiff, Nat.reduceLT, Int.reduceEq, Int.reduceNe, Int.reduceLT, Int.reduceLE, Int.reduceAdd, Int.reduceSub, Int.reduceMul, Int.reduceNeg, Int.reduceToNat, reduceCtorEq, Nat.reduceEqDiff, Nat.reduceBEq, Nat.reduceGT, hlt', u_cvpC, u_cepP, u_blkPn, u_seqPn, change_tR, change_fR, change_finP, hq, hkx, h0, h1, h2, hY, hY3]
      | ok x d' =>
        have hd' : d' ≤ b.length := get_in (changeR_in hd) ho
        rw [ho] at hq hJ
        simp only [RO3_it, prO_ok] at hq
        have hJ2 : joinR xs ((loopR (changeR b) (n - (k + 1)) d').bind fun l a => .ok (x :: l) a) = R := hJ
        rw [joinR_bind] at hJ2
        have step := hkc ⟨(k + 1, xs ++ [x], d'), by dsimp only; omega, by simp [hxl], hd', hJ2⟩ (by dsimp only; omega)
        have hY4 : Y.length + 1 + 1 + 1 + 1 < Y.length + 1 + 1 + 1 + 1 + 1 := Nat.lt_succ_self _
        have hroom : xs.length + 1 ≤ 34359738368 := by omega
        have hx2 : (xs.map cgE ++ [DataW.agg (cgC x)]).all (ltA (Y.length + 1 + 1 + 1 + 1 + 1)) = true := by
          rw [List.all_append, List.all_map, Function.comp_def, cgs_ltA]; rfl
        simp only [List.map_append, List.map_cons, List.map_nil, List.length_append, List.length_cons, List.length_nil, Nat.zero_add, cg_it] at step
        simp (config := {maxSteps := 4000000, implicitDefEqProofs := false}) (disch := omega) only [go_sem, ↓reduceIte, Nat.reduceAdd, Nat.reduceSub, Nat.reduceMul, Nat.reduceLeDiff, Nat.reduceLT, Int.reduceEq, Int.reduceNe, Int.reduceLT, Int.reduceLE, Int.reduceAdd, Int.reduceSub, Int.reduceMul, Int.reduceNeg, Int.reduceToNat, reduceCtorEq, Nat.reduceEqDiff, Nat.reduceBEq, Nat.reduceGT, hlt', u_cvpC, u_cepP, change_tR, change_fR, hq, h0, h1, h2, hY, hY3, hroom, setL, takeLA, ltT_cl, hY4, w_i64]
        exact step
    · have hlt' : ¬ (k : Int) < (n : Int) := by omega
      rw [show n - k = 0 by omega] at hJ
      have hJ2 : RdO.ok (xs ++ []) d = R := hJ
      rw [List.append_nil] at hJ2
      subst hJ2
      rw [hr2]
      simp (config := {maxSteps := 4000000, implicitDefEqProofs := false}) (disch := omega) only [go_sem, ↓reduceIte, Nat.reduceAdd, Nat.reduceSub, Nat.reduceMul, Nat.reduceLeDiff, Nat.reduceLT, Int.reduceEq, Int.reduceNe, Int.reduceLT, Int.reduceLE, Int.reduceAdd, Int.reduceSub, Int.reduceMul, Int.reduceNeg, Int.reduceToNat, reduceCtorEq, Nat.reduceEqDiff, Nat.reduceBEq, Nat.reduceGT, hlt', hkx, h0, h1, h2, hY, hY3, ro_lastM, wire_some_Change_r1_eq]
end
end Go.Proofs.Ytbdbmfifclmpcaa
