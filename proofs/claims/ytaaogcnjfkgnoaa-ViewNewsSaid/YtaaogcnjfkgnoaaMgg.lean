/-
  Texts laid together, part 7 of 8: laws of a walk over data, contracts of functions, each whole by itself.
-/
import Derived.Test.YtaaogcnjfkgnoaaMgf
set_option maxRecDepth 100000
noncomputable section
set_option linter.unusedVariables false
set_option linter.unusedSimpArgs false
section
namespace Go.Proofs.Ytaaogcnjfkgnoaa
attribute [local go_sem] Nat.zero_add Nat.add_zero Nat.mul_one Int.toNat_natCast Int.natCast_zero Int.cast_ofNat_Int or_false false_or or_true true_or Nat.sub_zero Int.natCast_nonneg Int.toNat_zero Bool.true_and Bool.and_true Bool.false_and Bool.and_false Bool.true_or Bool.or_true Bool.false_or Bool.or_false Bool.not_true Bool.not_false Bool.not_not true_and and_true false_and and_false not_true_eq_false not_false_eq_true eq_self decide_true decide_false ne_eq implies_true forall_const true_implies false_implies Bool.true_eq_false Bool.false_eq_true List.map_cons List.map_nil List.all_cons List.all_nil List.length_cons List.length_nil List.length_map List.length_append List.nil_append List.cons_append List.set_cons_zero List.set_cons_succ List.set_nil List.drop_zero List.drop_succ_cons List.drop_nil List.take_zero List.take_succ_cons List.take_nil Option.map_some Option.map_none Option.isSome_some List.all_append List.all_map Function.comp_def decide_eq_true_eq Bool.and_eq_true beq_self_eq_true or_self and_self ite_true ite_false Nat.le_refl Bool.not_eq_true decide_not Bool.not_eq_true' decide_eq_false_iff_not Bool.not_eq_false Bool.or_eq_true if_true if_false ite_self zgt zgL zgT zgD zgN z5I z6x znr zim zl3 znw zj7 zut zii zw8 zoB znT zva zdk z9t zwp zd2 z9U zw5 zcG z9R zw2 ze0 z9K zwc zdv z9B ziK zd1 ziP zop zok zdz ziu zda zdw zfG zhD zo0 zoy zi3 ziH zoh ziC zwi ziG zvM znZ zoK zuK zcE z9s zw4 zdP z9q zvE zdh z9Q zhM z7f z58 zw1 zdI z9O zj8 zd3 zi7 zno zoe zdJ zic zdF zcX zfx zi8 zaD znN ziB zmB zoo ziO zvb ziX zvZ znv zon zv4 zdb z9S zwg zdZ z9X zun zd7 z9P zuX ze2 z9E zv6 zdn z9M zv5 zdS z9A zhP zdB zi9 znO zoa zcS ziS zcC zdx zgR zhQ zmH zot ziV zmt znC zhE zup zhJ zvO znS znV zvX zcP z9Z zvW zcR z9v zwk zcV z9p zwn zcY z9z zux zcD z9N zj1 z7s z5l zvA zdN z9o zoc z9w z7m zih zdG ziz zo7 znJ zdY zig zdH zde zhR zhX ztp znA zhN znx zou zhx zvj ziJ zuT zoz zox zuA zdO z9H zvp zd5 z9T ziM z6A z5a zuG zdl z9J zij zd4 zhL zoC znq zd8 zia zdu zcU zfe ziW zvn znX zif zog znG ziU zw7 zhz zv8 zny zow zvc zcH z9F zvm zcW z9L zuS zcJ z9I zvV zcF za0 zuH zdV z9C zvL zdR z9Y zik ziv znL zqn zMd zvo zuZ zvk zvS zvN zus zuJ List.append_assoc Nat.le_add_right zwA zwD zAL
attribute [local go_sem_proc] Nat.reduceAdd Nat.reduceSub Nat.reduceMul Nat.reduceLeDiff Nat.reduceLT Int.reduceEq Int.reduceNe Int.reduceLT Int.reduceLE Int.reduceAdd Int.reduceSub Int.reduceMul Int.reduceNeg Int.reduceToNat reduceCtorEq Nat.reduceEqDiff Nat.reduceBEq Nat.reduceGT
attribute [local go_sem_proc ↓] reduceIte
section
open Go.RowKit
attribute [local go_sem] zzu zz1 zyz zAn zyk zzp zAE zAx zAG zAv zAA zAz zz6 zzL zAf zzi zz4 zyv zAy zAH zAN zAD zAQ zAJ zA3 zwM zqt zpq z8p zgK zhc
def okS (n : Int) (bd : List Bool) (p : Int) (s : Sm) : Bool := (decide (0 ≤ p) && decide (p < n)) && (decide (s.fr = p) || (zMU n bd p && zMU n bd s.fr))
def zLe (σ : Sg) (p : Int) (s : Sm) : List Sm := if okS σ.n σ.bd p s = true ∧ s ∉ σ.R ∧ σ.R.length < 65536 then σ.R ++ [s] else σ.R
def zM6 (σ : Sg) (p : Int) (s : Sm) : Int := if (decide (0 ≤ p) && decide (p < σ.n)) = false then 4 else if okS σ.n σ.bd p s = false then 19 else if s ∈ σ.R then 0 else if 65536 ≤ σ.R.length then 5 else 0
theorem rr_k {L : List Sm} : (rrO L).k = 2 := _root_.id rfl
theorem rr_e {L : List Sm} : (rrO L).e = z01 := _root_.id rfl
theorem rr_z {L : List Sm} : (rrO L).z = 5 := _root_.id rfl
theorem rr_c {L : List Sm} : (rrO L).c = L.map smE := _root_.id rfl
theorem zFP {L : List Sm} {s : Sm} : (⟨2,z01,5,L.map smE ++ [.agg (smC s)]⟩ : AObj) = rrO (L ++ [s]) := by simp [rrO,smE]
theorem zHb (m : Nat) (A B : List AObj) (σ : Sg) (s : Sm) (hG : GB A B) (hσ : SgOk σ) (hs : SmI s) (hl : σ.R.length < 65536) :
  z7e m (nAB A B) ⟨sc A B σ ++ [⟨1,z01,0,smC s⟩],[(0,OP (A.length + 4) 0),(5,OP (nAB A B) 0)]⟩ = some (nA 0,sc A B { σ with R := σ.R ++ [s] }) := by
 have hlt := fun {L : List (List UInt8)} {n : Int} {bd : List Bool} {R : List Sm}=>znn hG (L := L) (n := n) (bd := bd) (R := R)
 have hb := hσ.bl
 obtain ⟨T,n,bd,R⟩ := σ
 dsimp only at *
 have hm1 := fun {L : List Sm} (K : AV → RO)=>zLV (a := A.length + 3) (n := n) (bd := bd) (L := L) (K := K) hb
 have hr1 := fun {L : List Sm} (K : AV → RO)=>zKR (a := A.length + 3) (n := n) (bd := bd) (L := L) (K := K) hb
 have hp1 := fun (K : AObj → RO)=>zBR (a := A.length + 3) (n := n) (bd := bd) (L := R) (K2 := K) hb s
 have hpu := fun (K : List AObj → RO)=>zG7 (K := K) (s := s) (zsY (A := A) (B := B) (Y := [⟨1,z01,0,smC s⟩]) (o0 := tmO T) (o1 := ttO A.length T) (o2 := trO T) (o3 := rmO R) (o4 := rgO (A.length + 3) n bd (R ++ [s])) (o5 := rrO (R ++ [s]))) hs (by omega)
 have hx : (R ++ [s]).length = R.length + 1 := by simp
 have hbb : R.length + 1 ≤ 34359738368 := by omega
 have e3 : A.length + 3 + 2 = A.length + 5 := rfl
 have hp1 := fun (K : AObj → RO)=>(show zKS (rgO (A.length + 3) n bd R) 1 66 (OW (A.length + 5) (R.length + 1)) K = _ from hp1 K)
 rw [zhT]
 unfold sc
 simp (config := {maxSteps := 4000000,implicitDefEqProofs := false}) (disch := omega) only [go_sem,zgV,hm1,hr1,e3,rr_k,rr_e,rr_z,rr_c,zFP,hp1,hpu,hx,hbb,hlt]
theorem zG3 (m : Nat) (A B : List AObj) (σ : Sg) (s : Sm) (b : Bool) (hG : GB A B) (hσ : SgOk σ) (hs : SmI s) :
  z4M m (nAB A B) ⟨sc A B σ ++ [⟨1,z01,0,smC s⟩],[(0,OP (A.length + 4) 0),(5,OP (nAB A B) 0),(12,bA b)]⟩ = some (nA (if b = true then 19 else if s ∈ σ.R then 0 else if 65536 ≤ σ.R.length then 5 else 0),sc A B { σ with R := if b = false ∧ s ∉ σ.R ∧ σ.R.length < 65536 then σ.R ++ [s] else σ.R }) := by
 have hk := fun (X : AV) h=>zyB (A := A) (B := B) (Y := [⟨1,z01,0,smC s⟩]) (σ := σ) (X := X) hG h
 have hh := zuI m A (B ++ [⟨1,z01,0,smC s⟩]) σ s (hG.app fun n=>by simp [zl3,ltO]) hσ hs
 rw [z8H] at hh
 have hlt := fun {L : List (List UInt8)} {n : Int} {bd : List Bool} {R : List Sm}=>znn hG (L := L) (n := n) (bd := bd) (R := R)
 have hb := hσ.bl
 have hr1 := fun {L : List Sm} (K : AV → RO)=>zKR (a := A.length + 3) (n := σ.n) (bd := σ.bd) (L := L) (K := K) hb
 have e3 : A.length + 3 + 2 = A.length + 5 := rfl
 rw [zhK]
 cases b with
 |true =>
  unfold sc at *
  simp (config := {maxSteps := 4000000,implicitDefEqProofs := false}) (disch := omega) only [go_sem,hlt]
 |false =>
  rw [z6x] at hh
  by_cases h1 : s ∈ σ.R
  ·have h1' : decide (s ∈ σ.R) = true := decide_eq_true h1
   rw [h1'] at hh
   unfold sc at *
   simp (config := {maxSteps := 4000000,implicitDefEqProofs := false}) (disch := omega) only [go_sem,hh,h1,hlt]
  ·have h1' : decide (s ∈ σ.R) = false := decide_eq_false h1
   rw [h1'] at hh
   by_cases h2 : 65536 ≤ σ.R.length
   ·have h2' : (65536 : Int) ≤ (σ.R.length : Int) := by omega
    have h3 : ¬ σ.R.length < 65536 := by omega
    unfold sc at *
    simp (config := {maxSteps := 4000000,implicitDefEqProofs := false}) (disch := omega) only [go_sem,hh,h1,h2,h2',h3,zgV,hr1,e3,hlt]
   ·have h2' : ¬ (65536 : Int) ≤ (σ.R.length : Int) := by omega
    have h3 : σ.R.length < 65536 := by omega
    have h4 := zHb m A B σ s hG hσ hs h3
    unfold sc at *
    simp (config := {maxSteps := 4000000,implicitDefEqProofs := false}) (disch := omega) only [go_sem,hh,h1,h2,h2',h3,h4,zgV,hr1,e3,hlt]
theorem zDw (m : Nat) (A B : List AObj) (σ : Sg) (p : Int) (s : Sm) (hG : GB A B) (hσ : SgOk σ) (hs : SmI s) :
  z6n m (OP (A.length + 4) 0) (nA p) (smE s) (sc A B σ) = some (nA (zM6 σ p s),sc A B { σ with R := zLe σ p s }) := by
 have hG1 : GB A (B ++ [⟨1,z01,0,smC s⟩]) := hG.app fun n=>by simp [zl3,ltO]
 have hi := zFf m A (B ++ [⟨1,z01,0,smC s⟩]) σ p hG1
 have hb1 := zDh m A (B ++ [⟨1,z01,0,smC s⟩]) σ p hG1 hσ
 have hb2 := zDh m A (B ++ [⟨1,z01,0,smC s⟩]) σ s.fr hG1 hσ
 rw [z8H] at hi hb1 hb2
 have h19 := fun b=>zG3 m A B σ s b hG hσ hs
 have hlt := fun {L : List (List UInt8)} {n : Int} {bd : List Bool} {R : List Sm}=>znn hG (L := L) (n := n) (bd := bd) (R := R)
 rw [zlG,z6x]
 unfold zM6 zLe okS
 cases h1 : (decide (0 ≤ p) && decide (p < σ.n)) with
 |false =>
  rw [h1] at hi
  unfold sc at *
  simp (config := {maxSteps := 4000000,implicitDefEqProofs := false}) (disch := omega) only [go_sem,hi,hlt]
 |true =>
  rw [h1] at hi
  by_cases h2 : s.fr = p
  ·have := h19 false
   unfold sc at *
   simp (config := {maxSteps := 4000000,implicitDefEqProofs := false}) (disch := omega) only [go_sem,hi,h2,this,hlt]
  ·cases h3 : zMU σ.n σ.bd p with
   |false =>
    rw [h3] at hb1
    have := h19 true
    unfold sc at *
    simp (config := {maxSteps := 4000000,implicitDefEqProofs := false}) (disch := omega) only [go_sem,hi,h2,hb1,this,hlt]
   |true =>
    rw [h3] at hb1
    cases h4 : zMU σ.n σ.bd s.fr with
    |false =>
     rw [h4] at hb2
     have := h19 true
     unfold sc at *
     simp (config := {maxSteps := 4000000,implicitDefEqProofs := false}) (disch := omega) only [go_sem,hi,h2,hb1,hb2,this,hlt]
    |true =>
     rw [h4] at hb2
     have := h19 false
     unfold sc at *
     simp (config := {maxSteps := 4000000,implicitDefEqProofs := false}) (disch := omega) only [go_sem,hi,h2,hb1,hb2,this,hlt]
end

section
open Go.RowKit
attribute [local go_sem] zzu zz1 zyz zAn zyk zzp zAE zAx zAG zAv zAA zAz zz6 zzL zAf zzi zz4 zyv zAy zAH zAN zAD zAQ zAJ zA3 zwM zqt zpq z8p zgK zhc
theorem zbn {R : Type} {x y : Sm} {isB sl : Bool} {K1 : AV → Option R} : zMe (some [.i .i64, .i .i64, .i .i64, .i .i64, .i .i64]) isB sl .eql (.agg (smC x)) (.agg (smC y)) K1 = K1 (bA (decide (x = y))) := by
 show K1 (bA (decide (x.fr = y.fr) && (decide (x.kd = y.kd) && (decide (x.vw = y.vw) && (decide (x.sq = y.sq) && (decide (x.tm = y.tm) && true)))))) = _
 congr 2
 obtain ⟨a,b,c,d,e⟩ := x
 obtain ⟨a',b',c',d',e'⟩ := y
 rw [Bool.eq_iff_iff]
 simp [and_assoc]
def zN9 (w : Sm) (R : List Sm) (x : Sm) : Bool := decide (x = { w with fr := x.fr }) && decide (x ∈ R)
def spS (w : Sm) (R : List Sm) (b : List Bool) (x : Sm) : List Bool := if zN9 w R x = true then b.set x.fr.toNat true else b
def spL (w : Sm) (R : List Sm) (l : List Sm) : List Bool := l.foldl (spS w R) (List.replicate 64 false)
theorem zxC {w : Sm} {R : List Sm} {b : List Bool} {x : Sm} : (spS w R b x).length = b.length := by
 unfold spS
 split <;> simp
theorem zwF {w : Sm} {R : List Sm} : ∀ (l : List Sm) (b : List Bool),(l.foldl (spS w R) b).length = b.length
 |[],b=>rfl
 |x :: l,b=>by
  show (l.foldl (spS w R) (spS w R b x)).length = _
  rw [zwF l,zxC]
theorem zCi {w : Sm} {R : List Sm} {l : List Sm} : (spL w R l).length = 64 := by unfold spL;rw [zwF];simp
theorem zzT {w : Sm} {R : List Sm} {l : List Sm} {k : Nat} (h : k < l.length) : spL w R (l.take (k + 1)) = spS w R (spL w R (l.take k)) l[k] := by
 unfold spL
 rw [List.take_succ_eq_append_getElem h,List.foldl_append]
 rfl
def wK (w : Sm) (l : List Sm) : Nat → Sm
 |0=>w
 |k + 1=>{ w with fr := (l.getD k Sm.zero).fr }
theorem zGw {w : Sm} {l : List Sm} : ∀ k : Nat,({ wK w l k with fr := (l.getD k Sm.zero).fr } : Sm) = wK w l (k + 1)
 |0=>rfl
 |k + 1=>rfl
def vA (b : List Bool) : AObj := ⟨1,zjF,0,b.map bA⟩
theorem zzA {R : Type} {b : List Bool} {K : List AV → Option R} : zjw (vA b) K = K (b.map bA) := by unfold vA;exact zz9
theorem zHe {R : Type} {b : List Bool} (hb : b.length = 64) {k : Nat} (hk : k < 64) {K : AObj → Option R} {x : Bool} : zKS (vA b) 1 k (bA x) K = K (vA (b.set k x)) := by
 unfold vA
 rw [zud]
 have h1 : z09 (b.map bA) k (cellsOf (bA x)) = (b.set k x).map bA := by
  show (b.map bA).set k (bA x) = _
  rw [List.map_set]
 rw [h1,List.length_map,hb,show decide (k + zMH 1 ≤ 64) = true from decide_eq_true (by simp [zMH];omega)]
 rfl
theorem zHc {n : Nat} {b : List Bool} : (b.map bA).all (ltA n) = true := by rw [List.all_map];exact List.all_eq_true.2 fun _ _=>rfl
theorem zJ0 {n : Nat} {b : List Bool} : ltO n (vA b) = true := by
 show ((1 : Nat) == 0 || (b.map bA).all (ltA n)) = true
 rw [zHc];rfl
theorem z6w {n : Nat} {s : Sm} : ltO n ⟨1,z01,0,smC s⟩ = true := by
 show ((1 : Nat) == 0 || (smC s).all (ltA n)) = true
 rw [zl3];rfl
theorem zE7 : (⟨1,zjF,0,zk3⟩ : AObj) = vA (List.replicate 64 false) := by
 unfold vA zk3
 rfl
def zNd (b : List Bool) (k : Nat) : List Int := ((List.range k).filter fun p=>b.getD p false).map fun p=>((p : Nat) : Int)
theorem zwf {b : List Bool} {k : Nat} : zNd b (k + 1) = if b.getD k false = true then zNd b k ++ [(k : Int)] else zNd b k := by
 unfold zNd
 rw [List.range_succ,List.filter_append,List.map_append]
 cases h : b.getD k false with
 |true=>simp only [List.filter_cons,List.filter_nil,h];rfl
 |false=>simp only [List.filter_cons,List.filter_nil,h];simp
theorem zsz {b : List Bool} {k : Nat} : (zNd b k).length ≤ k := by
 unfold zNd
 rw [List.length_map]
 exact Nat.le_trans (List.length_filter_le ..) (by simp)
theorem zDy (m : Nat) (A B : List AObj) (σ : Sg) (w : Sm) (b : List Bool) (hb : b.length = 64) (hG : GB A B) (hm : 70 < m) :
  z6V m (nAB A B) ⟨sc A B σ ++ [⟨1,z01,0,smC w⟩,vA b],[(7,OP (nAB A B + 1) 0)]⟩ = some (SL ((zNd b 64).map nA),sc A B σ) := by
 have hlt := zkx (σ := σ) hG (Nat.le_refl _)
 rw [zfh]
 have hd : (b.map bA).take 64 = b.map bA := by rw [List.take_of_length_le (by simp [hb])]
 simp (config := {maxSteps := 4000000,implicitDefEqProofs := false}) (disch := omega) only [go_sem,zN3,zMM,zzA,hb,hd,z82]
 refine z13 (m := m) (ι := {k : Nat // k ≤ 64}) (fun k=>⟨sc A B σ ++ [⟨1,z01,0,smC w⟩,vA b,⟨2,z5v,1,(zNd b k.1).map nA⟩],[(10,OW (nAB A B + 2) (zNd b k.1).length),(34, .agg (b.map bA)),(35,nA k.1)]⟩) (fun k=>64 - k.1) (fun _=>some (SL ((zNd b 64).map nA),sc A B σ)) ?_ ⟨0,Nat.zero_le _⟩ (by dsimp only;omega)
 rintro kx hkx ⟨k,hk⟩ kc hkc
 dsimp only at hkc ⊢
 rw [zeW]
 by_cases h : k < 64
 ·have h' : (k : Int) < 64 := by omega
  have step := hkc ⟨k + 1,by omega⟩ (by dsimp only;omega)
  dsimp only at step
  have ho := zwf (b := b) (k := k)
  have hg : ∀ K : AV → RO,zLl (b.map bA) k K = K (bA (b.getD k false)) := fun K=>by
   unfold zLl
   rw [List.getElem?_map,List.getD_eq_getElem?_getD,List.getElem?_eq_getElem (by omega)]
   rfl
  have hol := zsz (b := b) (k := k)
  have hB := fun n=>z6w (n := n) (s := w)
  have hV := fun n=>zJ0 (n := n) (b := b)
  have hlt3 := zkx (σ := σ) hG (n := nAB A B + 3) (by omega)
  have hw : IntKind.i64.wrap ((k : Int) + 1) = (k : Int) + 1 := z2s (by omega) (by omega)
  have hl2 : (zNd b k).length ≤ 34359738367 := by omega
  have hbt : ∀ n,(b.map bA).all (lt1 n) = true := fun n=>by rw [List.all_map];exact List.all_eq_true.2 fun _ _=>rfl
  cases hbk : b.getD k false with
  |true =>
   rw [hbk,if_pos rfl] at ho
   rw [hbk] at hg
   rw [ho] at step
   have hr : (⟨2,z5v,1,(zNd b k).map nA ++ [nA k]⟩ : AObj) = ⟨2,z5v,1,(zNd b k ++ [(k : Int)]).map nA⟩ := by simp
   simp (config := {maxSteps := 4000000,implicitDefEqProofs := false}) (disch := omega) only [go_sem,h,h',hg,zMH,zN3,zMM,zoA,z7p,hlt3,hB,hV,hl2,hr,hw,Nat.add_lt_add_iff_left,z82,z8C]
   simpa using step
  |false =>
   rw [hbk,if_neg (by decide)] at ho
   rw [hbk] at hg
   rw [ho] at step
   simp (config := {maxSteps := 4000000,implicitDefEqProofs := false}) (disch := omega) only [go_sem,h,h',hg,zMH,zN3,zMM,zoA,z7p,hlt3,hB,hV,zEP,hw,Nat.add_lt_add_iff_left,z82,z8C]
   simpa using step
 ·obtain rfl : k = 64 := by omega
  have hro : ro1 (sc A B σ ++ [⟨1,z01,0,smC w⟩,vA b,⟨2,z5v,1,(zNd b 64).map nA⟩]) (OW (nAB A B + 2) (zNd b 64).length) = SL ((zNd b 64).map nA) := zMl zK9 (by simp)
  simp (config := {maxSteps := 4000000,implicitDefEqProofs := false}) (disch := omega) only [go_sem,h,hkx,zfk,zN3,zMM,z82,zat,hlt,hro,zGu]
end

section
open Go.RowKit
attribute [local go_sem] zzu zz1 zyz zAn zyk zzp zAE zAx zAG zAv zAA zAz zz6 zzL zAf zzi zz4 zyv zAy zAH zAN zAD zAQ zAJ zA3 zwM zqt zpq z8p zgK zhc
theorem zv7 (m : Nat) (A B : List AObj) (σ : Sg) (l : List Sm) (w : Sm) (hG : GB A B) (hσ : SgOk σ) (hm : 70 < m) (hlm : l.length < m) (hll : l.length ≤ 1000000) (hli : ∀ x ∈ l,SmI x) :
  z7d m (OP (A.length + 4) 0) (SL (l.map smE)) (smE w) (sc A B σ) = some (SL ((zNd (spL w σ.R l) 64).map nA),sc A B σ) := by
 rw [zj4,z6x]
 have hn2 := hσ.n2
 simp (config := {maxSteps := 4000000,implicitDefEqProofs := false}) (disch := omega) only [go_sem,z82,zE7]
 refine z13 (m := m) (ι := {k : Nat // k ≤ l.length}) (fun k=>⟨sc A B σ ++ [⟨1,z01,0,smC (wK w l k.1)⟩,vA (spL w σ.R (l.take k.1))],[(0,OP (A.length + 4) 0),(5,OP (nAB A B) 0),(7,OP (nAB A B + 1) 0),(13,SL (l.map smE)),(14,nA l.length),(15,nA k.1)]⟩) (fun k=>l.length - k.1) (fun _=>some (SL ((zNd (spL w σ.R l) 64).map nA),sc A B σ)) ?_ ⟨0,Nat.zero_le _⟩ (by dsimp only;omega)
 rintro kx hkx ⟨k,hk⟩ kc hkc
 dsimp only at hkc ⊢
 rw [zf0]
 have hW := fun n=>z6w (n := n) (s := wK w l k)
 by_cases h : k < l.length
 ·have h' : (k : Int) < (l.length : Int) := by omega
  have step := hkc ⟨k + 1,by omega⟩ (by dsimp only;omega)
  dsimp only at step
  rw [zzT h] at step
  have hgk : l.getD k Sm.zero = l[k] := by simp [List.getD,h]
  have hset := zGw (w := w) (l := l) k
  rw [hgk] at hset
  have hV := fun {b : List Bool} n=>zJ0 (n := n) (b := b)
  have hlt2 := zkx (σ := σ) hG (n := nAB A B + 2) (by omega)
  have hsi := hli l[k] (List.getElem_mem h)
  have h4 : A.length + 4 < nAB A B + 2 := by unfold nAB;omega
  have hw1 : IntKind.i64.wrap ((k : Int) + 1) = (k : Int) + 1 := z2s (by omega) (by omega)
  have h64 := zCi (w := w) (R := σ.R) (l := l.take k)
  generalize hb : spL w σ.R (l.take k) = b at *
  have hW2 := fun n=>z6w (n := n) (s := wK w l (k + 1))
  have hS := fun n=>z6w (n := n) (s := l[k])
  have hhas := zuI m A (B ++ [⟨1,z01,0,smC (wK w l (k + 1))⟩,vA b,⟨1,z01,0,smC l[k]⟩]) σ l[k] (hG.app fun n=>by simp [hW2,hV,hS]) hσ hsi
  rw [z8H,z6x] at hhas
  have hwk : wK w l (k + 1) = { w with fr := l[k].fr } := by show ({ w with fr := (l.getD k Sm.zero).fr } : Sm) = _;rw [hgk]
  by_cases h1 : l[k] = wK w l (k + 1)
  ·have h1' : decide (l[k] = wK w l (k + 1)) = true := decide_eq_true h1
   by_cases h2 : l[k] ∈ σ.R
   ·have h2' : decide (l[k] ∈ σ.R) = true := decide_eq_true h2
    rw [h2'] at hhas
    obtain ⟨f0,f1⟩ := hσ.rf _ h2
    have f2 : l[k].fr < 64 := by omega
    have f3 : l[k].fr.toNat < 64 := by omega
    have hp := fun (K : AObj → RO)=>zHe (b := b) h64 f3 (K := K) (x := true)
    have hsp : spS w σ.R b l[k] = b.set l[k].fr.toNat true := by
     unfold spS zN9
     rw [← hwk,h1',h2']
     rfl
    rw [hsp] at step
    simp (config := {maxSteps := 4000000,implicitDefEqProofs := false}) (disch := omega) only [go_sem,h,h',hset,zN3,zMM,zpp,zoA,z7p,hlt2,hW2,hV,hS,h1',hhas,hp,f0,f2,zMH,zbn,hw1,h4,Nat.add_lt_add_iff_left,z82,z4Y,z4T]
    exact step
   ·have h2' : decide (l[k] ∈ σ.R) = false := decide_eq_false h2
    rw [h2'] at hhas
    have hsp : spS w σ.R b l[k] = b := by
     unfold spS zN9
     rw [h2',Bool.and_false]
     rfl
    rw [hsp] at step
    simp (config := {maxSteps := 4000000,implicitDefEqProofs := false}) (disch := omega) only [go_sem,h,h',hset,zN3,zMM,zpp,zoA,z7p,hlt2,hW2,hV,hS,h1',hhas,zMH,zbn,hw1,h4,Nat.add_lt_add_iff_left,z82,z4Y,z4T]
    exact step
  ·have h1' : decide (l[k] = wK w l (k + 1)) = false := decide_eq_false h1
   have hsp : spS w σ.R b l[k] = b := by
    unfold spS zN9
    rw [← hwk,h1']
    rfl
   rw [hsp] at step
   simp (config := {maxSteps := 4000000,implicitDefEqProofs := false}) (disch := omega) only [go_sem,h,h',hset,zN3,zMM,zpp,zoA,z7p,hlt2,hW2,hV,hS,h1',zMH,zbn,hw1,h4,Nat.add_lt_add_iff_left,z82,z4Y,z4T]
   exact step
 ·obtain rfl : k = l.length := by omega
  have h' : ¬ (l.length : Int) < (l.length : Int) := Int.lt_irrefl _
  have hr1 := zDy m A B σ (wK w l l.length) (spL w σ.R l) zCi hG hm
  have ht : l.take l.length = l := List.take_length
  simp (config := {maxSteps := 4000000,implicitDefEqProofs := false}) (disch := omega) only [go_sem,h,h',hkx,ht,hr1]
end

section
open Go.RowKit
attribute [local go_sem] zzu zz1 zyz zAn zyk zzp zAE zAx zAG zAv zAA zAz zz6 zzL zAf zzi zz4 zyv zAy zAH zAN zAD zAQ zAJ zA3 zwM zqt zpq z8p zgK zhc
def inN (n p : Int) : Bool := decide (0 ≤ p) && decide (p < n)
def bdL (l : List Int) : List Bool := l.foldl (fun b p=>b.set p.toNat true) (List.replicate 64 false)
theorem zxz : ∀ (l : List Int) (b : List Bool),(l.foldl (fun b p=>b.set p.toNat true) b).length = b.length
 |[],b=>rfl
 |p :: l,b=>by
  show (l.foldl _ (b.set p.toNat true)).length = _
  rw [zxz l];simp
theorem zz8 {l : List Int} : (bdL l).length = 64 := by unfold bdL;rw [zxz];simp
theorem zy6 {l : List Int} {k : Nat} (h : k < l.length) : bdL (l.take (k + 1)) = (bdL (l.take k)).set l[k].toNat true := by
 unfold bdL
 rw [List.take_succ_eq_append_getElem h,List.foldl_append]
 rfl
theorem zH8 : zMo Try.prog 116 = some (41,3) := by unfold zMo;rw [Try.underlying116]
theorem zEp {A : List AObj} (hA : ∀ n,A.length ≤ n → A.all (ltO n) = true) : GB A [] := fun n hn=>⟨hA n (by unfold nAB at hn;simp at hn;omega),rfl⟩
theorem zxI (m : Nat) (A : List AObj) (T : List (List UInt8)) (n : Int) (bad : List Int) (hn2 : n ≤ 64) (hll : bad.length ≤ 1000000) (hG : GB A []) (k : Nat) (h : k < bad.length) (hp : inN n bad[k] = true) (kc : ASt → RO) (kx : KO (AV × List AObj)) :
  zk6 m ⟨sc A [] ⟨T,n,bdL (bad.take k),[]⟩,[(6,OP (A.length + 4) 0),(19,SL (bad.map nA)),(20,nA bad.length),(21,nA k)]⟩ kc kx = kc ⟨sc A [] ⟨T,n,bdL (bad.take (k + 1)),[]⟩,[(6,OP (A.length + 4) 0),(19,SL (bad.map nA)),(20,nA bad.length),(21,nA (k + 1 : Nat))]⟩ := by
 have hi := zFf m A [] ⟨T,n,bdL (bad.take k),[]⟩ bad[k] hG
 have h64 := zz8 (l := bad.take k)
 rw [zy6 h]
 generalize bdL (bad.take k) = b at *
 have h1 := hp
 unfold inN at h1
 dsimp only at hi
 rw [h1] at hi
 rw [Bool.and_eq_true,decide_eq_true_eq,decide_eq_true_eq] at h1
 obtain ⟨f0,f1⟩ := h1
 have f2 : bad[k] < 64 := by omega
 have f3 : bad[k].toNat < 64 := by omega
 have h' : (k : Int) < (bad.length : Int) := by omega
 have hw1 : IntKind.i64.wrap ((k : Int) + 1) = (k : Int) + 1 := z2s (by omega) (by omega)
 have h4 : A.length + 4 < nAB A [] := by unfold nAB;simp
 have hpu := fun (K : AObj → RO)=>zBB (a := A.length + 3) (n := n) (bd := b) (L := ([] : List Sm)) (K2 := K) h64 f3 true
 have hlt := fun {L : List (List UInt8)} {n : Int} {bd : List Bool} {R : List Sm}=>znn hG (L := L) (n := n) (bd := bd) (R := R)
 rw [zdM]
 unfold sc at *
 simp (config := {maxSteps := 4000000,implicitDefEqProofs := false}) (disch := omega) only [go_sem,h,h',hi,f0,f2,zMH,hw1,h4,hpu,hlt]
 rfl
theorem zte (m : Nat) (A : List AObj) (T : List (List UInt8)) (n : Int) (bad : List Int) (hn1 : 1 ≤ n) (hn2 : n ≤ 64) :
  zeM m (nA n) (SL (bad.map nA)) (A ++ [tmO T,ttO A.length T,trO T]) = zjO m (A.length + 3) ⟨sc A [] ⟨T,n,bdL [],[]⟩,[(1,SL (bad.map nA)),(6,OP (A.length + 4) 0)]⟩ := by
 have c1 : ¬ n < 1 := by omega
 have c2 : ¬ 64 < n := by omega
 have hH : (A ++ [tmO T,ttO A.length T,trO T]).length = A.length + 3 := by simp
 generalize hH0 : A ++ [tmO T,ttO A.length T,trO T] = H0 at *
 have e1 : ∀ K : AV → List AObj → RO,zuj (zMo Try.prog 116) H0 K = K (MP (A.length + 3)) (H0 ++ [rmO []]) := fun K=>by rw [zH8,← hH];rfl
 have e2 : ∀ (K : AV → RO),z1F (some zmn) (some zlR) [(0,nA n),(2,MP (A.length + 3))] K = K (.agg (nA n :: ((List.replicate 64 false).map bA ++ [MP (A.length + 3),V (.slice none 0 0)]))) := fun K=>_root_.id rfl
 have e3 : ∀ (K : AV → List AObj → RO),zN2 z54 (H0 ++ [rmO []]) (.agg (nA n :: ((List.replicate 64 false).map bA ++ [MP (A.length + 3),V (.slice none 0 0)]))) K = K (OP (A.length + 4) 0) (H0 ++ [rmO [],⟨1,z54,0,nA n :: ((List.replicate 64 false).map bA ++ [MP (A.length + 3),V (.slice none 0 0)])⟩]) := fun K=>by
  have : (H0 ++ [rmO []]).length = A.length + 4 := by rw [List.length_append,hH];rfl
  rw [zFv,this,List.append_assoc]
  rfl
 have e4 : ghS 6 66 z01 5 ⟨H0 ++ [rmO [],⟨1,z54,0,nA n :: ((List.replicate 64 false).map bA ++ [MP (A.length + 3),V (.slice none 0 0)])⟩],[(1,SL (bad.map nA)),(6,OP (A.length + 4) 0)]⟩ = ⟨sc A [] ⟨T,n,bdL [],[]⟩,[(1,SL (bad.map nA)),(6,OP (A.length + 4) 0)]⟩ := by
  have h1 : (H0 ++ [rmO [],⟨1,z54,0,nA n :: ((List.replicate 64 false).map bA ++ [MP (A.length + 3),V (.slice none 0 0)])⟩])[A.length + 4]? = some ⟨1,z54,0,nA n :: ((List.replicate 64 false).map bA ++ [MP (A.length + 3),V (.slice none 0 0)])⟩ := by
   rw [show A.length + 4 = H0.length + 1 by omega,zLE];rfl
  unfold ghS
  show (match OP (A.length + 4) 0 with|_=>_) = _
  dsimp only
  rw [h1]
  dsimp only
  have h2 : ∀ o,(H0 ++ [rmO [],⟨1,z54,0,nA n :: ((List.replicate 64 false).map bA ++ [MP (A.length + 3),V (.slice none 0 0)])⟩]).set (A.length + 4) o = H0 ++ [rmO [],o] := fun o=>by
   rw [show A.length + 4 = H0.length + 1 by omega,zLG];rfl
  have h3 : (nA n :: ((List.replicate 64 false).map bA ++ [MP (A.length + 3),V (.slice none 0 0)]))[66]? = some (V (.slice none 0 0)) := rfl
  rw [h3]
  try dsimp only
  rw [h2,List.append_assoc,List.length_append,hH]
  unfold sc scM
  rw [← hH0]
  simp only [List.append_assoc,List.cons_append,List.nil_append]
  rfl
 rw [zs1]
 simp (config := {maxSteps := 4000000,implicitDefEqProofs := false}) (disch := omega) only [go_sem,c1,c2,zov]
 rw [zo2,e1,e2,e3,e4,hH]
theorem zxf (m : Nat) (A : List AObj) (T : List (List UInt8)) (n : Int) (bad : List Int) (hn1 : 1 ≤ n) (hn2 : n ≤ 64) (hlm : bad.length < m) (hll : bad.length ≤ 1000000) (hA : ∀ n,A.length ≤ n → A.all (ltO n) = true) (hb : ∀ p ∈ bad,inN n p = true) :
  zeM m (nA n) (SL (bad.map nA)) (A ++ [tmO T,ttO A.length T,trO T]) = some (TU [OP (A.length + 4) 0,nA 0],sc A [] ⟨T,n,bdL bad,[]⟩) := by
 have hG := zEp hA
 rw [zte m A T n bad hn1 hn2,zhC]
 simp (config := {maxSteps := 4000000,implicitDefEqProofs := false}) (disch := omega) only [go_sem,]
 refine z13 (m := m) (ι := {k : Nat // k ≤ bad.length}) (fun k=>⟨sc A [] ⟨T,n,bdL (bad.take k.1),[]⟩,[(6,OP (A.length + 4) 0),(19,SL (bad.map nA)),(20,nA bad.length),(21,nA k.1)]⟩) (fun k=>bad.length - k.1) (fun _=>some (TU [OP (A.length + 4) 0,nA 0],sc A [] ⟨T,n,bdL bad,[]⟩)) ?_ ⟨0,Nat.zero_le _⟩ (by dsimp only;omega)
 rintro kx hkx ⟨k,hk⟩ kc hkc
 dsimp only at hkc ⊢
 by_cases h : k < bad.length
 ·rw [zxI m A T n bad hn2 hll hG k h (hb _ (List.getElem_mem h))]
  exact hkc ⟨k + 1,by omega⟩ (by dsimp only;omega)
 ·obtain rfl : k = bad.length := by omega
  have h' : ¬ (bad.length : Int) < (bad.length : Int) := Int.lt_irrefl _
  have hlt := zkx (σ := ⟨T,n,bdL bad,[]⟩) hG (Nat.le_refl _)
  have ht : bad.take bad.length = bad := List.take_length
  have h4 : A.length + 4 < nAB A [] := by unfold nAB;simp
  rw [zdM]
  simp (config := {maxSteps := 4000000,implicitDefEqProofs := false}) (disch := omega) only [go_sem,h,h',hkx,ht,znH,z82,hlt,h4]
theorem zDS (m : Nat) (A : List AObj) (T : List (List UInt8)) (n : Int) (bad : List Int) (hn1 : 1 ≤ n) (hn2 : n ≤ 64) (hlm : bad.length < m) (hll : bad.length ≤ 1000000) (hA : ∀ n,A.length ≤ n → A.all (ltO n) = true) (hb : ¬ ∀ p ∈ bad,inN n p = true) :
  ∃ bd,zeM m (nA n) (SL (bad.map nA)) (A ++ [tmO T,ttO A.length T,trO T]) = some (TU [V (.pointer none),nA 1],sc A [] ⟨T,n,bd,[]⟩) := by
 have hG := zEp hA
 obtain ⟨i,hi,hp,hq⟩ : ∃ i,∃ h : i < bad.length,(∀ k (hk : k < i),inN n bad[k] = true) ∧ inN n bad[i] = false := by
  have h0 : bad.findIdx (fun p=>!inN n p) < bad.length := by
   rw [List.findIdx_lt_length]
   refine Classical.byContradiction fun q=>hb fun p hp=>?_
   cases h : inN n p with
   |true=>rfl
   |false=>exact absurd ⟨p,hp,by simp [h]⟩ q
  refine ⟨_,h0,fun k hk=>?_,?_⟩
  ·have := List.not_of_lt_findIdx hk
   simpa using this
  ·have := List.findIdx_getElem (w := h0)
   simpa using this
 refine ⟨bdL (bad.take i),?_⟩
 rw [zte m A T n bad hn1 hn2,zhC]
 simp (config := {maxSteps := 4000000,implicitDefEqProofs := false}) (disch := omega) only [go_sem,]
 refine z13 (m := m) (ι := {k : Nat // k ≤ i}) (fun k=>⟨sc A [] ⟨T,n,bdL (bad.take k.1),[]⟩,[(6,OP (A.length + 4) 0),(19,SL (bad.map nA)),(20,nA bad.length),(21,nA k.1)]⟩) (fun k=>i - k.1) (fun _=>some (TU [V (.pointer none),nA 1],sc A [] ⟨T,n,bdL (bad.take i),[]⟩)) ?_ ⟨0,Nat.zero_le _⟩ (by dsimp only;omega)
 rintro kx hkx ⟨k,hk⟩ kc hkc
 dsimp only at hkc ⊢
 by_cases h : k < i
 ·rw [zxI m A T n bad hn2 hll hG k (by omega) (hp k h)]
  exact hkc ⟨k + 1,by omega⟩ (by dsimp only;omega)
 ·obtain rfl : k = i := by omega
  have h' : (k : Int) < (bad.length : Int) := by omega
  have hlt := zkx (σ := ⟨T,n,bdL (bad.take k),[]⟩) hG (Nat.le_refl _)
  have hi2 := zFf m A [] ⟨T,n,bdL (bad.take k),[]⟩ bad[k] hG
  unfold inN at hq
  dsimp only at hi2
  rw [hq] at hi2
  rw [zdM]
  simp (config := {maxSteps := 4000000,implicitDefEqProofs := false}) (disch := omega) only [go_sem,hi,h',hi2,hkx,z82,hlt,zMH]
  rfl
end

section
open Go.RowKit
attribute [local go_sem] zbn
def rrC (n : Int) (rog : List Int) (L : List Sm) : List AV := [nA n,SL (rog.map nA),SL (L.map smE)]
def rrA (n : Int) (rog : List Int) (L : List Sm) : AV := .agg (rrC n rog L)
theorem zcN {n : Int} {rog : List Int} {L : List Sm} : rrA n rog L = .agg (rrC n rog L) := _root_.id rfl
section
variable {R : Type} {n : Int} {rog : List Int} {L : List Sm} {K : AV → Option R} {H : List AObj} {k : Nat}
theorem zBF : zLl (rrC n rog L) 0 K = K (nA n) := _root_.id rfl
theorem zFS : zLl (rrC n rog L) 1 K = K (SL (rog.map nA)) := _root_.id rfl
theorem zF6 : zLl (rrC n rog L) 2 K = K (SL (L.map smE)) := _root_.id rfl
theorem zmr : (rrC n rog L).length = 3 := _root_.id rfl
theorem zc7 : (rrC n rog L).all zN7 = true := _root_.id rfl
theorem zhq : (rrC n rog L).all (ltA k) = true := _root_.id rfl
theorem zmA : (rrC n rog L).all (lt1 k) = true := _root_.id rfl
theorem zuh : (rrC n rog L).map (ro1 H) = rrC n rog L := _root_.id rfl
theorem zgz : (rrC n rog L).take 3 = rrC n rog L := _root_.id rfl
theorem zsd : noT (.agg (rrC n rog L)) = .agg (rrC n rog L) := _root_.id rfl
theorem znb : ((rrC n rog L).all fun y=>lt1 k (ro1 H y)) = true := _root_.id rfl
end
theorem zdA {α : Type} {l : List α} {k : Nat} {s : α} (h : k < l.length) (h1 : s ∉ l.take k) (h2 : l[k] ≠ s) : s ∉ l.take (k + 1) := by
 rw [List.take_succ_eq_append_getElem h,List.mem_append,List.mem_singleton]
 exact fun q=>q.elim h1 (fun e=>h2 e.symm)
theorem zDL (m : Nat) (n : Int) (rog : List Int) (L : List Sm) (p : Int) (hm : rog.length < m) (hl : rog.length ≤ 1000000) : z2O m (rrA n rog L) (nA p) = some (bA (decide (p ∈ rog)),[]) := by
 rw [zev,zcN]
 simp (config := {maxSteps := 4000000,implicitDefEqProofs := false}) (disch := omega) only [go_sem,zc7]
 refine z13 (m := m) (ι := {k : Nat // k ≤ rog.length ∧ p ∉ rog.take k}) (fun k=>⟨[⟨1,z0H,0,rrC n rog L⟩],[(1,nA p),(2,OP 0 0),(5,nA k.1)]⟩) (fun k=>rog.length - k.1) (fun _=>some (bA (decide (p ∈ rog)),[])) ?_ ⟨0,Nat.zero_le _,by simp⟩ (by dsimp only;omega)
 rintro kx hkx ⟨k,hk,hno⟩ kc hkc
 dsimp only at hkc ⊢
 rw [zbs]
 by_cases h : k < rog.length
 ·have h' : (k : Int) < (rog.length : Int) := by omega
  have hw1 : IntKind.i64.wrap ((k : Int) + 1) = (k : Int) + 1 := z2s (by omega) (by omega)
  by_cases h1 : rog[k] = p
  ·have hp : p ∈ rog := h1 ▸ List.getElem_mem h
   simp (config := {maxSteps := 4000000,implicitDefEqProofs := false}) (disch := omega) only [go_sem,h,h',h1,hp,hkx,zFS,zhq,zMH]
  ·have step := hkc ⟨k + 1,by omega,zdA h hno h1⟩ (by dsimp only;omega)
   dsimp only at step
   simp (config := {maxSteps := 4000000,implicitDefEqProofs := false}) (disch := omega) only [go_sem,h,h',h1,hw1,zFS,zhq,zMH]
   exact step
 ·obtain rfl : k = rog.length := by omega
  have h' : ¬ (rog.length : Int) < (rog.length : Int) := Int.lt_irrefl _
  rw [List.take_length] at hno
  simp (config := {maxSteps := 4000000,implicitDefEqProofs := false}) (disch := omega) only [go_sem,h,h',hno,hkx,zFS,zbq]
theorem zrH (m : Nat) (n : Int) (rog : List Int) (L : List Sm) (s : Sm) (hm : L.length < m) (hl : L.length ≤ 1000000) : z1f m (rrA n rog L) (smE s) = some (bA (decide (s ∈ L)),[]) := by
 rw [zez,zcN,z6x]
 simp (config := {maxSteps := 4000000,implicitDefEqProofs := false}) (disch := omega) only [go_sem,zc7]
 refine z13 (m := m) (ι := {k : Nat // k ≤ L.length ∧ s ∉ L.take k}) (fun k=>⟨[⟨1,z0H,0,rrC n rog L⟩,⟨1,z01,0,smC s⟩],[(2,OP 0 0),(3,OP 1 0),(5,nA k.1)]⟩) (fun k=>L.length - k.1) (fun _=>some (bA (decide (s ∈ L)),[])) ?_ ⟨0,Nat.zero_le _,by simp⟩ (by dsimp only;omega)
 rintro kx hkx ⟨k,hk,hno⟩ kc hkc
 dsimp only at hkc ⊢
 rw [zbp]
 by_cases h : k < L.length
 ·have h' : (k : Int) < (L.length : Int) := by omega
  have hw1 : IntKind.i64.wrap ((k : Int) + 1) = (k : Int) + 1 := z2s (by omega) (by omega)
  by_cases h1 : L[k] = s
  ·have hp : s ∈ L := h1 ▸ List.getElem_mem h
   have h1' : decide (L[k] = s) = true := decide_eq_true h1
   simp (config := {maxSteps := 4000000,implicitDefEqProofs := false}) (disch := omega) only [go_sem,h,h',h1',hp,hkx,zF6,zhq,zMH]
  ·have step := hkc ⟨k + 1,by omega,zdA h hno h1⟩ (by dsimp only;omega)
   dsimp only at step
   have h1' : decide (L[k] = s) = false := decide_eq_false h1
   simp (config := {maxSteps := 4000000,implicitDefEqProofs := false}) (disch := omega) only [go_sem,h,h',h1',hw1,zF6,zhq,zMH]
   exact step
 ·obtain rfl : k = L.length := by omega
  have h' : ¬ (L.length : Int) < (L.length : Int) := Int.lt_irrefl _
  rw [List.take_length] at hno
  simp (config := {maxSteps := 4000000,implicitDefEqProofs := false}) (disch := omega) only [go_sem,h,h',hno,hkx,zF6,zbj]
theorem zsG (m : Nat) (n : Int) (rog : List Int) (L : List Sm) (l : List Sm) (w : Sm) (p : Int) (hm : L.length < m) (hl : L.length ≤ 1000000) (hm2 : l.length < m) (hl2 : l.length ≤ 1000000) :
  z21 m (rrA n rog L) (SL (l.map smE)) (smE w) (nA p) = some (bA (decide (({ w with fr := p } : Sm) ∈ l) && decide (({ w with fr := p } : Sm) ∈ L)),[]) := by
 have hh := zrH m n rog L { w with fr := p } hm hl
 rw [zbV,zcN,z6x]
 rw [zcN,z6x] at hh
 simp (config := {maxSteps := 4000000,implicitDefEqProofs := false}) (disch := omega) only [go_sem,zc7]
 generalize hx : ({ w with fr := p } : Sm) = x at *
 refine z13 (m := m) (ι := {k : Nat // k ≤ l.length ∧ x ∉ l.take k}) (fun k=>⟨[⟨1,z0H,0,rrC n rog L⟩,⟨1,z01,0,smC x⟩],[(1,SL (l.map smE)),(4,OP 0 0),(6,OP 1 0),(9,nA k.1)]⟩) (fun k=>l.length - k.1) (fun _=>some (bA (decide (x ∈ l) && decide (x ∈ L)),[])) ?_ ⟨0,Nat.zero_le _,by simp⟩ (by dsimp only;omega)
 rintro kx hkx ⟨k,hk,hno⟩ kc hkc
 dsimp only at hkc ⊢
 rw [zac]
 by_cases h : k < l.length
 ·have h' : (k : Int) < (l.length : Int) := by omega
  have hw1 : IntKind.i64.wrap ((k : Int) + 1) = (k : Int) + 1 := z2s (by omega) (by omega)
  by_cases h1 : l[k] = x
  ·have hp : decide (x ∈ l) = true := decide_eq_true (h1 ▸ List.getElem_mem h)
   have h1' : decide (l[k] = x) = true := decide_eq_true h1
   simp (config := {maxSteps := 4000000,implicitDefEqProofs := false}) (disch := omega) only [go_sem,h,h',h1',hp,hh,hkx,zmr,zgz,zuh,zmA,zhq,zMH]
  ·have step := hkc ⟨k + 1,by omega,zdA h hno h1⟩ (by dsimp only;omega)
   dsimp only at step
   have h1' : decide (l[k] = x) = false := decide_eq_false h1
   simp (config := {maxSteps := 4000000,implicitDefEqProofs := false}) (disch := omega) only [go_sem,h,h',h1',hw1,zhq,zMH]
   exact step
 ·obtain rfl : k = l.length := by omega
  have h' : ¬ (l.length : Int) < (l.length : Int) := Int.lt_irrefl _
  rw [List.take_length] at hno
  have hp : decide (x ∈ l) = false := decide_eq_false hno
  simp (config := {maxSteps := 4000000,implicitDefEqProofs := false}) (disch := omega) only [go_sem,h,h',hp,hkx,zai]
theorem zBz {α : Type} [DecidableEq α] {T : List α} {s : α} {k : Nat} (h : k < T.length) (hno : s ∉ T.take k) (h1 : T[k] = s) : zLs T s = k + 1 := by
 unfold zLs
 rw [if_pos (h1 ▸ List.getElem_mem h)]
 have hs : T = T.take k ++ s :: T.drop (k + 1) := by rw [← h1,← List.drop_eq_getElem_cons h,List.take_append_drop]
 rw [hs,List.idxOf_append,if_neg hno,List.idxOf_cons_self,List.length_take]
 omega
theorem zBg (m : Nat) (T : List (List UInt8)) (s : List UInt8) (hm : T.length < m) (hl : T.length ≤ 1000000) : z8d m (SL (T.map sA)) (sA s) = some (nA (zLs T s),[]) := by
 rw [zjm]
 refine z13 (m := m) (ι := {k : Nat // k ≤ T.length ∧ s ∉ T.take k}) (fun k=>⟨[],[(0,SL (T.map sA)),(1,sA s),(5,nA k.1)]⟩) (fun k=>T.length - k.1) (fun _=>some (nA (zLs T s),[])) ?_ ⟨0,Nat.zero_le _,by simp⟩ (by dsimp only;omega)
 rintro kx hkx ⟨k,hk,hno⟩ kc hkc
 dsimp only at hkc ⊢
 rw [zgp]
 by_cases h : k < T.length
 ·have h' : (k : Int) < (T.length : Int) := by omega
  have hw1 : IntKind.i64.wrap ((k : Int) + 1) = (k : Int) + 1 := z2s (by omega) (by omega)
  by_cases h1 : T[k] = s
  ·have hp : zLs T s = k + 1 := zBz h hno h1
   rw [hp]
   simp (config := {maxSteps := 4000000,implicitDefEqProofs := false}) (disch := omega) only [go_sem,h,h',h1,hkx,hw1,zMH]
   rfl
  ·have step := hkc ⟨k + 1,by omega,zdA h hno h1⟩ (by dsimp only;omega)
   dsimp only at step
   simp (config := {maxSteps := 4000000,implicitDefEqProofs := false}) (disch := omega) only [go_sem,h,h',h1,hw1,zMH]
   exact step
 ·obtain rfl : k = T.length := by omega
  have h' : ¬ (T.length : Int) < (T.length : Int) := Int.lt_irrefl _
  rw [List.take_length] at hno
  have hp : zLs T s = 0 := by unfold zLs;rw [if_neg hno]
  rw [hp]
  simp (config := {maxSteps := 4000000,implicitDefEqProofs := false}) (disch := omega) only [go_sem,h,h',hkx,zgo]
end

section
open Go.RowKit
attribute [local go_sem] zbn
def zM9 (n : Int) (rog : List Int) (p : Int) (s : Sm) : Bool := (decide (0 ≤ p) && decide (p < n)) && (decide (s.fr = p) || (decide (p ∈ rog) && decide (s.fr ∈ rog)))
def zqi (n : Int) (rog : List Int) (L : List Sm) (p : Int) (s : Sm) : List Sm := if zM9 n rog p s = true ∧ s ∉ L ∧ L.length < 65536 then L ++ [s] else L
theorem zKL {A0 A1 A2 : AObj} {e z m : Nat} {c : List AV} {Y : List AObj} : ro1 (A0 :: A1 :: A2 :: ⟨2,e,z,c⟩ :: Y) (OW 3 m) = if m = c.length then SL c else OW 3 m := by simp [ro1]
section
variable {R : Type} {n n' : Int} {rog rog' : List Int} {L L' : List Sm} {K : AV → Option R}
theorem znm : z09 zc_plenumref04_Ring 0 (rrC n rog L) = rrC n rog L := _root_.id rfl
theorem zyn {a b c : AV} : ((zc_plenumref04_Ring.set 0 a).set 1 b).set 2 c = [a,b,c] := _root_.id rfl
theorem znd : zc_plenumref04_Ring.length = 3 := _root_.id rfl
end
section
variable (m : Nat) (n : Int) (rog : List Int) (L : List Sm) (p : Int) (s : Sm) (hm : L.length < m) (hl : L.length ≤ 65536) (hm2 : rog.length < m) (hl2 : rog.length ≤ 1000000)
include hm hl
theorem zBt : ∃ e : Int,z2P m ⟨[⟨1,z0H,0,rrC n rog L⟩,⟨1,z01,0,smC s⟩,⟨1,z0H,0,zc_plenumref04_Ring⟩],[(3,OP 0 0),(5,OP 1 0),(6,OP 2 0)]⟩ = some (TU [rrA n rog (if s ∉ L ∧ L.length < 65536 then L ++ [s] else L),nA e],[]) := by
 have hh := zrH m n rog L s hm (by omega)
 rw [zcN,z6x] at hh
 rw [zbh]
 by_cases h1 : s ∈ L
 ·have h1' : decide (s ∈ L) = true := decide_eq_true h1
  rw [h1'] at hh
  refine ⟨0,?_⟩
  rw [if_neg (fun q=>q.1 h1),zcN]
  simp (config := {maxSteps := 4000000,implicitDefEqProofs := false}) (disch := omega) only [go_sem,hh,zmr,zgz,zuh,zhq,zmA,zc7,znm,znd,zsd,znb,zMH]
 ·have h1' : decide (s ∈ L) = false := decide_eq_false h1
  rw [h1'] at hh
  by_cases h2 : 65536 ≤ L.length
  ·have h2' : (65536 : Int) ≤ (L.length : Int) := by omega
   refine ⟨5,?_⟩
   rw [if_neg (fun q=>by omega),zcN]
   simp (config := {maxSteps := 4000000,implicitDefEqProofs := false}) (disch := omega) only [go_sem,hh,h2',zF6,zmr,zgz,zuh,zhq,zmA,zc7,znm,znd,zsd,znb,zMH]
  ·have h2' : ¬ (65536 : Int) ≤ (L.length : Int) := by omega
   have hb1 : L.length ≤ 34359738368 := by omega
   have hb2 : L.length + 1 ≤ 34359738368 := by omega
   refine ⟨0,?_⟩
   rw [if_pos ⟨h1,by omega⟩,zcN]
   have hc : rrC n rog L = [nA n,SL (rog.map nA),SL (L.map smE)] := rfl
   have hc2 : rrC n rog (L ++ [s]) = [nA n,SL (rog.map nA),SL (L.map smE ++ [.agg (smC s)])] := by simp [rrC,smE]
   rw [hc2]
   rw [hc] at hh ⊢
   simp (config := {maxSteps := 4000000,implicitDefEqProofs := false}) (disch := omega) only [go_sem,hh,h2',hb1,hb2,zmr,zgz,zuh,zhq,zmA,zc7,znm,znd,zsd,znb,zKL,zyn,zMH]
theorem zr2 (b : Bool) : ∃ e : Int,z1J m ⟨[⟨1,z0H,0,rrC n rog L⟩,⟨1,z01,0,smC s⟩,⟨1,z0H,0,zc_plenumref04_Ring⟩],[(3,OP 0 0),(5,OP 1 0),(6,OP 2 0),(33,bA b)]⟩ = some (TU [rrA n rog (if b = false ∧ s ∉ L ∧ L.length < 65536 then L ++ [s] else L),nA e],[]) := by
 rw [zbk]
 cases b with
 |true =>
  refine ⟨19,?_⟩
  rw [if_neg (fun q=>by cases q.1),zcN]
  simp (config := {maxSteps := 4000000,implicitDefEqProofs := false}) (disch := omega) only [go_sem,zmr,zgz,zuh,zhq,zmA,zc7,znm,znd,zsd,znb,zMH]
 |false =>
  obtain ⟨e,he⟩ := zBt m n rog L s hm hl
  refine ⟨e,?_⟩
  rw [zlV,he]
  simp only [true_and]
include hm2 hl2
theorem zFB : ∃ e : Int,z3X m (rrA n rog L) (nA p) (smE s) = some (TU [rrA n rog (zqi n rog L p s),nA e],[]) := by
 have b1 := zDL m n rog L p hm2 hl2
 have b2 := zDL m n rog L s.fr hm2 hl2
 simp only [zcN] at b1 b2
 rw [zeB]
 unfold zqi zM9
 by_cases c1 : 0 ≤ p ∧ p < n
 ·have e1 : ¬ p < 0 := by omega
  have e2 : ¬ n ≤ p := by omega
  have e3 : (decide (0 ≤ p) && decide (p < n)) = true := by simp [c1]
  rw [e3,Bool.true_and]
  by_cases c2 : s.fr = p
  ·obtain ⟨e,he⟩ := zr2 m n rog L s hm hl false
   refine ⟨e,?_⟩
   simp only [zcN,z6x]
   simp only [zcN] at he
   simp (config := {maxSteps := 4000000,implicitDefEqProofs := false}) (disch := omega) only [go_sem,e1,e2,c2,zBF,zc7,he,z0U,z1V]
  ·by_cases c3 : p ∈ rog
   ·have c3' : decide (p ∈ rog) = true := decide_eq_true c3
    rw [c3'] at b1
    by_cases c4 : s.fr ∈ rog
    ·have c4' : decide (s.fr ∈ rog) = true := decide_eq_true c4
     rw [c4'] at b2
     obtain ⟨e,he⟩ := zr2 m n rog L s hm hl false
     refine ⟨e,?_⟩
     simp only [zcN,z6x]
     simp only [zcN] at he
     simp (config := {maxSteps := 4000000,implicitDefEqProofs := false}) (disch := omega) only [go_sem,e1,e2,c2,c3,c4,b1,b2,zBF,zc7,zmr,zgz,zuh,zhq,zmA,he,z0U,z1V]
    ·have c4' : decide (s.fr ∈ rog) = false := decide_eq_false c4
     rw [c4'] at b2
     obtain ⟨e,he⟩ := zr2 m n rog L s hm hl true
     refine ⟨e,?_⟩
     simp only [zcN,z6x]
     simp only [zcN] at he
     simp (config := {maxSteps := 4000000,implicitDefEqProofs := false}) (disch := omega) only [go_sem,e1,e2,c2,c3,c4,b1,b2,zBF,zc7,zmr,zgz,zuh,zhq,zmA,he,z0U,z1V]
   ·have c3' : decide (p ∈ rog) = false := decide_eq_false c3
    rw [c3'] at b1
    obtain ⟨e,he⟩ := zr2 m n rog L s hm hl true
    refine ⟨e,?_⟩
    simp only [zcN,z6x]
    simp only [zcN] at he
    simp (config := {maxSteps := 4000000,implicitDefEqProofs := false}) (disch := omega) only [go_sem,e1,e2,c2,c3,b1,zBF,zc7,zmr,zgz,zuh,zhq,zmA,he,z0U,z1V]
 ·have e3 : (decide (0 ≤ p) && decide (p < n)) = false := by rw [Bool.eq_false_iff];simpa using c1
  rw [e3,Bool.false_and]
  refine ⟨4,?_⟩
  rw [if_neg (fun q=>by cases q.1)]
  simp only [zcN,z6x]
  by_cases e1 : p < 0
  ·simp (config := {maxSteps := 4000000,implicitDefEqProofs := false}) (disch := omega) only [go_sem,e1,zmr,zgz,zuh,zhq,zmA,zc7,znm,znd,zsd,znb,zMH,z0U]
  ·have e2 : n ≤ p := by omega
   simp (config := {maxSteps := 4000000,implicitDefEqProofs := false}) (disch := omega) only [go_sem,e1,e2,zBF,zmr,zgz,zuh,zhq,zmA,zc7,znm,znd,zsd,znb,zMH,z0U]
end
theorem zE0 (m : Nat) (A B : List AObj) (T : List (List UInt8)) (s : List UInt8) (hA : ∀ n,A.length + (1 + B.length) ≤ n → A.all (ltO n) = true ∧ B.all (ltO n) = true) (hm : T.length < m) (hl : T.length ≤ 65536) :
  z71 m (OW A.length T.length) (sA s) (A ++ trO T :: B) = some (TU [OW A.length (oqT T s).length,nA (ofN T s),nA (ofE T s)],A ++ trO (oqT T s) :: B) := by
 have hh := zBg m T s hm (by omega)
 have hro : ro1 (A ++ trO T :: B) (OW A.length T.length) = SL (T.map sA) := zMl (e := z4p) (z := 1) (by rw [show A.length = A.length + 0 from rfl,zLE];rfl) (by simp)
 have hn0 : ∀ {o : AObj} (K : AObj → RO),z2Q (A ++ o :: B) A.length K = K o := fun {o} K=>(zoL A (k := 0))
 have hs0 : ∀ {o o' : AObj},(A ++ o :: B).set A.length o' = A ++ o' :: B := fun {o o'}=>(zLG A (k := 0))
 have hlen : ∀ {o : AObj},(A ++ o :: B).length = A.length + (1 + B.length) := fun {o}=>by simp;omega
 obtain ⟨h1,h2⟩ := hA (A.length + (1 + B.length)) (Nat.le_refl _)
 have hall : ∀ L,(A ++ trO L :: B).all (ltO (A.length + (1 + B.length))) = true := fun L=>by rw [List.all_append,h1,List.all_cons,zrU,h2];rfl
 have hlt : A.length < A.length + (1 + B.length) := by omega
 have hlts : ((T.map sA).all fun x=>ltA 0 x) = true := by rw [List.all_map];exact List.all_eq_true.2 fun _ _=>rfl
 have hlts' : (T.map sA).all (ltA 0) = true := hlts
 rw [zkZ]
 unfold oqT ofN ofE
 by_cases c1 : s ∈ T
 ·have c2 : (0 : Int) < (zLs T s : Int) := by unfold zLs;rw [if_pos c1];omega
  simp (config := {maxSteps := 4000000,implicitDefEqProofs := false}) (disch := omega) only [go_sem,hh,hro,c1,c2,hlen,hall,hlt]
 ·have c2 : ¬ (0 : Int) < (zLs T s : Int) := by unfold zLs;rw [if_neg c1];omega
  by_cases c3 : 65536 ≤ T.length
  ·have c3' : (65536 : Int) ≤ (T.length : Int) := by omega
   simp (config := {maxSteps := 4000000,implicitDefEqProofs := false}) (disch := omega) only [go_sem,hh,hro,c1,c2,c3,c3',hlen,hall,hlt]
  ·have c3' : ¬ (65536 : Int) ≤ (T.length : Int) := by omega
   have hb : T.length + 1 ≤ 34359738368 := by omega
   simp (config := {maxSteps := 4000000,implicitDefEqProofs := false}) (disch := omega) only [go_sem,hh,hro,c1,c2,c3,c3',hn0,hs0,zL4,zLQ,zLY,zLd,zBk,hb,hlen,hall,h1,h2,hlt]
end

section
open Go.RowKit
def swM (A B : List AObj) (o0 o1 : AObj) : List AObj := A ++ (o0 :: o1 :: B)
def nSW (A B : List AObj) : Nat := A.length + (B.length + 2)
section
variable {R : Type} {A B Y : List AObj} {o0 o1 o : AObj} {K : AObj → Option R} {k : Nat}
theorem zln : (swM A B o0 o1).length = nSW A B := by simp [swM,nSW]
theorem zwZ : swM A (B ++ Y) o0 o1 = swM A B o0 o1 ++ Y := by simp [swM]
theorem zEX : nSW A (B ++ Y) = nSW A B + Y.length := by simp [nSW];omega
theorem zHF : z2Q (swM A B o0 o1) A.length K = K o0 := (zoL A (k := 0))
theorem zKC : z2Q (swM A B o0 o1 ++ Y) A.length K = K o0 := by rw [← zwZ];exact zHF
theorem zKw : (swM A B o0 o1).set A.length o = swM A B o o1 := (zLG A (k := 0))
theorem zIa : z2Q (swM A B o0 o1 ++ Y) (nSW A B + k) K = z2Q Y k K := by
 rw [← zln (o0 := o0) (o1 := o1)];exact zoL _
theorem zJH : z2Q (swM A B o0 o1 ++ Y) (nSW A B) K = z2Q Y 0 K := zIa (k := 0)
theorem zB2 : (swM A B o0 o1 ++ Y).set (nSW A B + k) o = swM A B o0 o1 ++ Y.set k o := by
 rw [← zln (o0 := o0) (o1 := o1)];exact zLG _
theorem zFK : (swM A B o0 o1 ++ Y).set (nSW A B) o = swM A B o0 o1 ++ Y.set 0 o := zB2 (k := 0)
theorem zxN : (swM A B o0 o1).take (nSW A B) = swM A B o0 o1 := by
 rw [← zln (o0 := o0) (o1 := o1)];exact List.take_length
theorem zyE : (swM A B o0 o1 ++ Y).take (nSW A B + k) = swM A B o0 o1 ++ Y.take k := by
 rw [← zln (o0 := o0) (o1 := o1)];exact List.take_length_add_append ..
theorem zzb : (swM A B o0 o1 ++ Y).take (nSW A B) = swM A B o0 o1 := by
 rw [← zln (o0 := o0) (o1 := o1)];exact List.take_left
end
def GW (A B : List AObj) : Prop := ∀ n,nSW A B ≤ n → A.all (ltO n) = true ∧ B.all (ltO n) = true
theorem GW.app {A B Y : List AObj} (h : GW A B) (hY : ∀ n,Y.all (ltO n) = true) : GW A (B ++ Y) := fun n hn=>by
 rw [zEX] at hn
 obtain ⟨h1,h2⟩ := h n (by omega)
 exact ⟨h1,by rw [List.all_append,h2,hY];rfl⟩
structure Wg where
 T : List (List UInt8)
 n : Int
 rog : List Int
 L : List Sm
 X : AV
def woO (a : Nat) (ω : Wg) : AObj := ⟨1,z0w,0,[OW (a + 1) ω.T.length,nA ω.n,SL (ω.rog.map nA),ω.X]⟩
def sw (A B : List AObj) (ω : Wg) : List AObj := swM A B (woO A.length ω) (trO ω.T)
structure WgOk (ω : Wg) : Prop where
 tl : ω.T.length ≤ 65536
 ll : ω.L.length ≤ 65536
 rl : ω.rog.length ≤ 1000000
 lx : ω.X = SL (ω.L.map smE) ∨ (ω.L = [] ∧ ω.X = V (.slice none 0 0))
theorem WgOk.ro {ω : Wg} (h : WgOk ω) (H : List AObj) : ro1 H ω.X = SL (ω.L.map smE) := by
 rcases h.lx with e|⟨e,e2⟩
 ·rw [e];rfl
 ·rw [e2,e];rfl
theorem WgOk.lt {ω : Wg} (h : WgOk ω) (n : Nat) : ltA n ω.X = true ∧ lt1 n ω.X = true ∧ zN7 ω.X = true := by
 rcases h.lx with e|⟨e,e2⟩
 ·rw [e];exact ⟨rfl,rfl,rfl⟩
 ·rw [e2];exact ⟨rfl,rfl,rfl⟩
theorem zuE {n a : Nat} {ω : Wg} (hω : WgOk ω) (h : a + 1 < n) : ltO n (woO a ω) = true := by
 obtain ⟨h1,h2,_⟩ := hω.lt n
 show ((1 : Nat) == 0 || ([OW (a + 1) ω.T.length,nA ω.n,SL (ω.rog.map nA),ω.X] : List AV).all (ltA n)) = true
 rw [List.all_cons,List.all_cons,List.all_cons,List.all_cons,h1,show ltA n (OW (a + 1) ω.T.length) = true from decide_eq_true h,show ltA n (nA ω.n) = true from rfl,show ltA n (SL (ω.rog.map nA)) = true from rfl]
 rfl
theorem zmm {A B : List AObj} {ω : Wg} (h : GW A B) (hω : WgOk ω) {n : Nat} (hn : nSW A B ≤ n) : (sw A B ω).all (ltO n) = true := by
 obtain ⟨h1,h2⟩ := h n hn
 have h3 : A.length + 2 ≤ n := by unfold nSW at hn;omega
 unfold sw swM
 rw [List.all_append,h1]
 simp only [List.all_cons,zuE hω (show A.length + 1 < n by omega),zrU,h2,Bool.and_self]
theorem z65 {A B : List AObj} {ω : Wg} : (sw A B ω).length = nSW A B := zln
theorem zf6 {A B Y : List AObj} {ω : Wg} : sw A (B ++ Y) ω = sw A B ω ++ Y := zwZ
section
variable {R : Type} {A B Y : List AObj} {ω : Wg} {K : AObj → Option R} {k : Nat} {o : AObj}
theorem w_0 : z2Q (sw A B ω) A.length K = K (woO A.length ω) := zHF
theorem zM0 : z2Q (sw A B ω ++ Y) A.length K = K (woO A.length ω) := zKC
theorem zMt : z2Q (sw A B ω ++ Y) (nSW A B) K = z2Q Y 0 K := zJH
theorem zLt : z2Q (sw A B ω ++ Y) (nSW A B + k) K = z2Q Y k K := zIa
theorem zmd : (sw A B ω ++ Y).set (nSW A B) o = sw A B ω ++ Y.set 0 o := zFK
theorem zm9 : (sw A B ω ++ Y).set (nSW A B + k) o = sw A B ω ++ Y.set k o := zB2
theorem zan : (sw A B ω).take (nSW A B) = sw A B ω := zxN
theorem z39 : (sw A B ω ++ Y).take (nSW A B) = sw A B ω := zzb
theorem z4N : (sw A B ω ++ Y).take (nSW A B + k) = sw A B ω ++ Y.take k := zyE
theorem z2g {R : Type} {a : Nat} {K : List AV → Option R} : zjw (woO a ω) K = K [OW (a + 1) ω.T.length,nA ω.n,SL (ω.rog.map nA),ω.X] := by unfold woO;exact zz9
end
attribute [local go_sem] zbn w_0 zM0 zMt zLt zmd zm9 zan z39 z4N z65 z2g
theorem zHQ (m : Nat) (A B : List AObj) (ω : Wg) (s : List UInt8) (hG : GW A B) (hω : WgOk ω) (hm : ω.T.length < m) :
  z1N m (OP A.length 0) (sA s) (sw A B ω) = some (nA (ofN ω.T s),sw A B { ω with T := oqT ω.T s }) := by
 have hl := hω.tl
 have hof := zE0 m (A ++ [woO A.length ω]) B ω.T s (fun n hn=>by
  have hn' : nSW A B ≤ n := by simp at hn;unfold nSW;omega
  obtain ⟨h1,h2⟩ := hG n hn'
  refine ⟨?_,h2⟩
  rw [List.all_append,h1]
  have := zuE (n := n) (a := A.length) hω (by unfold nSW at hn';omega)
  simp [this]) hm hl
 have e1 : ∀ T,A ++ [woO A.length ω] ++ trO T :: B = swM A B (woO A.length ω) (trO T) := fun T=>by simp [swM]
 have e2 : (A ++ [woO A.length ω]).length = A.length + 1 := by simp
 rw [e1,e1,e2] at hof
 have hω2 : WgOk { ω with T := oqT ω.T s } := ⟨by
  show (oqT ω.T s).length ≤ 65536
  unfold oqT
  split
  ·exact hl
  ·split
   ·exact hl
   ·simp;omega,hω.ll,hω.rl,hω.lx⟩
 have hlt := zmm hG hω2 (Nat.le_refl _)
 have hput : ∀ (K : AObj → RO),zKS (woO A.length ω) 1 0 (OW (A.length + 1) (oqT ω.T s).length) K = K (woO A.length { ω with T := oqT ω.T s }) := fun K=>by
  unfold woO
  rw [zud]
  rfl
 rw [zex]
 unfold sw at *
 simp (config := {maxSteps := 4000000,implicitDefEqProofs := false}) (disch := omega) only [go_sem,zHF,hof,hput,zKw,zln,zxN,hlt]
end

section
open Go.RowKit
attribute [local go_sem] zbn w_0 zM0 zMt zLt zmd zm9 zan z39 z4N z65 z2g
def voB (w : Sm) (l L : List Sm) (p : Int) : Bool := decide (({ w with fr := p } : Sm) ∈ l) && decide (({ w with fr := p } : Sm) ∈ L)
def zhW (w : Sm) (l L : List Sm) (but : Int) (k : Nat) : Nat := ((List.range k).filter fun (p : Nat)=>decide ((p : Int) ≠ but) && voB w l L (p : Int)).length
theorem zu5 {w : Sm} {l L : List Sm} {but : Int} {k : Nat} : zhW w l L but (k + 1) = if (decide ((k : Int) ≠ but) && voB w l L k) = true then zhW w l L but k + 1 else zhW w l L but k := by
 unfold zhW
 rw [List.range_succ,List.filter_append,List.length_append]
 by_cases h : (decide ((k : Int) ≠ but) && voB w l L k) = true
 ·rw [if_pos h]
  simp only [List.filter_cons,h,List.filter_nil,↓reduceIte,List.length_singleton]
 ·rw [if_neg h]
  simp only [List.filter_cons,h,List.filter_nil]
  simp
theorem zze {w : Sm} {l L : List Sm} {but : Int} {k : Nat} : zhW w l L but k ≤ k := by
 unfold zhW
 exact Nat.le_trans (List.length_filter_le ..) (by simp)
theorem zwJ (m : Nat) (A B : List AObj) (ω : Wg) (l : List Sm) (w : Sm) (n but : Int) (hG : GW A B) (hω : WgOk ω) (hm : 100 < m) (hml : l.length < m) (hl2 : l.length ≤ 1000000) (hmL : ω.L.length < m) (hn0 : 0 ≤ n) (hn : n ≤ 64) :
  z25 m (OP A.length 0) (SL (l.map smE)) (smE w) (nA n) (nA but) (sw A B ω) = some (nA (zhW w l ω.L but n.toNat),sw A B ω) := by
 have hL := hω.ll
 have hlt := zmm hG hω (Nat.le_refl _)
 have hlt1 := zmm hG hω (n := nSW A B + 1) (by omega)
 have hA1 : A.length < nSW A B + 1 := by unfold nSW;omega
 have hB1 : nSW A B < nSW A B + 1 := Nat.lt_succ_self _
 rw [zcs,z6x]
 simp (config := {maxSteps := 4000000,implicitDefEqProofs := false}) (disch := omega) only [go_sem,hA1]
 refine z13 (m := m) (ι := {k : Nat // k ≤ n.toNat}) (fun k=>⟨sw A B ω ++ [⟨1,z01,0,smC w⟩],[(0,OP A.length 0),(1,SL (l.map smE)),(3,nA n),(4,nA but),(7,OP (nSW A B) 0),(11,nA (zhW w l ω.L but k.1)),(12,nA k.1)]⟩) (fun k=>n.toNat - k.1) (fun _=>some (nA (zhW w l ω.L but n.toNat),sw A B ω)) ?_ ⟨0,Nat.zero_le _⟩ (by dsimp only;omega)
 rintro kx hkx ⟨k,hk⟩ kc hkc
 dsimp only at hkc ⊢
 rw [zaw]
 by_cases h : k < n.toNat
 ·have h' : (k : Int) < n := by omega
  have step := hkc ⟨k + 1,by omega⟩ (by dsimp only;omega)
  dsimp only at step
  rw [zu5] at step
  have hle := zze (w := w) (l := l) (L := ω.L) (but := but) (k := k)
  have hw1 : IntKind.i64.wrap ((k : Int) + 1) = (k : Int) + 1 := z2s (by omega) (by omega)
  have hw2 : IntKind.i64.wrap ((zhW w l ω.L but k : Int) + 1) = (zhW w l ω.L but k : Int) + 1 := z2s (by omega) (by omega)
  have hv := zsG m ω.n ω.rog ω.L l w k hmL (by omega) hml hl2
  rw [show (decide (({ w with fr := (k : Int) } : Sm) ∈ l) && decide (({ w with fr := (k : Int) } : Sm) ∈ ω.L)) = voB w l ω.L k from rfl] at hv
  unfold rrA rrC at hv
  rw [z6x] at hv
  have hX := fun H=>hω.ro H
  have hX2 := fun n=>(hω.lt n).2.1
  have hX3 := (hω.lt 0).2.2
  have hsl : ∀ n,(l.map smE).all (ltA n) = true := fun n=>by rw [List.all_map];exact zfG
  generalize zhW w l ω.L but k = c at *
  by_cases h1 : (k : Int) = but
  ·subst h1
   have e1 : decide ((k : Int) ≠ (k : Int)) = false := by simp
   rw [e1,Bool.false_and,if_neg (by decide)] at step
   simp (config := {maxSteps := 4000000,implicitDefEqProofs := false}) (disch := omega) only [go_sem,h,h',hw1,hlt1,hA1,hB1,z2E,z2G]
   exact step
  ·have e1 : decide ((k : Int) ≠ but) = true := by simp [h1]
   rw [e1,Bool.true_and] at step
   cases h2 : voB w l ω.L k with
   |true =>
    rw [h2] at hv step
    rw [if_pos rfl] at step
    simp (config := {maxSteps := 4000000,implicitDefEqProofs := false}) (disch := omega) only [go_sem,h,h',h1,hv,hX,hX2,hw1,hw2,hlt1,hA1,hB1,z2E,z2G]
    exact step
   |false =>
    rw [h2] at hv step
    rw [if_neg (by decide)] at step
    simp (config := {maxSteps := 4000000,implicitDefEqProofs := false}) (disch := omega) only [go_sem,h,h',h1,hv,hX,hX2,hw1,hw2,hlt1,hA1,hB1,z2E,z2G]
    exact step
 ·obtain rfl : k = n.toNat := by omega
  have h' : ¬ ((n.toNat : Nat) : Int) < n := by omega
  simp (config := {maxSteps := 4000000,implicitDefEqProofs := false}) (disch := omega) only [go_sem,h',hkx,hlt,zax]
end

end Go.Proofs.Ytaaogcnjfkgnoaa
end

namespace Go.Proofs.Ytaaogcnjfkgnoaa
open Go.RowKit
theorem zw9 (m s : Nat) (n : Int) (h : s < 2 ^ 64) : z9W m (qA s) (nA n) = some (qA (s &&& (18446744073709551615 - qb n)),[]) := by
 have hb := zFa m n
 have ha := u64_andNot_nat s (qb n) h (zvg n)
 rw [zkL]
 simp (config := {maxSteps := 4000000,implicitDefEqProofs := false}) only [go_sem,↓reduceIte,Nat.reduceAdd,Nat.reduceSub,Nat.reduceMul,Nat.reduceLeDiff,Nat.reduceLT,Int.reduceEq,Int.reduceNe,Int.reduceLT,Int.reduceLE,Int.reduceAdd,Int.reduceSub,Int.reduceMul,Int.reduceNeg,Nat.zero_add,Nat.add_zero,Nat.mul_one,Int.toNat_natCast,Int.natCast_zero,Int.cast_ofNat_Int,or_false,false_or,or_true,true_or,Int.reduceToNat,Nat.sub_zero,Int.natCast_nonneg,Int.toNat_zero,Bool.true_and,Bool.and_true,Bool.false_and,Bool.and_false,Bool.true_or,Bool.or_true,Bool.false_or,Bool.or_false,Bool.not_true,Bool.not_false,Bool.not_not,true_and,and_true,false_and,and_false,not_true_eq_false,not_false_eq_true,eq_self,decide_true,decide_false,ne_eq,implies_true,forall_const,true_implies,false_implies,Bool.true_eq_false,Bool.false_eq_true,reduceCtorEq,List.map_cons,List.map_nil,List.all_cons,List.all_nil,List.length_cons,List.length_nil,List.length_map,List.length_append,List.nil_append,List.cons_append,List.set_cons_zero,List.set_cons_succ,List.set_nil,List.drop_zero,List.drop_succ_cons,List.drop_nil,List.take_zero,List.take_succ_cons,List.take_nil,Option.map_some,Option.map_none,Option.isSome_some,Nat.reduceEqDiff,Nat.reduceBEq,Nat.reduceGT,List.all_append,List.all_map,Function.comp_def,decide_eq_true_eq,Bool.and_eq_true,beq_self_eq_true,or_self,and_self,ite_true,ite_false,Nat.le_refl,Bool.not_eq_true,decide_not,Bool.not_eq_true',decide_eq_false_iff_not,Bool.not_eq_false,Bool.or_eq_true,if_true,if_false,ite_self,zgt,zgL,zgT,zgD,zgN,z5I,hb,ha]
theorem znW (m : Nat) (v n : Int) (hv : -9223372036854775808 ≤ v ∧ v < 9223372036854775808) (hn : n < 9223372036854775808) : z7o m (nA v) (nA n) = some (nA (if n < 1 then 0 else v % n),[]) := by
 rw [zkY]
 by_cases h1 : n < 1
 ·simp (config := {maxSteps := 4000000,implicitDefEqProofs := false}) only [go_sem,↓reduceIte,Nat.reduceAdd,Nat.reduceSub,Nat.reduceMul,Nat.reduceLeDiff,Nat.reduceLT,Int.reduceEq,Int.reduceNe,Int.reduceLT,Int.reduceLE,Int.reduceAdd,Int.reduceSub,Int.reduceMul,Int.reduceNeg,Nat.zero_add,Nat.add_zero,Nat.mul_one,Int.toNat_natCast,Int.natCast_zero,Int.cast_ofNat_Int,or_false,false_or,or_true,true_or,Int.reduceToNat,Nat.sub_zero,Int.natCast_nonneg,Int.toNat_zero,Bool.true_and,Bool.and_true,Bool.false_and,Bool.and_false,Bool.true_or,Bool.or_true,Bool.false_or,Bool.or_false,Bool.not_true,Bool.not_false,Bool.not_not,true_and,and_true,false_and,and_false,not_true_eq_false,not_false_eq_true,eq_self,decide_true,decide_false,ne_eq,implies_true,forall_const,true_implies,false_implies,Bool.true_eq_false,Bool.false_eq_true,reduceCtorEq,List.map_cons,List.map_nil,List.all_cons,List.all_nil,List.length_cons,List.length_nil,List.length_map,List.length_append,List.nil_append,List.cons_append,List.set_cons_zero,List.set_cons_succ,List.set_nil,List.drop_zero,List.drop_succ_cons,List.drop_nil,List.take_zero,List.take_succ_cons,List.take_nil,Option.map_some,Option.map_none,Option.isSome_some,Nat.reduceEqDiff,Nat.reduceBEq,Nat.reduceGT,List.all_append,List.all_map,Function.comp_def,decide_eq_true_eq,Bool.and_eq_true,beq_self_eq_true,or_self,and_self,ite_true,ite_false,Nat.le_refl,Bool.not_eq_true,decide_not,Bool.not_eq_true',decide_eq_false_iff_not,Bool.not_eq_false,Bool.or_eq_true,if_true,if_false,ite_self,zgt,zgL,zgT,zgD,zgN,z5I,h1]
 ·have h0 : ¬ n = 0 := by omega
  have hm : v.tmod n = if v.tmod n < 0 then v % n - n else v % n := by
   have e1 := Int.emod_nonneg v h0
   have e2 := Int.emod_lt_of_pos v (show 0 < n by omega)
   by_cases hp : 0 ≤ v
   ·rw [Int.tmod_eq_emod_of_nonneg hp,if_neg (by omega)]
   ·have e3 := Int.tmod_eq_emod (a := v) (b := n)
    have e4 : v.tmod n = if n ∣ v then v % n else v % n - n := by
     rw [e3]
     by_cases hd : n ∣ v
     ·rw [if_pos (.inr hd),if_pos hd];omega
     ·rw [if_neg (by simp [hd,hp]),if_neg hd]
      have : (n.natAbs : Int) = n := by omega
      omega
    by_cases hd : n ∣ v
    ·have : v % n = 0 := Int.emod_eq_zero_of_dvd hd
     rw [if_pos hd] at e4
     rw [e4,if_neg (by omega)]
    ·rw [if_neg hd] at e4
     rw [e4,if_pos (by omega)]
  by_cases h2 : v.tmod n < 0
  ·rw [if_pos h2] at hm
   have e : IntKind.i64.wrap (v.tmod n + n) = v % n := by
    rw [hm] at h2 ⊢
    have e1 := Int.emod_nonneg v h0
    have e2 := Int.emod_lt_of_pos v (show 0 < n by omega)
    rw [show v % n - n + n = v % n by omega]
    exact z2s (by omega) (by omega)
   simp (config := {maxSteps := 4000000,implicitDefEqProofs := false}) only [go_sem,↓reduceIte,Nat.reduceAdd,Nat.reduceSub,Nat.reduceMul,Nat.reduceLeDiff,Nat.reduceLT,Int.reduceEq,Int.reduceNe,Int.reduceLT,Int.reduceLE,Int.reduceAdd,Int.reduceSub,Int.reduceMul,Int.reduceNeg,Nat.zero_add,Nat.add_zero,Nat.mul_one,Int.toNat_natCast,Int.natCast_zero,Int.cast_ofNat_Int,or_false,false_or,or_true,true_or,Int.reduceToNat,Nat.sub_zero,Int.natCast_nonneg,Int.toNat_zero,Bool.true_and,Bool.and_true,Bool.false_and,Bool.and_false,Bool.true_or,Bool.or_true,Bool.false_or,Bool.or_false,Bool.not_true,Bool.not_false,Bool.not_not,true_and,and_true,false_and,and_false,not_true_eq_false,not_false_eq_true,eq_self,decide_true,decide_false,ne_eq,implies_true,forall_const,true_implies,false_implies,Bool.true_eq_false,Bool.false_eq_true,reduceCtorEq,List.map_cons,List.map_nil,List.all_cons,List.all_nil,List.length_cons,List.length_nil,List.length_map,List.length_append,List.nil_append,List.cons_append,List.set_cons_zero,List.set_cons_succ,List.set_nil,List.drop_zero,List.drop_succ_cons,List.drop_nil,List.take_zero,List.take_succ_cons,List.take_nil,Option.map_some,Option.map_none,Option.isSome_some,Nat.reduceEqDiff,Nat.reduceBEq,Nat.reduceGT,List.all_append,List.all_map,Function.comp_def,decide_eq_true_eq,Bool.and_eq_true,beq_self_eq_true,or_self,and_self,ite_true,ite_false,Nat.le_refl,Bool.not_eq_true,decide_not,Bool.not_eq_true',decide_eq_false_iff_not,Bool.not_eq_false,Bool.or_eq_true,if_true,if_false,ite_self,zgt,zgL,zgT,zgD,zgN,z5I,h1,h0,h2,e]
  ·rw [if_neg h2] at hm
   rw [if_neg h1]
   simp (config := {maxSteps := 4000000,implicitDefEqProofs := false}) only [go_sem,↓reduceIte,Nat.reduceAdd,Nat.reduceSub,Nat.reduceMul,Nat.reduceLeDiff,Nat.reduceLT,Int.reduceEq,Int.reduceNe,Int.reduceLT,Int.reduceLE,Int.reduceAdd,Int.reduceSub,Int.reduceMul,Int.reduceNeg,Nat.zero_add,Nat.add_zero,Nat.mul_one,Int.toNat_natCast,Int.natCast_zero,Int.cast_ofNat_Int,or_false,false_or,or_true,true_or,Int.reduceToNat,Nat.sub_zero,Int.natCast_nonneg,Int.toNat_zero,Bool.true_and,Bool.and_true,Bool.false_and,Bool.and_false,Bool.true_or,Bool.or_true,Bool.false_or,Bool.or_false,Bool.not_true,Bool.not_false,Bool.not_not,true_and,and_true,false_and,and_false,not_true_eq_false,not_false_eq_true,eq_self,decide_true,decide_false,ne_eq,implies_true,forall_const,true_implies,false_implies,Bool.true_eq_false,Bool.false_eq_true,reduceCtorEq,List.map_cons,List.map_nil,List.all_cons,List.all_nil,List.length_cons,List.length_nil,List.length_map,List.length_append,List.nil_append,List.cons_append,List.set_cons_zero,List.set_cons_succ,List.set_nil,List.drop_zero,List.drop_succ_cons,List.drop_nil,List.take_zero,List.take_succ_cons,List.take_nil,Option.map_some,Option.map_none,Option.isSome_some,Nat.reduceEqDiff,Nat.reduceBEq,Nat.reduceGT,List.all_append,List.all_map,Function.comp_def,decide_eq_true_eq,Bool.and_eq_true,beq_self_eq_true,or_self,and_self,ite_true,ite_false,Nat.le_refl,Bool.not_eq_true,decide_not,Bool.not_eq_true',decide_eq_false_iff_not,Bool.not_eq_false,Bool.or_eq_true,if_true,if_false,ite_self,zgt,zgL,zgT,zgD,zgN,z5I,h1,h0,h2]
   rw [hm]
theorem of_s (m : Nat) (l : List Int) (hl : l.length < 34359738369) (hm : l.length < m) : zlc m (SL (l.map nA)) = some (qA (l.foldl (fun s i=>s ||| qb i) 0),[]) := by
 rw [zq8]
 simp (config := {maxSteps := 4000000,implicitDefEqProofs := false}) only [go_sem,↓reduceIte,Nat.reduceAdd,Nat.reduceSub,Nat.reduceMul,Nat.reduceLeDiff,Nat.reduceLT,Int.reduceEq,Int.reduceNe,Int.reduceLT,Int.reduceLE,Int.reduceAdd,Int.reduceSub,Int.reduceMul,Int.reduceNeg,Nat.zero_add,Nat.add_zero,Nat.mul_one,Int.toNat_natCast,Int.natCast_zero,Int.cast_ofNat_Int,or_false,false_or,or_true,true_or,Int.reduceToNat,Nat.sub_zero,Int.natCast_nonneg,Int.toNat_zero,Bool.true_and,Bool.and_true,Bool.false_and,Bool.and_false,Bool.true_or,Bool.or_true,Bool.false_or,Bool.or_false,Bool.not_true,Bool.not_false,Bool.not_not,true_and,and_true,false_and,and_false,not_true_eq_false,not_false_eq_true,eq_self,decide_true,decide_false,ne_eq,implies_true,forall_const,true_implies,false_implies,Bool.true_eq_false,Bool.false_eq_true,reduceCtorEq,List.map_cons,List.map_nil,List.all_cons,List.all_nil,List.length_cons,List.length_nil,List.length_map,List.length_append,List.nil_append,List.cons_append,List.set_cons_zero,List.set_cons_succ,List.set_nil,List.drop_zero,List.drop_succ_cons,List.drop_nil,List.take_zero,List.take_succ_cons,List.take_nil,Option.map_some,Option.map_none,Option.isSome_some,Nat.reduceEqDiff,Nat.reduceBEq,Nat.reduceGT,List.all_append,List.all_map,Function.comp_def,decide_eq_true_eq,Bool.and_eq_true,beq_self_eq_true,or_self,and_self,ite_true,ite_false,Nat.le_refl,Bool.not_eq_true,decide_not,Bool.not_eq_true',decide_eq_false_iff_not,Bool.not_eq_false,Bool.or_eq_true,if_true,if_false,ite_self,zgt,zgL,zgT,zgD,zgN,z5I]
 have hlt : ∀ k : List Int,k.foldl (fun s i=>s ||| qb i) 0 < 2 ^ 64 := by
  have : ∀ (k : List Int) (s : Nat),s < 2 ^ 64 → k.foldl (fun s i=>s ||| qb i) s < 2 ^ 64 := by
   intro k
   induction k with
   |nil=>intro s h;exact h
   |cons a k ih=>intro s h;exact ih _ (Nat.or_lt_two_pow h (zvg a))
  exact fun k=>this k 0 (by decide)
 refine zqK (ι := {k : Nat // k ≤ l.length}) (fun k=>⟨[],[(3,qA ((l.take k.1).foldl (fun s i=>s ||| qb i) 0)),(6,SL (l.map nA)),(7,nA l.length),(8,nA k.1)]⟩) (fun k=>l.length - k.1) (fun _=>some (qA (l.foldl (fun s i=>s ||| qb i) 0),[])) ?_ ⟨0,Nat.zero_le _⟩ (by dsimp only;omega)
 rintro ⟨k,hk⟩ kc hkc
 dsimp only at hkc ⊢
 rw [zmz]
 by_cases hlt2 : k < l.length
 ·have hlt' : (k : Int) < (l.length : Int) := by omega
  have hw := zz5 m ((l.take k).foldl (fun s i=>s ||| qb i) 0) l[k] (hlt _)
  have hs := hkc ⟨k + 1,by omega⟩ (by dsimp only;omega)
  dsimp only at hs
  rw [List.take_succ_eq_append_getElem hlt2,List.foldl_append] at hs
  simp (config := {maxSteps := 4000000,implicitDefEqProofs := false}) (disch := omega) only [go_sem,↓reduceIte,Nat.reduceAdd,Nat.reduceSub,Nat.reduceMul,Nat.reduceLeDiff,Nat.reduceLT,Int.reduceEq,Int.reduceNe,Int.reduceLT,Int.reduceLE,Int.reduceAdd,Int.reduceSub,Int.reduceMul,Int.reduceNeg,Nat.zero_add,Nat.add_zero,Nat.mul_one,Int.toNat_natCast,Int.natCast_zero,Int.cast_ofNat_Int,or_false,false_or,or_true,true_or,Int.reduceToNat,Nat.sub_zero,Int.natCast_nonneg,Int.toNat_zero,Bool.true_and,Bool.and_true,Bool.false_and,Bool.and_false,Bool.true_or,Bool.or_true,Bool.false_or,Bool.or_false,Bool.not_true,Bool.not_false,Bool.not_not,true_and,and_true,false_and,and_false,not_true_eq_false,not_false_eq_true,eq_self,decide_true,decide_false,ne_eq,implies_true,forall_const,true_implies,false_implies,Bool.true_eq_false,Bool.false_eq_true,reduceCtorEq,List.map_cons,List.map_nil,List.all_cons,List.all_nil,List.length_cons,List.length_nil,List.length_map,List.length_append,List.nil_append,List.cons_append,List.set_cons_zero,List.set_cons_succ,List.set_nil,List.drop_zero,List.drop_succ_cons,List.drop_nil,List.take_zero,List.take_succ_cons,List.take_nil,Option.map_some,Option.map_none,Option.isSome_some,Nat.reduceEqDiff,Nat.reduceBEq,Nat.reduceGT,List.all_append,List.all_map,Function.comp_def,decide_eq_true_eq,Bool.and_eq_true,beq_self_eq_true,or_self,and_self,ite_true,ite_false,Nat.le_refl,Bool.not_eq_true,decide_not,Bool.not_eq_true',decide_eq_false_iff_not,Bool.not_eq_false,Bool.or_eq_true,if_true,if_false,ite_self,zgt,zgL,zgT,zgD,zgN,z5I,hlt',zqn,hw,z2s]
  exact hs
 ·have hlt' : ¬ (k : Int) < (l.length : Int) := by omega
  simp (config := {maxSteps := 4000000,implicitDefEqProofs := false}) only [go_sem,↓reduceIte,Nat.reduceAdd,Nat.reduceSub,Nat.reduceMul,Nat.reduceLeDiff,Nat.reduceLT,Int.reduceEq,Int.reduceNe,Int.reduceLT,Int.reduceLE,Int.reduceAdd,Int.reduceSub,Int.reduceMul,Int.reduceNeg,Nat.zero_add,Nat.add_zero,Nat.mul_one,Int.toNat_natCast,Int.natCast_zero,Int.cast_ofNat_Int,or_false,false_or,or_true,true_or,Int.reduceToNat,Nat.sub_zero,Int.natCast_nonneg,Int.toNat_zero,Bool.true_and,Bool.and_true,Bool.false_and,Bool.and_false,Bool.true_or,Bool.or_true,Bool.false_or,Bool.or_false,Bool.not_true,Bool.not_false,Bool.not_not,true_and,and_true,false_and,and_false,not_true_eq_false,not_false_eq_true,eq_self,decide_true,decide_false,ne_eq,implies_true,forall_const,true_implies,false_implies,Bool.true_eq_false,Bool.false_eq_true,reduceCtorEq,List.map_cons,List.map_nil,List.all_cons,List.all_nil,List.length_cons,List.length_nil,List.length_map,List.length_append,List.nil_append,List.cons_append,List.set_cons_zero,List.set_cons_succ,List.set_nil,List.drop_zero,List.drop_succ_cons,List.drop_nil,List.take_zero,List.take_succ_cons,List.take_nil,Option.map_some,Option.map_none,Option.isSome_some,Nat.reduceEqDiff,Nat.reduceBEq,Nat.reduceGT,List.all_append,List.all_map,Function.comp_def,decide_eq_true_eq,Bool.and_eq_true,beq_self_eq_true,or_self,and_self,ite_true,ite_false,Nat.le_refl,Bool.not_eq_true,decide_not,Bool.not_eq_true',decide_eq_false_iff_not,Bool.not_eq_false,Bool.or_eq_true,if_true,if_false,ite_self,zgt,zgL,zgT,zgD,zgN,z5I,hlt']
  rw [zmD,List.take_of_length_le (by omega)]
  simp (config := {maxSteps := 4000000,implicitDefEqProofs := false}) only [go_sem,↓reduceIte,Nat.reduceAdd,Nat.reduceSub,Nat.reduceMul,Nat.reduceLeDiff,Nat.reduceLT,Int.reduceEq,Int.reduceNe,Int.reduceLT,Int.reduceLE,Int.reduceAdd,Int.reduceSub,Int.reduceMul,Int.reduceNeg,Nat.zero_add,Nat.add_zero,Nat.mul_one,Int.toNat_natCast,Int.natCast_zero,Int.cast_ofNat_Int,or_false,false_or,or_true,true_or,Int.reduceToNat,Nat.sub_zero,Int.natCast_nonneg,Int.toNat_zero,Bool.true_and,Bool.and_true,Bool.false_and,Bool.and_false,Bool.true_or,Bool.or_true,Bool.false_or,Bool.or_false,Bool.not_true,Bool.not_false,Bool.not_not,true_and,and_true,false_and,and_false,not_true_eq_false,not_false_eq_true,eq_self,decide_true,decide_false,ne_eq,implies_true,forall_const,true_implies,false_implies,Bool.true_eq_false,Bool.false_eq_true,reduceCtorEq,List.map_cons,List.map_nil,List.all_cons,List.all_nil,List.length_cons,List.length_nil,List.length_map,List.length_append,List.nil_append,List.cons_append,List.set_cons_zero,List.set_cons_succ,List.set_nil,List.drop_zero,List.drop_succ_cons,List.drop_nil,List.take_zero,List.take_succ_cons,List.take_nil,Option.map_some,Option.map_none,Option.isSome_some,Nat.reduceEqDiff,Nat.reduceBEq,Nat.reduceGT,List.all_append,List.all_map,Function.comp_def,decide_eq_true_eq,Bool.and_eq_true,beq_self_eq_true,or_self,and_self,ite_true,ite_false,Nat.le_refl,Bool.not_eq_true,decide_not,Bool.not_eq_true',decide_eq_false_iff_not,Bool.not_eq_false,Bool.or_eq_true,if_true,if_false,ite_self,zgt,zgL,zgT,zgD,zgN,z5I]
theorem zpR (m : Nat) (v n : Int) (hv : -9223372036854775808 ≤ v ∧ v < 9223372036854775808) (hn : n < 9223372036854775808) : z3f m (nA v) (nA n) = some (nA (if n < 1 then 0 else v % n),[]) := by
 rw [zf7]
 by_cases h1 : n < 1
 ·simp (config := {maxSteps := 4000000,implicitDefEqProofs := false}) only [go_sem,↓reduceIte,Nat.reduceAdd,Nat.reduceSub,Nat.reduceMul,Nat.reduceLeDiff,Nat.reduceLT,Int.reduceEq,Int.reduceNe,Int.reduceLT,Int.reduceLE,Int.reduceAdd,Int.reduceSub,Int.reduceMul,Int.reduceNeg,Nat.zero_add,Nat.add_zero,Nat.mul_one,Int.toNat_natCast,Int.natCast_zero,Int.cast_ofNat_Int,or_false,false_or,or_true,true_or,Int.reduceToNat,Nat.sub_zero,Int.natCast_nonneg,Int.toNat_zero,Bool.true_and,Bool.and_true,Bool.false_and,Bool.and_false,Bool.true_or,Bool.or_true,Bool.false_or,Bool.or_false,Bool.not_true,Bool.not_false,Bool.not_not,true_and,and_true,false_and,and_false,not_true_eq_false,not_false_eq_true,eq_self,decide_true,decide_false,ne_eq,implies_true,forall_const,true_implies,false_implies,Bool.true_eq_false,Bool.false_eq_true,reduceCtorEq,List.map_cons,List.map_nil,List.all_cons,List.all_nil,List.length_cons,List.length_nil,List.length_map,List.length_append,List.nil_append,List.cons_append,List.set_cons_zero,List.set_cons_succ,List.set_nil,List.drop_zero,List.drop_succ_cons,List.drop_nil,List.take_zero,List.take_succ_cons,List.take_nil,Option.map_some,Option.map_none,Option.isSome_some,Nat.reduceEqDiff,Nat.reduceBEq,Nat.reduceGT,List.all_append,List.all_map,Function.comp_def,decide_eq_true_eq,Bool.and_eq_true,beq_self_eq_true,or_self,and_self,ite_true,ite_false,Nat.le_refl,Bool.not_eq_true,decide_not,Bool.not_eq_true',decide_eq_false_iff_not,Bool.not_eq_false,Bool.or_eq_true,if_true,if_false,ite_self,zgt,zgL,zgT,zgD,zgN,z5I,h1]
 ·have h0 : ¬ n = 0 := by omega
  have hm : v.tmod n = if v.tmod n < 0 then v % n - n else v % n := by
   have e1 := Int.emod_nonneg v h0
   have e2 := Int.emod_lt_of_pos v (show 0 < n by omega)
   by_cases hp : 0 ≤ v
   ·rw [Int.tmod_eq_emod_of_nonneg hp,if_neg (by omega)]
   ·have e3 := Int.tmod_eq_emod (a := v) (b := n)
    have e4 : v.tmod n = if n ∣ v then v % n else v % n - n := by
     rw [e3]
     by_cases hd : n ∣ v
     ·rw [if_pos (.inr hd),if_pos hd];omega
     ·rw [if_neg (by simp [hd,hp]),if_neg hd]
      have : (n.natAbs : Int) = n := by omega
      omega
    by_cases hd : n ∣ v
    ·have : v % n = 0 := Int.emod_eq_zero_of_dvd hd
     rw [if_pos hd] at e4
     rw [e4,if_neg (by omega)]
    ·rw [if_neg hd] at e4
     rw [e4,if_pos (by omega)]
  by_cases h2 : v.tmod n < 0
  ·rw [if_pos h2] at hm
   have e : IntKind.i64.wrap (v.tmod n + n) = v % n := by
    rw [hm] at h2 ⊢
    have e1 := Int.emod_nonneg v h0
    have e2 := Int.emod_lt_of_pos v (show 0 < n by omega)
    rw [show v % n - n + n = v % n by omega]
    exact z2s (by omega) (by omega)
   simp (config := {maxSteps := 4000000,implicitDefEqProofs := false}) only [go_sem,↓reduceIte,Nat.reduceAdd,Nat.reduceSub,Nat.reduceMul,Nat.reduceLeDiff,Nat.reduceLT,Int.reduceEq,Int.reduceNe,Int.reduceLT,Int.reduceLE,Int.reduceAdd,Int.reduceSub,Int.reduceMul,Int.reduceNeg,Nat.zero_add,Nat.add_zero,Nat.mul_one,Int.toNat_natCast,Int.natCast_zero,Int.cast_ofNat_Int,or_false,false_or,or_true,true_or,Int.reduceToNat,Nat.sub_zero,Int.natCast_nonneg,Int.toNat_zero,Bool.true_and,Bool.and_true,Bool.false_and,Bool.and_false,Bool.true_or,Bool.or_true,Bool.false_or,Bool.or_false,Bool.not_true,Bool.not_false,Bool.not_not,true_and,and_true,false_and,and_false,not_true_eq_false,not_false_eq_true,eq_self,decide_true,decide_false,ne_eq,implies_true,forall_const,true_implies,false_implies,Bool.true_eq_false,Bool.false_eq_true,reduceCtorEq,List.map_cons,List.map_nil,List.all_cons,List.all_nil,List.length_cons,List.length_nil,List.length_map,List.length_append,List.nil_append,List.cons_append,List.set_cons_zero,List.set_cons_succ,List.set_nil,List.drop_zero,List.drop_succ_cons,List.drop_nil,List.take_zero,List.take_succ_cons,List.take_nil,Option.map_some,Option.map_none,Option.isSome_some,Nat.reduceEqDiff,Nat.reduceBEq,Nat.reduceGT,List.all_append,List.all_map,Function.comp_def,decide_eq_true_eq,Bool.and_eq_true,beq_self_eq_true,or_self,and_self,ite_true,ite_false,Nat.le_refl,Bool.not_eq_true,decide_not,Bool.not_eq_true',decide_eq_false_iff_not,Bool.not_eq_false,Bool.or_eq_true,if_true,if_false,ite_self,zgt,zgL,zgT,zgD,zgN,z5I,h1,h0,h2,e]
  ·rw [if_neg h2] at hm
   rw [if_neg h1]
   simp (config := {maxSteps := 4000000,implicitDefEqProofs := false}) only [go_sem,↓reduceIte,Nat.reduceAdd,Nat.reduceSub,Nat.reduceMul,Nat.reduceLeDiff,Nat.reduceLT,Int.reduceEq,Int.reduceNe,Int.reduceLT,Int.reduceLE,Int.reduceAdd,Int.reduceSub,Int.reduceMul,Int.reduceNeg,Nat.zero_add,Nat.add_zero,Nat.mul_one,Int.toNat_natCast,Int.natCast_zero,Int.cast_ofNat_Int,or_false,false_or,or_true,true_or,Int.reduceToNat,Nat.sub_zero,Int.natCast_nonneg,Int.toNat_zero,Bool.true_and,Bool.and_true,Bool.false_and,Bool.and_false,Bool.true_or,Bool.or_true,Bool.false_or,Bool.or_false,Bool.not_true,Bool.not_false,Bool.not_not,true_and,and_true,false_and,and_false,not_true_eq_false,not_false_eq_true,eq_self,decide_true,decide_false,ne_eq,implies_true,forall_const,true_implies,false_implies,Bool.true_eq_false,Bool.false_eq_true,reduceCtorEq,List.map_cons,List.map_nil,List.all_cons,List.all_nil,List.length_cons,List.length_nil,List.length_map,List.length_append,List.nil_append,List.cons_append,List.set_cons_zero,List.set_cons_succ,List.set_nil,List.drop_zero,List.drop_succ_cons,List.drop_nil,List.take_zero,List.take_succ_cons,List.take_nil,Option.map_some,Option.map_none,Option.isSome_some,Nat.reduceEqDiff,Nat.reduceBEq,Nat.reduceGT,List.all_append,List.all_map,Function.comp_def,decide_eq_true_eq,Bool.and_eq_true,beq_self_eq_true,or_self,and_self,ite_true,ite_false,Nat.le_refl,Bool.not_eq_true,decide_not,Bool.not_eq_true',decide_eq_false_iff_not,Bool.not_eq_false,Bool.or_eq_true,if_true,if_false,ite_self,zgt,zgL,zgT,zgD,zgN,z5I,h1,h0,h2]
   rw [hm]
end Go.Proofs.Ytaaogcnjfkgnoaa

namespace Go.Proofs.Ytaaogcnjfkgnoaa
open Go.RowKit
theorem ztV : ∀ (l : List Int) (s : Nat),s < 2 ^ 64 → l.foldl (fun s i=>s ||| qb i) s < 2 ^ 64
 |[],s,h=>h
 |i :: l,s,h=>ztV l _ (Nat.or_lt_two_pow h (zvg i))
theorem zsL {j : Nat} (hj : j < 64) : ∀ (l : List Int) (s : Nat),(l.foldl (fun s i=>s ||| qb i) s).testBit j = (s.testBit j || decide ((j : Int) ∈ l))
 |[],s=>by simp
 |i :: l,s=>by
  show (l.foldl _ (s ||| qb i)).testBit j = _
  rw [zsL hj l,zNm hj]
  by_cases h : i = (j : Int)
  ·simp [h]
  ·have : ¬ (j : Int) = i := fun e=>h e.symm
   simp [h,this]
def zNk (w : Sm) (R l : List Sm) (n : Int) : Nat := (zNd (spL w R l) 64).foldl (fun s i=>s ||| qb i) 0 &&& zLi n
theorem zrt {w : Sm} {R l : List Sm} {n : Int} : zNk w R l n < 2 ^ 64 := Nat.lt_of_le_of_lt Nat.and_le_left (ztV _ 0 (by decide))
theorem zCO {w : Sm} {R : List Sm} (hR : ∀ x ∈ R,0 ≤ x.fr ∧ x.fr < 64) {j : Nat} (hj : j < 64) : ∀ (l : List Sm) (b : List Bool),b.length = 64 → (l.foldl (spS w R) b).getD j false = (b.getD j false || voB w l R j)
 |[],b,hb=>by simp [voB]
 |x :: l,b,hb=>by
  show (l.foldl (spS w R) (spS w R b x)).getD j false = _
  rw [zCO hR hj l _ (by rw [zxC,hb])]
  have hv : voB w (x :: l) R j = ((decide (x = ({ w with fr := (j : Int) } : Sm)) && decide (x ∈ R)) || voB w l R j) := by
   unfold voB
   by_cases h : x = ({ w with fr := (j : Int) } : Sm)
   ·subst h
    simp
   ·have h' : ¬ ({ w with fr := (j : Int) } : Sm) = x := fun e=>h e.symm
    simp [h,h']
  rw [hv,← Bool.or_assoc]
  congr 1
  unfold spS zN9
  by_cases h1 : x = { w with fr := x.fr }
  ·by_cases h2 : x ∈ R
   ·obtain ⟨f0,f1⟩ := hR x h2
    rw [if_pos (by rw [decide_eq_true h1,decide_eq_true h2];rfl)]
    by_cases h3 : x.fr = (j : Int)
    ·have e : decide (x = ({ w with fr := (j : Int) } : Sm)) = true := decide_eq_true (by rw [← h3];exact h1)
     rw [e,decide_eq_true h2,h3,Int.toNat_natCast]
     simp [List.getD_eq_getElem?_getD,hb,hj]
    ·have e : decide (x = ({ w with fr := (j : Int) } : Sm)) = false := decide_eq_false (fun q=>h3 (by rw [q]))
     rw [e]
     have : x.fr.toNat ≠ j := by omega
     simp [List.getD_eq_getElem?_getD,List.getElem?_set_ne this]
   ·rw [if_neg (by rw [decide_eq_false h2,Bool.and_false];decide),decide_eq_false h2]
    simp
  ·have e : decide (x = ({ w with fr := (j : Int) } : Sm)) = false := decide_eq_false (fun q=>h1 (by rw [q]))
   rw [if_neg (by rw [decide_eq_false h1,Bool.false_and];decide),e]
   simp
theorem zqg {w : Sm} {R l : List Sm} {n : Int} (hR : ∀ x ∈ R,0 ≤ x.fr ∧ x.fr < 64) {j : Nat} (hj : j < 64) : (zNk w R l n).testBit j = (voB w l R j && decide ((j : Int) < n)) := by
 unfold zNk
 rw [Nat.testBit_and,zsL hj,zsx hj,Nat.zero_testBit,Bool.false_or]
 congr 1
 have h := zCO (w := w) hR hj l (List.replicate 64 false) (by simp)
 rw [show (List.replicate 64 false).getD j false = false by rw [List.getD_eq_getElem?_getD,List.getElem?_replicate,if_pos hj];rfl,Bool.false_or] at h
 rw [← h]
 unfold zNd spL
 rw [Bool.eq_iff_iff,decide_eq_true_eq]
 constructor
 ·intro q
  obtain ⟨p,hp,e⟩ := List.mem_map.1 q
  have : p = j := by omega
  subst this
  exact (List.mem_filter.1 hp).2
 ·intro q
  exact List.mem_map.2 ⟨j,List.mem_filter.2 ⟨List.mem_range.2 hj,q⟩,rfl⟩
theorem zsU {w : Sm} {l L : List Sm} {but : Int} {k : Nat} (hk : k ≤ 64) : zhW w l L but k = cP fun i=>(decide ((i : Int) ≠ but) && voB w l L i) && decide (i < k) := by
 unfold zhW cP
 obtain ⟨d,hd⟩ : ∃ d,64 = k + d := ⟨64 - k,by omega⟩
 rw [hd,zns,List.filter_append,List.length_append]
 have h1 : ((List.range k).filter fun (i : Nat)=>(decide ((i : Int) ≠ but) && voB w l L i) && decide (i < k)) = (List.range k).filter fun (p : Nat)=>decide ((p : Int) ≠ but) && voB w l L (p : Int) := by
  refine List.filter_congr fun i hi=>?_
  rw [decide_eq_true (List.mem_range.1 hi),Bool.and_true]
 have h2 : (((List.range d).map (k + ·)).filter fun (i : Nat)=>(decide ((i : Int) ≠ but) && voB w l L i) && decide (i < k)) = [] := by
  rw [List.filter_eq_nil_iff]
  intro i hi
  obtain ⟨a,_,rfl⟩ := List.mem_map.1 hi
  simp
 rw [h1,h2]
 rfl
theorem zCj {w : Sm} {R l : List Sm} {n p : Int} (hR : ∀ x ∈ R,0 ≤ x.fr ∧ x.fr < 64) (hp0 : 0 ≤ p) (hp : p < n) (hn : n ≤ 64) : (!decide ((zNk w R l n &&& qb p : Nat) = 0)) = voB w l R p := by
 obtain ⟨k,rfl⟩ : ∃ k : Nat,p = k := ⟨p.toNat,by omega⟩
 have hk : k < 64 := by omega
 have h1 := zqg (w := w) (l := l) (n := n) hR hk
 rw [decide_eq_true hp,Bool.and_true] at h1
 rw [← h1]
 have hq : qb (k : Int) = 2 ^ k := by unfold qb;rw [if_pos (by omega)];simp
 rw [hq]
 generalize zNk w R l n = S
 rw [Bool.eq_iff_iff,Bool.not_eq_true',decide_eq_false_iff_not]
 constructor
 ·intro h
  cases hb : S.testBit k with
  |true=>rfl
  |false =>
   refine absurd (Nat.eq_of_testBit_eq fun i=>?_) h
   rw [Nat.testBit_and,Nat.testBit_two_pow,Nat.zero_testBit]
   by_cases e : k = i
   ·subst e;simp [hb]
   ·simp [e]
 ·intro h e
  have := congrArg (fun x=>x.testBit k) e
  simp [h] at this
theorem zs0 {w : Sm} {R l : List Sm} {n p : Int} (hR : ∀ x ∈ R,0 ≤ x.fr ∧ x.fr < 64) (hp0 : 0 ≤ p) (hp : p < n) (hn0 : 0 ≤ n) (hn : n ≤ 64) : zKU (zNk w R l n &&& (18446744073709551615 - qb p)) = zhW w l R p n.toNat := by
 rw [zJ5,zsU (by omega)]
 refine zwo fun i hi=>?_
 rw [Nat.testBit_and,zqg hR hi,zE4 (zvg p) hi]
 have h0 := zNm (s := 0) (i := p) hi
 rw [Nat.zero_or,Nat.zero_testBit,Bool.false_or] at h0
 rw [h0]
 have e1 : decide ((i : Int) < n) = decide (i < n.toNat) := by rw [decide_eq_decide];omega
 have e2 : (!decide (p = (i : Int))) = decide ((i : Int) ≠ p) := by
  rw [← decide_not,decide_eq_decide]
  constructor <;> intro h e <;> exact h e.symm
 rw [e1,e2]
 cases voB w l R i <;> cases decide (i < n.toNat) <;> cases decide ((i : Int) ≠ p) <;> rfl
theorem zyL {w : Sm} {R l : List Sm} {n : Int} (hR : ∀ x ∈ R,0 ≤ x.fr ∧ x.fr < 64) (hn0 : 0 ≤ n) (hn : n ≤ 64) : zKU (zNk w R l n &&& zLi n) = zhW w l R (-1) n.toNat := by
 rw [zpo,zsU (by omega)]
 refine zwo fun i hi=>?_
 rw [zqg hR hi]
 have e1 : decide ((i : Int) < n) = decide (i < n.toNat) := by rw [decide_eq_decide];omega
 have e2 : decide ((i : Int) ≠ -1) = true := decide_eq_true (by omega)
 rw [e1,e2]
 cases voB w l R i <;> cases decide (i < n.toNat) <;> rfl
end Go.Proofs.Ytaaogcnjfkgnoaa

section
namespace Go.Proofs.Ytaaogcnjfkgnoaa
attribute [local go_sem] Nat.zero_add Nat.add_zero Nat.mul_one Int.toNat_natCast Int.natCast_zero Int.cast_ofNat_Int or_false false_or or_true true_or Nat.sub_zero Int.natCast_nonneg Int.toNat_zero Bool.true_and Bool.and_true Bool.false_and Bool.and_false Bool.true_or Bool.or_true Bool.false_or Bool.or_false Bool.not_true Bool.not_false Bool.not_not true_and and_true false_and and_false not_true_eq_false not_false_eq_true eq_self decide_true decide_false ne_eq implies_true forall_const true_implies false_implies Bool.true_eq_false Bool.false_eq_true List.map_cons List.map_nil List.all_cons List.all_nil List.length_cons List.length_nil List.length_map List.length_append List.nil_append List.cons_append List.set_cons_zero List.set_cons_succ List.set_nil List.drop_zero List.drop_succ_cons List.drop_nil List.take_zero List.take_succ_cons List.take_nil Option.map_some Option.map_none Option.isSome_some List.all_append List.all_map Function.comp_def decide_eq_true_eq Bool.and_eq_true beq_self_eq_true or_self and_self ite_true ite_false Nat.le_refl Bool.not_eq_true decide_not Bool.not_eq_true' decide_eq_false_iff_not Bool.not_eq_false Bool.or_eq_true if_true if_false ite_self zgt zgL zgT zgD zgN z5I z6x znr zim zl3 znw zj7 zut zii zw8 zoB znT zva zdk z9t zwp zd2 z9U zw5 zcG z9R zw2 ze0 z9K zwc zdv z9B ziK zd1 ziP zop zok zdz ziu zda zdw zfG zhD zo0 zoy zi3 ziH zoh ziC zwi ziG zvM znZ zoK zuK zcE z9s zw4 zdP z9q zvE zdh z9Q zhM z7f z58 zw1 zdI z9O zj8 zd3 zi7 zno zoe zdJ zic zdF zcX zfx zi8 zaD znN ziB zmB zoo ziO zvb ziX zvZ znv zon zv4 zdb z9S zwg zdZ z9X zun zd7 z9P zuX ze2 z9E zv6 zdn z9M zv5 zdS z9A zhP zdB zi9 znO zoa zcS ziS zcC zdx zgR zhQ zmH zot ziV zmt znC zhE zup zhJ zvO znS znV zvX zcP z9Z zvW zcR z9v zwk zcV z9p zwn zcY z9z zux zcD z9N zj1 z7s z5l zvA zdN z9o zoc z9w z7m zih zdG ziz zo7 znJ zdY zig zdH zde zhR zhX ztp znA zhN znx zou zhx zvj ziJ zuT zoz zox zuA zdO z9H zvp zd5 z9T ziM z6A z5a zuG zdl z9J zij zd4 zhL zoC znq zd8 zia zdu zcU zfe ziW zvn znX zif zog znG ziU zw7 zhz zv8 zny zow zvc zcH z9F zvm zcW z9L zuS zcJ z9I zvV zcF za0 zuH zdV z9C zvL zdR z9Y zik ziv znL zqn zMd zvo zuZ zvk zvS zvN zus zuJ zwA zwD zAL zbn Nat.le_add_right List.append_assoc zN3 zMM zpp zoA zat zi6 z7p z82 z6w
attribute [local go_sem_proc] Nat.reduceAdd Nat.reduceSub Nat.reduceMul Nat.reduceLeDiff Nat.reduceLT Int.reduceEq Int.reduceNe Int.reduceLT Int.reduceLE Int.reduceAdd Int.reduceSub Int.reduceMul Int.reduceNeg Int.reduceToNat reduceCtorEq Nat.reduceEqDiff Nat.reduceBEq Nat.reduceGT
attribute [local go_sem_proc ↓] reduceIte
section
open Go.RowKit
theorem SgOk.rr {σ : Sg} (h : SgOk σ) : ∀ x ∈ σ.R,0 ≤ x.fr ∧ x.fr < 64 := fun x hx=>by
 obtain ⟨h1,h2⟩ := h.rf x hx
 have := h.n2
 exact ⟨h1,by omega⟩
theorem zqb (m : Nat) (A B : List AObj) (σ : Sg) (l : List Sm) (w : Sm) (n : Int) (hG : GB A B) (hσ : SgOk σ) (hm : 70 < m) (hlm : l.length < m) (hll : l.length ≤ 1000000) (hli : ∀ x ∈ l,SmI x) :
  za2 m (OP (A.length + 4) 0) (SL (l.map smE)) (smE w) (nA n) (sc A B σ) = some (qA (zNk w σ.R l n),sc A B σ) := by
 have hv := zv7 m A (B ++ [⟨1,z01,0,smC w⟩]) σ l w (hG.app fun n=>by simp [z6w]) hσ hm hlm hll hli
 rw [z8H,z6x] at hv
 have hol := zsz (b := spL w σ.R l) (k := 64)
 have ho := of_s m (zNd (spL w σ.R l) 64) (by omega) (by omega)
 have ha := zI3 m n
 have hand := bits_and_u64_nat ((zNd (spL w σ.R l) 64).foldl (fun s i=>s ||| qb i) 0) (zLi n) (ztV _ 0 (by decide)) (zxL n)
 have hlt := zkx hG (σ := σ) (Nat.le_refl _)
 rw [znY,z6x]
 unfold zNk
 simp (config := {maxSteps := 4000000,implicitDefEqProofs := false}) (disch := omega) only [go_sem,hv,ho,ha,hand,hlt]
theorem zL3 {R : Type} {a b c d : Int} {K : AV → Option R} : z1F (some z0G) (some zc_api_Stmt) [(1,nA a),(2,nA b),(3,nA c),(4,nA d)] K = K (.agg (smC ⟨0,a,b,c,d⟩)) := _root_.id rfl
def okC (T : List (List UInt8)) (s : List UInt8) (tm : Int) : Bool := decide (ofN T s ≠ 0) && decide ((ofN T s : Int) = tm)
theorem ofE_N {T : List (List UInt8)} {s : List UInt8} : ofE T s = 0 ↔ ofN T s ≠ 0 := by
 unfold ofE ofN zLs
 split
 ·simp [*]
 ·split
  ·simp
  ·simp
def zLv (c : Ce) : Sm := ⟨0,2,c.vw,c.sq,c.tm⟩
def zqV (c : Ce) : Sm := ⟨0,3,c.vw,c.sq,c.tm⟩
def prN (v n : Int) : Int := if n < 1 then 0 else v % n
def ceH (T : List (List UInt8)) (R : List Sm) (c : Ce) (n : Int) : Bool :=
 okN n && (okC T c.body c.tm && (voB (zLv c) c.vs R (prN c.vw n) && decide (2 * fN n ≤ zhW (zqV c) c.vs R (prN c.vw n) n.toNat)))
def ceT (T : List (List UInt8)) (c : Ce) (n : Int) : List (List UInt8) := if okN n = true then oqT T c.body else T
theorem zhy {n : Int} (h : okN n = true) : 4 ≤ n ∧ n ≤ 16 := by rcases okN_iff.1 h with h|h|h|h|h <;> omega
theorem zCS {v n : Int} (h : okN n = true) : 0 ≤ prN v n ∧ prN v n < n := by
 obtain ⟨h1,h2⟩ := zhy h
 unfold prN
 rw [if_neg (by omega)]
 exact ⟨Int.emod_nonneg _ (by omega),Int.emod_lt_of_pos _ (by omega)⟩
structure CeI (c : Ce) : Prop where
 vw : I64 c.vw
 body : c.body.length ≤ 1000000
 vl : c.vs.length ≤ 1000000
 vs : ∀ x ∈ c.vs,SmI x
theorem SgOk.of {σ : Sg} (h : SgOk σ) {s : List UInt8} (hs : s.length ≤ 9223372036854775807) : SgOk { σ with T := oqT σ.T s } := by
 refine ⟨?_,?_,?_,h.n1,h.n2,h.bl,h.rn,h.rl,h.ri,h.rf⟩
 ·show (oqT σ.T s).Nodup
  unfold oqT
  split
  ·exact h.tn
  ·split
   ·exact h.tn
   ·rename_i h1 _
    exact List.nodup_append.2 ⟨h.tn,by simp,fun a ha b hb=>by simp at hb;subst hb;exact fun e=>h1 (e ▸ ha)⟩
 ·show (oqT σ.T s).length ≤ 65536
  have := h.tl
  unfold oqT
  split
  ·exact h.tl
  ·split
   ·exact h.tl
   ·simp;omega
 ·show ∀ x ∈ oqT σ.T s,_
  unfold oqT
  split
  ·exact h.ts
  ·split
   ·exact h.ts
   ·intro x hx
    rcases List.mem_append.1 hx with q|q
    ·exact h.ts x q
    ·simp at q;subst q;exact hs
theorem zzo (m : Nat) (A B : List AObj) (σ : Sg) (c : Ce) (n : Int) (hG : GB A B) (hσ : SgOk σ) (hm : 1000001 < m) (hc : CeI c) (hn : okN n = true) :
  zcQ m (nAB A B) ⟨sc A B σ ++ [⟨1,z07,0,ceC c⟩],[(0,OP (A.length + 4) 0),(3,nA n),(6,OP (nAB A B) 0),(9,nA (fN n))]⟩ = some (bA (voB (zLv c) c.vs σ.R (prN c.vw n) && decide (2 * fN n ≤ zhW (zqV c) c.vs σ.R (prN c.vw n) n.toNat)),sc A B σ) := by
 obtain ⟨n1,n2⟩ := zhy hn
 obtain ⟨p1,p2⟩ := zCS (v := c.vw) hn
 have hvl := hc.vl
 have hC : ∀ n,ltO n ⟨1,z07,0,ceC c⟩ = true := fun n=>by
  show ((1 : Nat) == 0 || (ceC c).all (ltA n)) = true
  rw [ziH];rfl
 have hY : ∀ (w : Sm) n,([⟨1,z07,0,ceC c⟩,⟨1,z01,0,smC w⟩] : List AObj).all (ltO n) = true := fun w n=>by simp [hC,z6w]
 have v1 := zqb m A (B ++ [⟨1,z07,0,ceC c⟩,⟨1,z01,0,smC (zLv c)⟩]) σ c.vs (zLv c) n (hG.app (hY _)) hσ (by omega) (by omega) hvl hc.vs
 have v2 := zqb m A (B ++ [⟨1,z07,0,ceC c⟩,⟨1,z01,0,smC (zqV c)⟩]) σ c.vs (zqV c) n (hG.app (hY _)) hσ (by omega) (by omega) hvl hc.vs
 rw [z8H,z6x] at v1 v2
 have pr := znW m c.vw n ⟨hc.vw.1,by have := hc.vw.2;omega⟩ (by omega)
 rw [show (if n < 1 then 0 else c.vw % n) = prN c.vw n from rfl] at pr
 have hh := zGX m (zNk (zLv c) σ.R c.vs n) (prN c.vw n) zrt
 rw [zCj hσ.rr p1 p2 (by omega)] at hh
 have hw := zw9 m (zNk (zqV c) σ.R c.vs n) (prN c.vw n) zrt
 have hcn := zx9 m (zNk (zqV c) σ.R c.vs n &&& (18446744073709551615 - qb (prN c.vw n))) (Nat.lt_of_le_of_lt Nat.and_le_left zrt)
 rw [zs0 hσ.rr p1 p2 (by omega) (by omega)] at hcn
 have hlt := zkx hG (σ := σ) (Nat.le_refl _)
 have hf := zDr n
 have hw2 : IntKind.i64.wrap (2 * (fN n : Int)) = 2 * (fN n : Int) := z2s (by omega) (by omega)
 have hst : ∀ {K : AV → RO},z1F (some z0G) (some zc_api_Stmt) [(1,nA 2),(2,nA c.vw),(3,nA c.sq),(4,nA c.tm)] K = K (.agg (smC (zLv c))) := zL3
 have hkd : z09 (smC (zLv c)) 1 [nA 3] = smC (zqV c) := rfl
 have hdd : decide ((2 : Int) * (fN n : Int) ≤ (zhW (zqV c) c.vs σ.R (prN c.vw n) n.toNat : Int)) = decide (2 * fN n ≤ zhW (zqV c) c.vs σ.R (prN c.vw n) n.toNat) := by rw [decide_eq_decide];omega
 rw [zmv]
 generalize prN c.vw n = p at *
 cases hv : voB (zLv c) c.vs σ.R p with
 |true =>
  rw [hv] at hh
  simp (config := {maxSteps := 4000000,implicitDefEqProofs := false}) (disch := omega) only [go_sem,pr,hst,v1,v2,hkd,hh,hw,hcn,hw2,hlt,hdd]
 |false =>
  rw [hv] at hh
  simp (config := {maxSteps := 4000000,implicitDefEqProofs := false}) (disch := omega) only [go_sem,pr,hst,v1,v2,hkd,hh,hw,hcn,hw2,hlt,hdd]
theorem zCY (m : Nat) (A B : List AObj) (σ : Sg) (c : Ce) (n : Int) (hG : GB A B) (hσ : SgOk σ) (hm : 1000001 < m) (hc : CeI c) :
  zlh m (OP (A.length + 4) 0) (OP (A.length + 1) 0) (ceE c) (nA n) (sc A B σ) = some (bA (ceH σ.T σ.R c n),sc A B { σ with T := ceT σ.T c n }) := by
 have hf := zh6 m n
 have hC : ∀ n,([⟨1,z07,0,ceC c⟩] : List AObj).all (ltO n) = true := fun n=>by
  rw [List.all_cons,List.all_nil,Bool.and_true]
  show ((1 : Nat) == 0 || (ceC c).all (ltA n)) = true
  rw [ziH];rfl
 have hb := hc.body
 have ht := zEZ m A (B ++ [⟨1,z07,0,ceC c⟩]) σ c.body (hG.app hC) hσ (by omega)
 rw [z8H,z8H] at ht
 have hσ2 := hσ.of (s := c.body) (by omega)
 have hlt := fun {σ : Sg}=>zkx hG (σ := σ) (Nat.le_refl _)
 rw [zqx,zo0]
 unfold ceH ceT
 cases hn : okN n with
 |false =>
  rw [hn] at hf
  simp (config := {maxSteps := 4000000,implicitDefEqProofs := false}) (disch := omega) only [go_sem,hf,hlt]
 |true =>
  rw [hn] at hf
  have h2 := zzo m A B _ c n hG hσ2 hm hc hn
  dsimp only at h2
  rw [if_pos rfl,Bool.true_and]
  unfold okC
  by_cases c1 : ofE σ.T c.body = 0
  ·have c1' := ofE_N.1 c1
   by_cases c2 : (ofN σ.T c.body : Int) = c.tm
   ·rw [decide_eq_true c1',decide_eq_true c2,Bool.true_and,Bool.true_and,← h2]
    simp (config := {maxSteps := 4000000,implicitDefEqProofs := false}) (disch := omega) only [go_sem,hf,ht,c1,c2,hlt,zb9]
   ·rw [decide_eq_false c2,Bool.and_false,Bool.false_and]
    simp (config := {maxSteps := 4000000,implicitDefEqProofs := false}) (disch := omega) only [go_sem,hf,ht,c1,c2,hlt,zb9]
  ·have c1' : ¬ ofN σ.T c.body ≠ 0 := fun q=>c1 (ofE_N.2 q)
   rw [decide_eq_false c1',Bool.false_and,Bool.false_and]
   simp (config := {maxSteps := 4000000,implicitDefEqProofs := false}) (disch := omega) only [go_sem,hf,ht,c1,hlt,zb9]
theorem WgOk.of {ω : Wg} (h : WgOk ω) {s : List UInt8} : WgOk { ω with T := oqT ω.T s } := ⟨by
 show (oqT ω.T s).length ≤ 65536
 have := h.tl
 unfold oqT
 split
 ·exact h.tl
 ·split
  ·exact h.tl
  ·simp;omega,h.ll,h.rl,h.lx⟩
theorem zzn (m : Nat) (A B : List AObj) (ω : Wg) (c : Ce) (n : Int) (hG : GW A B) (hω : WgOk ω) (hm : 1000001 < m) (hc : CeI c) (hn : okN n = true) :
  z2b m (nSW A B) ⟨sw A B ω ++ [⟨1,z07,0,ceC c⟩],[(0,OP A.length 0),(2,nA n),(4,OP (nSW A B) 0),(7,nA (fN n))]⟩ = some (bA (voB (zLv c) c.vs ω.L (prN c.vw n) && decide (2 * fN n ≤ zhW (zqV c) c.vs ω.L (prN c.vw n) n.toNat)),sw A B ω) := by
 obtain ⟨n1,n2⟩ := zhy hn
 have hvl := hc.vl
 have hL := hω.ll
 have hC : ∀ n,([⟨1,z07,0,ceC c⟩] : List AObj).all (ltO n) = true := fun n=>by
  rw [List.all_cons,List.all_nil,Bool.and_true]
  show ((1 : Nat) == 0 || (ceC c).all (ltA n)) = true
  rw [ziH];rfl
 have hv := zsG m ω.n ω.rog ω.L c.vs (zLv c) (prN c.vw n) (by omega) (by omega) (by omega) hvl
 rw [show (decide (({ zLv c with fr := prN c.vw n } : Sm) ∈ c.vs) && decide (({ zLv c with fr := prN c.vw n } : Sm) ∈ ω.L)) = voB (zLv c) c.vs ω.L (prN c.vw n) from rfl,z6x] at hv
 unfold rrA rrC at hv
 have hmn := zwJ m A (B ++ [⟨1,z07,0,ceC c⟩]) ω c.vs (zqV c) n (prN c.vw n) (hG.app hC) hω (by omega) (by omega) hvl (by omega) (by omega) (by omega)
 rw [zf6,z6x] at hmn
 have pr := zpR m c.vw n ⟨hc.vw.1,by have := hc.vw.2;omega⟩ (by omega)
 rw [show (if n < 1 then 0 else c.vw % n) = prN c.vw n from rfl] at pr
 have hlt := zmm hG hω (Nat.le_refl _)
 have hf := zDr n
 have hw2 : IntKind.i64.wrap (2 * (fN n : Int)) = 2 * (fN n : Int) := z2s (by omega) (by omega)
 have hst : ∀ {K : AV → RO},z1F (some z0G) (some zc_api_Stmt) [(1,nA 2),(2,nA c.vw),(3,nA c.sq),(4,nA c.tm)] K = K (.agg (smC (zLv c))) := zL3
 have hst3 : ∀ {K : AV → RO},z1F (some z0G) (some zc_api_Stmt) [(1,nA 3),(2,nA c.vw),(3,nA c.sq),(4,nA c.tm)] K = K (.agg (smC (zqV c))) := zL3
 have hdd : decide ((2 : Int) * (fN n : Int) ≤ (zhW (zqV c) c.vs ω.L (prN c.vw n) n.toNat : Int)) = decide (2 * fN n ≤ zhW (zqV c) c.vs ω.L (prN c.vw n) n.toNat) := by rw [decide_eq_decide];omega
 have hX := fun H=>hω.ro H
 have hX2 := fun n=>(hω.lt n).2.1
 rw [zar]
 generalize prN c.vw n = p at *
 cases hv2 : voB (zLv c) c.vs ω.L p with
 |true =>
  rw [hv2] at hv
  simp (config := {maxSteps := 4000000,implicitDefEqProofs := false}) (disch := omega) only [go_sem,zM0,zMt,z2g,z39,z65,hX,hX2,pr,hst,hst3,hv,hmn,hw2,hlt,hdd]
 |false =>
  rw [hv2] at hv
  simp (config := {maxSteps := 4000000,implicitDefEqProofs := false}) (disch := omega) only [go_sem,zM0,zMt,z2g,z39,z65,hX,hX2,pr,hst,hst3,hv,hmn,hw2,hlt,hdd]
theorem zBe (m : Nat) (A B : List AObj) (ω : Wg) (c : Ce) (n : Int) (hG : GW A B) (hω : WgOk ω) (hm : 1000001 < m) (hc : CeI c) :
  z23 m (OP A.length 0) (ceE c) (nA n) (sw A B ω) = some (bA (ceH ω.T ω.L c n),sw A B { ω with T := ceT ω.T c n }) := by
 have hf := zl9 m n (by omega)
 have hC : ∀ n,([⟨1,z07,0,ceC c⟩] : List AObj).all (ltO n) = true := fun n=>by
  rw [List.all_cons,List.all_nil,Bool.and_true]
  show ((1 : Nat) == 0 || (ceC c).all (ltA n)) = true
  rw [ziH];rfl
 have hl := hω.tl
 have ht := zHQ m A (B ++ [⟨1,z07,0,ceC c⟩]) ω c.body (hG.app hC) hω (by omega)
 rw [zf6,zf6] at ht
 have hω2 := hω.of (s := c.body)
 have hlt0 := zmm hG hω (Nat.le_refl _)
 have hlt := zmm hG hω2 (Nat.le_refl _)
 rw [zcf,zo0]
 unfold ceH ceT
 cases hn : okN n with
 |false =>
  have h0 : fN n = 0 := by unfold fN;rw [hn];rfl
  rw [h0] at hf
  simp (config := {maxSteps := 4000000,implicitDefEqProofs := false}) (disch := omega) only [go_sem,z39,z65,hf,hlt0]
 |true =>
  have h2 := zzn m A B _ c n hG hω2 hm hc hn
  dsimp only at h2
  obtain ⟨n1,n2⟩ := zhy hn
  have h0 : ¬ (fN n : Int) = 0 := by have := zF5 hn;omega
  rw [if_pos rfl,Bool.true_and]
  unfold okC
  by_cases c1 : ofN ω.T c.body = 0
  ·have c1' : (ofN ω.T c.body : Int) = 0 := by omega
   rw [decide_eq_false (show ¬ ofN ω.T c.body ≠ 0 from fun q=>q c1),Bool.false_and,Bool.false_and]
   rw [c1'] at ht
   simp (config := {maxSteps := 4000000,implicitDefEqProofs := false}) (disch := omega) only [go_sem,zM0,zMt,z39,z65,hf,h0,ht,hlt,z2K]
  ·have c1' : ¬ (ofN ω.T c.body : Int) = 0 := by omega
   by_cases c2 : (ofN ω.T c.body : Int) = c.tm
   ·rw [decide_eq_true (show ofN ω.T c.body ≠ 0 from c1),decide_eq_true c2,Bool.true_and,Bool.true_and,← h2]
    have c3 : ¬ c.tm = 0 := by omega
    simp (config := {maxSteps := 4000000,implicitDefEqProofs := false}) (disch := omega) only [go_sem,zM0,zMt,z39,z65,hf,h0,ht,c1',c2,c3,hlt,z2K]
   ·rw [decide_eq_false c2,Bool.and_false,Bool.false_and]
    simp (config := {maxSteps := 4000000,implicitDefEqProofs := false}) (disch := omega) only [go_sem,zM0,zMt,z39,z65,hf,h0,ht,c1',c2,hlt,z2K]
end

section
open Go.RowKit
attribute [local go_sem] w_0 zM0 zMt zLt zmd zm9 zan z39 z4N z65 z2g
def wSt (c : Ch) : Sm := ⟨0,5,0,c.st,c.rt⟩
def stH (R : List Sm) (c : Ch) (n : Int) : Bool :=
 if c.st = 0 then decide (c.rt = 0) && decide (c.pf.length = 0) else zNs c.st && decide (2 * fN n + 1 ≤ zhW (wSt c) c.pf R (-1) n.toNat)
structure ChI (c : Ch) : Prop where
 fr : I64 c.fr
 vw : 0 ≤ c.vw ∧ c.vw ≤ 2147483647
 st : 0 ≤ c.st ∧ c.st ≤ 2147483647
 rt : 0 ≤ c.rt ∧ c.rt ≤ 2147483647
 pl : c.pf.length ≤ 64
 pf : ∀ x ∈ c.pf,SmI x
 cl : c.cs.length ≤ 64
 cs : ∀ x ∈ c.cs,CeI x ∧ 0 ≤ x.sq ∧ x.sq ≤ 2147483647
theorem zwm {x : Sm} (h : smB x = true) : SmI x := by
 have h1 := zrn h
 have g : ∀ v ∈ [x.fr,x.kd,x.vw,x.sq,x.tm],I64 v := fun v hv=>by
  obtain ⟨a,b⟩ := h1 v hv
  exact ⟨by omega,by omega⟩
 exact ⟨g _ (by simp),g _ (by simp),g _ (by simp),g _ (by simp),g _ (by simp)⟩
theorem zkz {v : Int} (h : zMh v = true) : 0 ≤ v ∧ v ≤ 2147483647 := by
 unfold zMh at h
 simpa using h
theorem zGt {x : Ce} (h : ceB x = true) : CeI x ∧ 0 ≤ x.sq ∧ x.sq ≤ 2147483647 := by
 obtain ⟨h1,h2,h3⟩ := ztf h
 obtain ⟨h4,h5⟩ := zmW h3
 simp only [List.all_cons,List.all_nil,Bool.and_true,Bool.and_eq_true] at h1
 obtain ⟨a1,a2⟩ := zkz h1.1
 obtain ⟨b1,b2⟩ := zkz h1.2.1
 exact ⟨⟨⟨by omega,by omega⟩,by omega,by omega,fun y hy=>zwm (List.all_eq_true.1 h5 y hy)⟩,a1,a2⟩
theorem zsl {c : Ch} (h : cgB c = true) : ChI c := by
 obtain ⟨h1,h2,h3,h4⟩ := zsj h
 obtain ⟨h5,h6⟩ := zmW h3
 obtain ⟨h7,h8⟩ := zpC h4
 simp only [List.all_cons,List.all_nil,Bool.and_true,Bool.and_eq_true] at h2
 have h9 := zkz (zqJ h1)
 exact ⟨⟨by omega,by omega⟩,zkz h2.1,zkz h2.2.1,zkz h2.2.2,h5,fun y hy=>zwm (List.all_eq_true.1 h6 y hy),h7,fun y hy=>zGt (List.all_eq_true.1 h8 y hy)⟩
theorem zhi {n : Nat} {c : Ch} : ltO n ⟨1,z00,0,cgC c⟩ = true := by
 show ((1 : Nat) == 0 || (cgC c).all (ltA n)) = true
 rw [zmB];rfl
theorem zCA {n : Nat} {c : Ce} : ltO n ⟨1,z07,0,ceC c⟩ = true := by
 show ((1 : Nat) == 0 || (ceC c).all (ltA n)) = true
 rw [ziH];rfl
theorem zIA {R : Type} {a b c : Int} {K : AV → Option R} : z1F (some z0G) (some zc_api_Stmt) [(1,nA a),(3,nA b),(4,nA c)] K = K (.agg (smC ⟨0,a,0,b,c⟩)) := _root_.id rfl
theorem zAt (m : Nat) (A B : List AObj) (σ : Sg) (c : Ch) (n : Int) (hG : GB A B) (hσ : SgOk σ) (hm : 1000001 < m) (hc : ChI c) (hn : okN n = true) :
  zfY m (OP (A.length + 4) 0) (cgE c) (nA n) (sc A B σ) = some (bA (stH σ.R c n),sc A B σ) := by
 obtain ⟨n1,n2⟩ := zhy hn
 have hpl := hc.pl
 have v1 := zqb m A (B ++ [⟨1,z00,0,cgC c⟩,⟨1,z01,0,smC (wSt c)⟩]) σ c.pf (wSt c) n (hG.app fun n=>by simp [zhi,z6w]) hσ (by omega) (by omega) (by omega) hc.pf
 rw [z8H,z6x] at v1
 have hd := zFF m c.st
 have hs := zmh m (zNk (wSt c) σ.R c.pf n) n zrt
 rw [hn,zyL hσ.rr (by omega) (by omega),Bool.true_and] at hs
 have hdd : decide ((2 : Int) * (fN n : Int) + 1 ≤ (zhW (wSt c) c.pf σ.R (-1) n.toNat : Int)) = decide (2 * fN n + 1 ≤ zhW (wSt c) c.pf σ.R (-1) n.toNat) := by rw [decide_eq_decide];omega
 rw [hdd] at hs
 have hst : ∀ {K : AV → RO},z1F (some z0G) (some zc_api_Stmt) [(1,nA 5),(3,nA c.st),(4,nA c.rt)] K = K (.agg (smC (wSt c))) := zIA
 have hlt := zkx hG (σ := σ) (Nat.le_refl _)
 rw [zoi,zaD]
 unfold stH
 by_cases c1 : c.st = 0
 ·rw [if_pos c1]
  by_cases c2 : c.rt = 0
  ·have e1 : decide ((c.pf.length : Int) = 0) = decide (c.pf.length = 0) := by rw [decide_eq_decide];omega
   simp (config := {maxSteps := 4000000,implicitDefEqProofs := false}) (disch := omega) only [go_sem,c1,c2,e1,hlt]
  ·simp (config := {maxSteps := 4000000,implicitDefEqProofs := false}) (disch := omega) only [go_sem,c1,c2,hlt]
 ·rw [if_neg c1]
  cases hdu : zNs c.st with
  |false =>
   rw [hdu] at hd
   simp (config := {maxSteps := 4000000,implicitDefEqProofs := false}) (disch := omega) only [go_sem,c1,hd,hst,hlt]
  |true =>
   rw [hdu] at hd
   simp (config := {maxSteps := 4000000,implicitDefEqProofs := false}) (disch := omega) only [go_sem,c1,hd,hst,v1,hs,hlt]
def zmT (st vw last : Int) (x : Ce) : Bool := decide (last < x.sq) && (decide (x.sq ≤ st + 16) && decide (x.vw < vw))
def csF (R : List Sm) (n st vw : Int) : List (List UInt8) → Int → List Ce → Bool × List (List UInt8)
 |T,_,[]=>(true,T)
 |T,last,x :: r=>if zmT st vw last x = true then (if ceH T R x n = true then csF R n st vw (ceT T x n) x.sq r else (false,ceT T x n)) else (false,T)
theorem SgOk.ce {σ : Sg} (h : SgOk σ) {c : Ce} {n : Int} (hs : c.body.length ≤ 9223372036854775807) : SgOk { σ with T := ceT σ.T c n } := by
 unfold ceT
 split
 ·exact h.of hs
 ·exact h
theorem zzR (m : Nat) (A B : List AObj) (σ : Sg) (c : Ch) (n : Int) (hG : GB A B) (hσ : SgOk σ) (hm : 1000001 < m) (hc : ChI c) :
  ziQ m (OP (A.length + 4) 0) (OP (A.length + 1) 0) (cgE c) (nA n) (sc A B σ) = some (bA (csF σ.R n c.st c.vw σ.T c.st c.cs).1,sc A B { σ with T := (csF σ.R n c.st c.vw σ.T c.st c.cs).2 }) := by
 have hcl := hc.cl
 obtain ⟨s1,s2⟩ := hc.st
 have h14 : A.length + 4 < nAB A B + 1 ∧ A.length + 1 < nAB A B + 1 := by unfold nAB;omega
 have hB1 : nAB A B < nAB A B + 1 := Nat.lt_succ_self _
 rw [zpr,zaD]
 simp (config := {maxSteps := 4000000,implicitDefEqProofs := false}) (disch := omega) only [go_sem,]
 refine z13 (m := m) (ι := {p : Nat × List (List UInt8) × Int // p.1 ≤ c.cs.length ∧ SgOk { σ with T := p.2.1 } ∧ csF σ.R n c.st c.vw σ.T c.st c.cs = csF σ.R n c.st c.vw p.2.1 p.2.2 (c.cs.drop p.1)}) (fun p=>⟨sc A B { σ with T := p.1.2.1 } ++ [⟨1,z00,0,cgC c⟩],[(0,OP (A.length + 4) 0),(1,OP (A.length + 1) 0),(3,nA n),(6,OP (nAB A B) 0),(9,nA p.1.2.2),(15,SL (c.cs.map ceE)),(16,nA c.cs.length),(17,nA p.1.1)]⟩) (fun p=>c.cs.length - p.1.1) (fun _=>some (bA (csF σ.R n c.st c.vw σ.T c.st c.cs).1,sc A B { σ with T := (csF σ.R n c.st c.vw σ.T c.st c.cs).2 })) ?_ ⟨(0,σ.T,c.st),Nat.zero_le _,hσ,rfl⟩ (by dsimp only;omega)
 rintro kx hkx ⟨⟨k,T,last⟩,hk,hT,hF⟩ kc hkc
 dsimp only at hkc hk hT hF ⊢
 rw [zlw]
 by_cases h : k < c.cs.length
 ·have h' : (k : Int) < (c.cs.length : Int) := by omega
  have hw1 : IntKind.i64.wrap ((k : Int) + 1) = (k : Int) + 1 := z2s (by omega) (by omega)
  rw [List.drop_eq_getElem_cons h] at hF
  obtain ⟨hx,x1,x2⟩ := hc.cs _ (List.getElem_mem h)
  have hxb := hx.body
  generalize hxe : c.cs[k] = x at *
  have hv := zCY m A (B ++ [⟨1,z00,0,cgC c⟩,⟨1,z07,0,ceC x⟩]) { σ with T := T } x n (hG.app fun n=>by simp [zhi,zCA]) hT hm hx
  rw [z8H,z8H,zo0] at hv
  dsimp only at hv
  have hT2 := hT.ce (c := x) (n := n) (by omega)
  have hlt := fun {σ : Sg}=>zkx hG (σ := σ) (n := nAB A B + 1) (by omega)
  have hw2 : IntKind.i64.wrap (x.sq - c.st) = x.sq - c.st := z2s (by omega) (by omega)
  simp only [csF] at hF
  by_cases c1 : last < x.sq ∧ x.sq ≤ c.st + 16 ∧ x.vw < c.vw
  ·have e0 : zmT c.st c.vw last x = true := by unfold zmT;simp [c1]
   rw [if_pos e0] at hF
   have e1 : ¬ x.sq ≤ last := by omega
   have e2 : ¬ 16 < x.sq - c.st := by omega
   have e3 : ¬ c.vw ≤ x.vw := by omega
   cases hb : ceH T σ.R x n with
   |true =>
    rw [if_pos hb] at hF
    rw [hb] at hv
    have step := hkc ⟨(k + 1,ceT T x n,x.sq),by dsimp only;omega,hT2,hF⟩ (by dsimp only;omega)
    dsimp only at step
    simp (config := {maxSteps := 4000000,implicitDefEqProofs := false}) (disch := omega) only [go_sem,h,h',hxe,e1,e2,e3,hv,hw1,hw2,hlt,h14,hB1,zhi,z3y,z3G,z3w,z3D,z3z,zMH]
    exact step
   |false =>
    rw [if_neg (by rw [hb];decide)] at hF
    rw [hb] at hv
    have hlt := fun {σ : Sg}=>zkx hG (σ := σ) (Nat.le_refl _)
    simp (config := {maxSteps := 4000000,implicitDefEqProofs := false}) (disch := omega) only [go_sem,h,h',hxe,e1,e2,e3,hv,hw1,hw2,hlt,hkx,hF,z3y,z3G,z3w,z3D,z3z,zMH]
  ·have e0 : ¬ zmT c.st c.vw last x = true := by unfold zmT;simp;omega
   rw [if_neg e0] at hF
   have hlt := fun {σ : Sg}=>zkx hG (σ := σ) (Nat.le_refl _)
   by_cases e1 : x.sq ≤ last
   ·simp (config := {maxSteps := 4000000,implicitDefEqProofs := false}) (disch := omega) only [go_sem,h,h',hxe,e1,hlt,hkx,hF,z3y,z3G,z3w,z3D,z3z,zMH]
   ·by_cases e2 : 16 < x.sq - c.st
    ·simp (config := {maxSteps := 4000000,implicitDefEqProofs := false}) (disch := omega) only [go_sem,h,h',hxe,e1,e2,hw2,hlt,hkx,hF,z3y,z3G,z3w,z3D,z3z,zMH]
    ·have e3 : c.vw ≤ x.vw := by omega
     simp (config := {maxSteps := 4000000,implicitDefEqProofs := false}) (disch := omega) only [go_sem,h,h',hxe,e1,e2,e3,hw2,hlt,hkx,hF,z3y,z3G,z3w,z3D,z3z,zMH]
 ·obtain rfl : k = c.cs.length := by omega
  have h' : ¬ (c.cs.length : Int) < (c.cs.length : Int) := Int.lt_irrefl _
  rw [List.drop_length] at hF
  simp only [csF] at hF
  have hlt := fun {σ : Sg}=>zkx hG (σ := σ) (Nat.le_refl _)
  simp (config := {maxSteps := 4000000,implicitDefEqProofs := false}) (disch := omega) only [go_sem,h,h',hlt,hkx,hF,z3y,z3G,z3w,z3D,z3z]
end

section
open Go.RowKit
attribute [local go_sem] w_0 zM0 zMt zLt zmd zm9 zan z39 z4N z65 z2g
def zMy (T : List (List UInt8)) (c : Ch) : Sm := ⟨c.fr,6,c.vw,c.st,ofN T (z2k c)⟩
def csS (T : List (List UInt8)) (c : Ch) : Sm × Int × List (List UInt8) :=
 if cgB c = true then (if ofE T (z2k c) = 0 then (zMy T c,0,oqT T (z2k c)) else (Sm.zero,5,oqT T (z2k c))) else (Sm.zero,1,T)
theorem znK (c : Ch) : 0 < (z2k c).length := by
 have := ztz c.fr.toNat
 unfold z2k zeL
 simp only [List.flatMap_cons,List.length_append]
 omega
theorem zJ7 {T : List (List UInt8)} {s : List UInt8} (h : ofE T s ≠ 0) : ofE T s = 5 := by
 unfold ofE at h ⊢
 split at h
 ·exact absurd rfl h
 ·split at h
  ·rename_i h1 h2;rw [if_neg h1,if_pos h2]
  ·exact absurd rfl h
theorem zJb {R : Type} {a b c d e : Int} {K : AV → Option R} : z1F (some z0G) (some zc_api_Stmt) [(0,nA a),(1,nA b),(2,nA c),(3,nA d),(4,nA e)] K = K (.agg (smC ⟨a,b,c,d,e⟩)) := _root_.id rfl
theorem zxT {R : Type} {K : AV → Option R} : z1F (some z0G) (some zc_api_Stmt) [] K = K (.agg (smC Sm.zero)) := _root_.id rfl
theorem zLM : (⟨1,z01,0,zc_api_Stmt⟩ : AObj) = ⟨1,z01,0,smC Sm.zero⟩ := _root_.id rfl
theorem zxH {R : Type} {s : List UInt8} {K : AV → Option R} (h : s.length ≤ 34359738368) : zsa false none true true false (SL (bC s)) K = K (sA s) := by
 show z0C true (match zgA (bC s) with|some l=>K (V (.string ⟨l.toArray⟩))|none=>none) = _
 rw [zt7]
 exact zcp
theorem zlx (m : Nat) (A B : List AObj) (σ : Sg) (c : Ch) (hG : GB A B) (hσ : SgOk σ) (hm : 1000001 < m) :
  z4b m (OP (A.length + 1) 0) (cgE c) (sc A B σ) = some (TU [smE (csS σ.T c).1,nA (csS σ.T c).2.1],sc A B { σ with T := (csS σ.T c).2.2 }) := by
 have hen := zdf m c (by omega)
 rw [zaD] at hen
 have hlt := fun {σ : Sg}=>zkx hG (σ := σ) (Nat.le_refl _)
 rw [zjX,zaD]
 unfold csS
 cases hB : cgB c with
 |false =>
  rw [hB,if_neg (by decide)] at hen
  rw [if_neg (by decide),z6x]
  simp (config := {maxSteps := 4000000,implicitDefEqProofs := false}) (disch := omega) only [go_sem,zLM,hen,zxT,hlt,z3r]
 |true =>
  rw [hB,if_pos rfl] at hen
  have hl := zb0 hB
  have hp := znK c
  have hp' : ¬ ((z2k c).length : Int) = 0 := by omega
  have ht := zEZ m A (B ++ [⟨1,z00,0,cgC c⟩,⟨1,z01,0,smC Sm.zero⟩]) σ (z2k c) (hG.app fun n=>by simp [zhi,z6w]) hσ (by omega)
  rw [z8H,z8H] at ht
  have hu := fun (K : AV → RO)=>zxH (K := K) (s := z2k c) (by omega)
  by_cases h0 : ofE σ.T (z2k c) = 0
  ·rw [if_pos rfl,if_pos h0,z6x]
   simp (config := {maxSteps := 4000000,implicitDefEqProofs := false}) (disch := omega) only [go_sem,zLM,hen,hu,ht,h0,hp',zJb,hlt,z3r]
   rfl
  ·have h5 := zJ7 h0
   rw [if_pos rfl,if_neg h0,z6x]
   rw [h5] at ht
   simp (config := {maxSteps := 4000000,implicitDefEqProofs := false}) (disch := omega) only [go_sem,zLM,hen,hu,ht,h0,hp',zxT,hlt,z3r]
def chF (T : List (List UInt8)) (R : List Sm) (c : Ch) (n : Int) : Bool × List (List UInt8) :=
  if (okN n && (cgB c && (decide (c.fr < n) && (decide (1 ≤ c.vw) && stH R c n)))) = true then
    (if (csF R n c.st c.vw T c.st c.cs).1 = true then
      (decide (ofE (csF R n c.st c.vw T c.st c.cs).2 (z2k   c) = 0) && decide (zMy  (csF R n c.st c.vw T c.st c.cs).2 c ∈ R), oqT (csF R n c.st c.vw T c.st c.cs).2 (z2k   c))
    else (false, (csF R n c.st c.vw T c.st c.cs).2))
  else (false, T)
theorem zyV {σ : Sg} {n st vw : Int} : ∀ (l : List Ce) (T : List (List UInt8)) (last : Int),SgOk { σ with T := T } → (∀ x ∈ l,CeI x) → SgOk { σ with T := (csF σ.R n st vw T last l).2 }
 |[],T,last,h,_=>h
 |x :: l,T,last,h,hl=>by
  have hx := hl x (List.mem_cons_self ..)
  have hb := hx.body
  have h2 := h.ce (c := x) (n := n) (by omega)
  simp only [csF]
  split
  ·split
   ·exact zyV l _ _ h2 fun y hy=>hl y (List.mem_cons_of_mem _ hy)
   ·exact h2
  ·exact h
theorem zD7 {α : Type} [DecidableEq α] {L : List α} {s : α} : zLs L s ≤ L.length := by
 unfold zLs
 split
 ·rename_i hs
  exact List.idxOf_lt_length_of_mem hs
 ·omega
theorem zDE {T : List (List UInt8)} {s : List UInt8} (h : T.length ≤ 65536) : ofN T s ≤ 65537 := by
 have := zD7 (L := T) (s := s)
 unfold ofN
 split
 ·omega
 ·split <;> omega
theorem zHI {T : List (List UInt8)} {c : Ch} (hT : T.length ≤ 65536) (hc : ChI c) : SmI (zMy T c) := by
 have := zDE (s := z2k c) hT
 obtain ⟨v1,v2⟩ := hc.vw
 obtain ⟨s1,s2⟩ := hc.st
 exact ⟨hc.fr,⟨by show _ ≤ (6 : Int);omega,by show (6 : Int) ≤ _;omega⟩,⟨by show _ ≤ c.vw;omega,by show c.vw ≤ _;omega⟩,⟨by show _ ≤ c.st;omega,by show c.st ≤ _;omega⟩,⟨by show _ ≤ ((ofN T (z2k c) : Nat) : Int);omega,by show ((ofN T (z2k c) : Nat) : Int) ≤ _;omega⟩⟩
theorem zvT (m : Nat) (A B : List AObj) (σ : Sg) (c : Ch) (hG : GB A B) (hσ : SgOk σ) (hm : 1000001 < m) (hB : cgB c = true) :
  z9D m (nAB A B) ⟨sc A B σ ++ [⟨1,z00,0,cgC c⟩],[(0,OP (A.length + 4) 0),(1,OP (A.length + 1) 0),(6,OP (nAB A B) 0)]⟩ = some (bA (decide (ofE σ.T (z2k c) = 0) && decide (zMy σ.T c ∈ σ.R)),sc A B { σ with T := oqT σ.T (z2k c) }) := by
 have hc := zsl hB
 have hst := zlx m A (B ++ [⟨1,z00,0,cgC c⟩]) σ c (hG.app fun n=>by simp [zhi]) hσ hm
 rw [z8H,z8H] at hst
 have hl := zb0 hB
 have hσ2 := hσ.of (s := z2k c) (by omega)
 have hlt := fun {σ : Sg}=>zkx hG (σ := σ) (Nat.le_refl _)
 rw [zkP]
 unfold csS at hst
 rw [if_pos hB] at hst
 by_cases h0 : ofE σ.T (z2k c) = 0
 ·rw [if_pos h0] at hst
  have hh := zuI m A (B ++ [⟨1,z00,0,cgC c⟩,⟨1,z01,0,smC (zMy σ.T c)⟩]) { σ with T := oqT σ.T (z2k c) } (zMy σ.T c) (hG.app fun n=>by simp [zhi,z6w]) hσ2 (zHI hσ.tl hc)
  rw [z8H] at hh
  dsimp only at hst hh
  rw [zaD,z6x] at hst
  rw [z6x] at hh
  rw [decide_eq_true h0,Bool.true_and]
  simp (config := {maxSteps := 4000000,implicitDefEqProofs := false}) (disch := omega) only [go_sem,zLM,hst,hh,hlt]
 ·rw [if_neg h0] at hst
  dsimp only at hst
  rw [zaD,z6x] at hst
  rw [decide_eq_false h0,Bool.false_and]
  simp (config := {maxSteps := 4000000,implicitDefEqProofs := false}) (disch := omega) only [go_sem,zLM,hst,hlt]
theorem zoq (m : Nat) (A B : List AObj) (σ : Sg) (c : Ch) (n : Int) (hG : GB A B) (hσ : SgOk σ) (hm : 1000001 < m) :
  z6m m (OP (A.length + 4) 0) (OP (A.length + 1) 0) (cgE c) (nA n) (sc A B σ) = some (bA (chF σ.T σ.R c n).1,sc A B { σ with T := (chF σ.T σ.R c n).2 }) := by
 have hen := zdf m c (by omega)
 rw [zaD] at hen
 have hf := zh6 m n
 have hlt := fun {σ : Sg}=>zkx hG (σ := σ) (Nat.le_refl _)
 rw [znI,zaD]
 unfold chF
 cases hn : okN n with
 |false =>
  rw [hn] at hf
  rw [if_neg (by simp)]
  simp (config := {maxSteps := 4000000,implicitDefEqProofs := false}) (disch := omega) only [go_sem,hf,hlt,z2h]
 |true =>
  rw [hn] at hf
  cases hB : cgB c with
  |false =>
   rw [hB,if_neg (by decide)] at hen
   rw [if_neg (by simp)]
   simp (config := {maxSteps := 4000000,implicitDefEqProofs := false}) (disch := omega) only [go_sem,hf,hen,hlt,z3r,z2h]
  |true =>
   rw [hB,if_pos rfl] at hen
   have hc := zsl hB
   have hp := znK c
   have hp' : ¬ ((z2k c).length : Int) = 0 := by omega
   by_cases c1 : c.fr < n
   ·have c1' : ¬ n ≤ c.fr := by omega
    by_cases c2 : 1 ≤ c.vw
    ·have c2' : ¬ c.vw < 1 := by omega
     have hs := zAt m A (B ++ [⟨1,z00,0,cgC c⟩]) σ c n (hG.app fun n=>by simp [zhi]) hσ hm hc hn
     rw [z8H,zaD] at hs
     rw [decide_eq_true c1,decide_eq_true c2]
     cases h1 : stH σ.R c n with
     |false =>
      rw [h1] at hs
      rw [if_neg (by decide)]
      simp (config := {maxSteps := 4000000,implicitDefEqProofs := false}) (disch := omega) only [go_sem,hf,hen,hs,c1',c2',hp',hlt,z3r,z2h,z45,z42]
     |true =>
      rw [h1] at hs
      rw [if_pos (by decide)]
      have hcs := zzR m A (B ++ [⟨1,z00,0,cgC c⟩]) σ c n (hG.app fun n=>by simp [zhi]) hσ hm hc
      rw [z8H,z8H,zaD] at hcs
      have hσ3 := zyV (σ := σ) (n := n) (st := c.st) (vw := c.vw) c.cs σ.T c.st hσ fun x hx=>(hc.cs x hx).1
      have h4 := zvT m A B _ c hG hσ3 hm hB
      generalize csF σ.R n c.st c.vw σ.T c.st c.cs = F at *
      obtain ⟨b,T'⟩ := F
      dsimp only at *
      cases b with
      |true =>
       rw [if_pos rfl,← h4]
       simp (config := {maxSteps := 4000000,implicitDefEqProofs := false}) (disch := omega) only [go_sem,hf,hen,hs,hcs,c1',c2',hp',hlt,z3r,z2h,z45,z42]
      |false =>
       rw [if_neg (by decide)]
       simp (config := {maxSteps := 4000000,implicitDefEqProofs := false}) (disch := omega) only [go_sem,hf,hen,hs,hcs,c1',c2',hp',hlt,z3r,z2h,z45,z42]
    ·have c2' : c.vw < 1 := by omega
     rw [decide_eq_false c2,decide_eq_true c1,if_neg (by simp)]
     simp (config := {maxSteps := 4000000,implicitDefEqProofs := false}) (disch := omega) only [go_sem,hf,hen,c1',c2',hp',hlt,z3r,z2h,z45,z42]
   ·have c1' : n ≤ c.fr := by omega
    rw [decide_eq_false c1,if_neg (by simp)]
    simp (config := {maxSteps := 4000000,implicitDefEqProofs := false}) (disch := omega) only [go_sem,hf,hen,c1',hp',hlt,z3r,z2h,z45,z42]
end

section
open Go.RowKit
set_option maxHeartbeats 4000000
attribute [local go_sem] w_0 zM0 zMt zLt zmd zm9 zan z39 z4N z65 z2g
structure ChS (c : Ch) : Prop where
 pl : c.pf.length ≤ 1000000
 cl : c.cs.length ≤ 1000000
 vl : ∀ y ∈ c.cs,y.vs.length ≤ 1000000
theorem zoj (m : Nat) (c : Ch) (hm : 1000001 < m) (h : ChS c) : z1S m (cgE c) = some (bA (cgB c),[]) := by
 have h1 := h.pl
 have h2 := h.cl
 exact zv2 m c (by omega) (by omega) (by omega) (by omega) fun y hy=>by have := h.vl y hy;exact ⟨by omega,by omega⟩
theorem zpG (m : Nat) (A B : List AObj) (ω : Wg) (c : Ch) (hG : GW A B) (hω : WgOk ω) (hm : 1000001 < m) (hc : ChS c) :
  z1y m (OP A.length 0) (cgE c) (sw A B ω) = some (TU [smE (csS ω.T c).1,nA (csS ω.T c).2.1],sw A B { ω with T := (csS ω.T c).2.2 }) := by
 have hch := zoj m c hm hc
 rw [zaD] at hch
 have hlt := fun {T : List (List UInt8)} (h : WgOk { ω with T := T })=>zmm hG h (Nat.le_refl _)
 have hlt0 := hlt hω
 have htl := hω.tl
 rw [z8s,zaD]
 unfold csS
 cases hB : cgB c with
 |false =>
  rw [hB] at hch
  rw [if_neg (by decide),z6x]
  simp (config := {maxSteps := 4000000,implicitDefEqProofs := false}) (disch := omega) only [go_sem,zLM,hch,zxT,hlt0]
 |true =>
  rw [hB] at hch
  have hl := zb0 hB
  have hen := zgM m c hB (by omega)
  rw [zaD] at hen
  have hω2 := hω.of (s := z2k c)
  have hlt2 := hlt hω2
  have ht := zHQ m A (B ++ [⟨1,z00,0,cgC c⟩,⟨1,z01,0,smC Sm.zero⟩]) ω (z2k c) (hG.app fun n=>by simp [zhi,z6w]) hω (by omega)
  rw [zf6,zf6] at ht
  by_cases h0 : ofE ω.T (z2k c) = 0
  ·have h1 := ofE_N.1 h0
   have h1' : ¬ (ofN ω.T (z2k c) : Int) = 0 := by omega
   rw [if_pos rfl,if_pos h0,z6x]
   simp (config := {maxSteps := 4000000,implicitDefEqProofs := false}) (disch := omega) only [go_sem,zLM,hch,hen,ht,h1',zJb,hlt2]
   rfl
  ·have h1 : ofN ω.T (z2k c) = 0 := by
    refine Classical.byContradiction fun q=>h0 (ofE_N.2 q)
   have h1' : (ofN ω.T (z2k c) : Int) = 0 := by omega
   rw [if_pos rfl,if_neg h0,z6x]
   rw [h1'] at ht
   simp (config := {maxSteps := 4000000,implicitDefEqProofs := false}) (disch := omega) only [go_sem,zLM,hch,hen,ht,h1',zxT,hlt2]
theorem zxa {ω : Wg} {n st vw : Int} : ∀ (l : List Ce) (T : List (List UInt8)) (last : Int),WgOk { ω with T := T } → WgOk { ω with T := (csF ω.L n st vw T last l).2 }
 |[],T,last,h=>h
 |x :: l,T,last,h=>by
  have h2 : WgOk { ω with T := ceT T x n } := by
   unfold ceT
   split
   ·exact h.of
   ·exact h
  simp only [csF]
  split
  ·split
   ·exact zxa l _ _ h2
   ·exact h2
  ·exact h
theorem zsI (m : Nat) (A B : List AObj) (ω : Wg) (c : Ch) (hG : GW A B) (hω : WgOk ω) (hm : 1000001 < m) (hc : ChS c) (hB : cgB c = true) :
  z2X m (nSW A B) ⟨sw A B ω ++ [⟨1,z00,0,cgC c⟩],[(0,OP A.length 0),(4,OP (nSW A B) 0)]⟩ = some (bA (decide (ofE ω.T (z2k c) = 0) && decide (zMy ω.T c ∈ ω.L)),sw A B { ω with T := oqT ω.T (z2k c) }) := by
 have hst := zpG m A (B ++ [⟨1,z00,0,cgC c⟩]) ω c (hG.app fun n=>by simp [zhi]) hω hm hc
 rw [zf6,zf6] at hst
 have hω2 := hω.of (s := z2k c)
 have hLl := hω.ll
 have hlt := zmm hG hω2 (Nat.le_refl _)
 have hX := fun H=>hω.ro H
 have hX2 := fun n=>(hω.lt n).2.1
 rw [z0k]
 unfold csS at hst
 rw [if_pos hB] at hst
 by_cases h0 : ofE ω.T (z2k c) = 0
 ·rw [if_pos h0] at hst
  have hh := zrH m ω.n ω.rog ω.L (zMy ω.T c) (by omega) (by omega)
  unfold rrA rrC at hh
  dsimp only at hst
  rw [zaD,z6x] at hst
  rw [z6x] at hh
  rw [decide_eq_true h0,Bool.true_and]
  simp (config := {maxSteps := 4000000,implicitDefEqProofs := false}) (disch := omega) only [go_sem,zLM,hst,hh,hX,hX2,hlt]
 ·rw [if_neg h0] at hst
  dsimp only at hst
  rw [zaD,z6x] at hst
  rw [decide_eq_false h0,Bool.false_and]
  simp (config := {maxSteps := 4000000,implicitDefEqProofs := false}) (disch := omega) only [go_sem,zLM,hst,hlt]
theorem zu6 (m : Nat) (A B : List AObj) (ω : Wg) (c : Ch) (n : Int) (hG : GW A B) (hω : WgOk ω) (hm : 1000001 < m) (hc0 : ChS c) (hB : cgB c = true) :
  z0R m (nSW A B) ⟨sw A B ω ++ [⟨1,z00,0,cgC c⟩],[(0,OP A.length 0),(2,nA n),(4,OP (nSW A B) 0)]⟩ = some (if (csF ω.L n c.st c.vw ω.T c.st c.cs).1 = true then
   (bA (decide (ofE (csF ω.L n c.st c.vw ω.T c.st c.cs).2 (z2k c) = 0) && decide (zMy (csF ω.L n c.st c.vw ω.T c.st c.cs).2 c ∈ ω.L)),sw A B { ω with T := oqT (csF ω.L n c.st c.vw ω.T c.st c.cs).2 (z2k c) })
  else (bA false,sw A B { ω with T := (csF ω.L n c.st c.vw ω.T c.st c.cs).2 })) := by
 have hc := zsl hB
 have hcl := hc.cl
 obtain ⟨s1,s2⟩ := hc.st
 have hA1 : A.length < nSW A B + 1 := by unfold nSW;omega
 have hB1 : nSW A B < nSW A B + 1 := Nat.lt_succ_self _
 rw [z0m]
 generalize hRES : some (if (csF ω.L n c.st c.vw ω.T c.st c.cs).1 = true then
   (bA (decide (ofE (csF ω.L n c.st c.vw ω.T c.st c.cs).2 (z2k c) = 0) && decide (zMy (csF ω.L n c.st c.vw ω.T c.st c.cs).2 c ∈ ω.L)),sw A B { ω with T := oqT (csF ω.L n c.st c.vw ω.T c.st c.cs).2 (z2k c) })
  else (bA false,sw A B { ω with T := (csF ω.L n c.st c.vw ω.T c.st c.cs).2 })) = RES
 refine z13 (m := m) (ι := {p : Nat × List (List UInt8) // p.1 ≤ c.cs.length ∧ WgOk { ω with T := p.2 } ∧ c.st ≤ znj c.st c.cs p.1 ∧ csF ω.L n c.st c.vw ω.T c.st c.cs = csF ω.L n c.st c.vw p.2 (znj c.st c.cs p.1) (c.cs.drop p.1)}) (fun p=>⟨sw A B { ω with T := p.1.2 } ++ [⟨1,z00,0,cgC c⟩],[(0,OP A.length 0),(2,nA n),(4,OP (nSW A B) 0),(8,nA p.1.1)]⟩) (fun p=>c.cs.length - p.1.1) (fun _=>RES) ?_ ⟨(0,ω.T),Nat.zero_le _,hω,Int.le_refl _,rfl⟩ (by dsimp only;omega)
 rintro kx hkx ⟨⟨k,T⟩,hk,hT,hla,hF⟩ kc hkc
 dsimp only at hkc hk hT hla hF ⊢
 rw [z96]
 by_cases h : k < c.cs.length
 ·have h' : (k : Int) < (c.cs.length : Int) := by omega
  have hw1 : IntKind.i64.wrap ((k : Int) + 1) = (k : Int) + 1 := z2s (by omega) (by omega)
  rw [List.drop_eq_getElem_cons h] at hF
  obtain ⟨hx,x1,x2⟩ := hc.cs _ (List.getElem_mem h)
  have hls : znj c.st c.cs (k + 1) = c.cs[k].sq := zbR h
  generalize hxe : c.cs[k] = x at *
  have hv := zBe m A (B ++ [⟨1,z00,0,cgC c⟩,⟨1,z07,0,ceC x⟩]) { ω with T := T } x n (hG.app fun n=>by simp [zhi,zCA]) hT hm hx
  rw [zf6,zf6,zo0] at hv
  dsimp only at hv
  have hT2 : WgOk { ω with T := ceT T x n } := by
   unfold ceT
   split
   ·exact hT.of
   ·exact hT
  have hlt0 := zmm hG hT (Nat.le_refl _)
  have hlt1 := zmm hG hT2 (n := nSW A B + 1) (by omega)
  have hlt2 := zmm hG hT2 (Nat.le_refl _)
  have hw2 : IntKind.i64.wrap (c.st + 16) = c.st + 16 := z2s (by omega) (by omega)
  simp only [csF] at hF
  by_cases e1 : x.sq ≤ c.st
  ·have e0 : ¬ zmT c.st c.vw (znj c.st c.cs k) x = true := by unfold zmT;simp;omega
   rw [if_neg e0] at hF
   rw [← hRES,hF,if_neg (by simp)]
   simp (config := {maxSteps := 4000000,implicitDefEqProofs := false}) (disch := omega) only [go_sem,h,h',hxe,e1,hlt0,hkx,z0s,z0r,z0k,z0m,z0b,z0a,z0j,z06,zMH]
  ·by_cases e2 : c.st + 16 < x.sq
   ·have e0 : ¬ zmT c.st c.vw (znj c.st c.cs k) x = true := by unfold zmT;simp;omega
    rw [if_neg e0] at hF
    rw [← hRES,hF,if_neg (by simp)]
    simp (config := {maxSteps := 4000000,implicitDefEqProofs := false}) (disch := omega) only [go_sem,h,h',hxe,e1,e2,hw2,hlt0,hkx,z0s,z0r,z0k,z0m,z0b,z0a,z0j,z06,zMH]
   ·by_cases hk0 : (0 : Int) < (k : Int)
    ·have hj : k - 1 < c.cs.length := by omega
     have hlj : znj c.st c.cs k = c.cs[k - 1].sq := by
      have := zbR (st := c.st) hj
      rw [← this];congr 1;omega
     have hw3 : IntKind.i64.wrap ((k : Int) - 1) = ((k - 1 : Nat) : Int) := (z2s (by omega) (by omega)).trans (by omega)
     generalize hye : c.cs[k - 1] = y at *
     by_cases e4 : x.sq ≤ y.sq
     ·have e0 : ¬ zmT c.st c.vw (znj c.st c.cs k) x = true := by unfold zmT;simp;omega
      rw [if_neg e0] at hF
      rw [← hRES,hF,if_neg (by simp)]
      simp (config := {maxSteps := 4000000,implicitDefEqProofs := false}) (disch := omega) only [go_sem,h,h',hxe,e1,e2,hk0,hw3,hj,hye,e4,hw2,hlt0,hkx,z0s,z0r,z0k,z0m,z0b,z0a,z0j,z06,zMH]
     ·by_cases e3 : c.vw ≤ x.vw
      ·have e0 : ¬ zmT c.st c.vw (znj c.st c.cs k) x = true := by unfold zmT;simp;omega
       rw [if_neg e0] at hF
       rw [← hRES,hF,if_neg (by simp)]
       simp (config := {maxSteps := 4000000,implicitDefEqProofs := false}) (disch := omega) only [go_sem,h,h',hxe,e1,e2,e3,hk0,hw3,hj,hye,e4,hw2,hlt0,hkx,z0s,z0r,z0k,z0m,z0b,z0a,z0j,z06,zMH]
      ·have e0 : zmT c.st c.vw (znj c.st c.cs k) x = true := by unfold zmT;simp;omega
       rw [if_pos e0] at hF
       cases hb : ceH T ω.L x n with
       |true =>
        rw [if_pos hb] at hF
        rw [hb] at hv
        have step := hkc ⟨(k + 1,ceT T x n),by dsimp only;omega,hT2,by dsimp only;rw [hls];omega,by dsimp only;rw [hls];exact hF⟩ (by dsimp only;omega)
        dsimp only at step
        simp (config := {maxSteps := 4000000,implicitDefEqProofs := false}) (disch := omega) only [go_sem,h,h',hxe,e1,e2,e3,hk0,hw3,hj,hye,e4,hw1,hw2,hv,hlt1,hA1,hB1,zhi,z0s,z0r,z0k,z0m,z0b,z0a,z0j,z06,zMH]
        exact step
       |false =>
        rw [if_neg (by rw [hb];decide)] at hF
        rw [hb] at hv
        rw [← hRES,hF,if_neg (by simp)]
        simp (config := {maxSteps := 4000000,implicitDefEqProofs := false}) (disch := omega) only [go_sem,h,h',hxe,e1,e2,e3,hk0,hw3,hj,hye,e4,hw1,hw2,hv,hlt2,hkx,z0s,z0r,z0k,z0m,z0b,z0a,z0j,z06,zMH]
    ·have hk1 : k = 0 := by omega
     have hlj : znj c.st c.cs k = c.st := by rw [hk1];rfl
     by_cases e3 : c.vw ≤ x.vw
     ·have e0 : ¬ zmT c.st c.vw (znj c.st c.cs k) x = true := by unfold zmT;simp;omega
      rw [if_neg e0] at hF
      rw [← hRES,hF,if_neg (by simp)]
      simp (config := {maxSteps := 4000000,implicitDefEqProofs := false}) (disch := omega) only [go_sem,h,h',hxe,e1,e2,e3,hk0,hw2,hlt0,hkx,z0s,z0r,z0k,z0m,z0b,z0a,z0j,z06,zMH]
     ·have e0 : zmT c.st c.vw (znj c.st c.cs k) x = true := by unfold zmT;simp;omega
      rw [if_pos e0] at hF
      cases hb : ceH T ω.L x n with
      |true =>
       rw [if_pos hb] at hF
       rw [hb] at hv
       have step := hkc ⟨(k + 1,ceT T x n),by dsimp only;omega,hT2,by dsimp only;rw [hls];omega,by dsimp only;rw [hls];exact hF⟩ (by dsimp only;omega)
       dsimp only at step
       simp (config := {maxSteps := 4000000,implicitDefEqProofs := false}) (disch := omega) only [go_sem,h,h',hxe,e1,e2,e3,hk0,hw1,hw2,hv,hlt1,hA1,hB1,zhi,z0s,z0r,z0k,z0m,z0b,z0a,z0j,z06,zMH]
       exact step
      |false =>
       rw [if_neg (by rw [hb];decide)] at hF
       rw [hb] at hv
       rw [← hRES,hF,if_neg (by simp)]
       simp (config := {maxSteps := 4000000,implicitDefEqProofs := false}) (disch := omega) only [go_sem,h,h',hxe,e1,e2,e3,hk0,hw1,hw2,hv,hlt2,hkx,z0s,z0r,z0k,z0m,z0b,z0a,z0j,z06,zMH]
 ·obtain rfl : k = c.cs.length := by omega
  have h' : ¬ (c.cs.length : Int) < (c.cs.length : Int) := Int.lt_irrefl _
  rw [List.drop_length] at hF
  simp only [csF] at hF
  have h6 := zsI m A B { ω with T := T } c hG hT hm hc0 hB
  dsimp only at h6
  rw [← hRES,hF,if_pos rfl,← h6]
  simp (config := {maxSteps := 4000000,implicitDefEqProofs := false}) (disch := omega) only [go_sem,h,h',hkx]
end

section
open Go.RowKit
set_option maxHeartbeats 4000000
attribute [local go_sem] w_0 zM0 zMt zLt zmd zm9 zan z39 z4N z65 z2g
theorem ztW (m : Nat) (A B : List AObj) (ω : Wg) (c : Ch) (n : Int) (hG : GW A B) (hω : WgOk ω) (hm : 1000001 < m) (hc0 : ChS c) (hB : cgB c = true) (hn : okN n = true) :
  z1H m (nSW A B) ⟨sw A B ω ++ [⟨1,z00,0,cgC c⟩],[(0,OP A.length 0),(2,nA n),(4,OP (nSW A B) 0),(7,nA (fN n))]⟩ = some (if stH ω.L c n = true then (if (csF ω.L n c.st c.vw ω.T c.st c.cs).1 = true then
   (bA (decide (ofE (csF ω.L n c.st c.vw ω.T c.st c.cs).2 (z2k c) = 0) && decide (zMy (csF ω.L n c.st c.vw ω.T c.st c.cs).2 c ∈ ω.L)),sw A B { ω with T := oqT (csF ω.L n c.st c.vw ω.T c.st c.cs).2 (z2k c) })
  else (bA false,sw A B { ω with T := (csF ω.L n c.st c.vw ω.T c.st c.cs).2 })) else (bA false,sw A B ω)) := by
 have hc := zsl hB
 obtain ⟨n1,n2⟩ := zhy hn
 have hpl := hc.pl
 have hL := hω.ll
 have h5 := zu6 m A B ω c n hG hω hm hc0 hB
 have hlt := zmm hG hω (Nat.le_refl _)
 have hd := zCt m c.st
 have hst : ∀ {K : AV → RO},z1F (some z0G) (some zc_api_Stmt) [(1,nA 5),(3,nA c.st),(4,nA c.rt)] K = K (.agg (smC (wSt c))) := zIA
 have hmn := zwJ m A (B ++ [⟨1,z00,0,cgC c⟩]) ω c.pf (wSt c) n (-1) (hG.app fun n=>by simp [zhi]) hω (by omega) (by omega) (by omega) (by omega) (by omega) (by omega)
 rw [zf6,z6x] at hmn
 have hf := zDr n
 have hw2 : IntKind.i64.wrap (2 * (fN n : Int)) = 2 * (fN n : Int) := z2s (by omega) (by omega)
 have hw3 : IntKind.i64.wrap (2 * (fN n : Int) + 1) = 2 * (fN n : Int) + 1 := z2s (by omega) (by omega)
 rw [z0j]
 unfold stH
 by_cases c1 : c.st = 0
 ·rw [if_pos c1]
  by_cases c2 : c.rt = 0
  ·by_cases c3 : c.pf.length = 0
   ·have c3' : (c.pf.length : Int) = 0 := by omega
    rw [decide_eq_true c2,decide_eq_true c3,if_pos (by simp),← h5]
    simp (config := {maxSteps := 4000000,implicitDefEqProofs := false}) (disch := omega) only [go_sem,c1,c2,c3',z0a]
   ·have c3' : ¬ (c.pf.length : Int) = 0 := by omega
    rw [decide_eq_true c2,decide_eq_false c3,if_neg (by simp)]
    simp (config := {maxSteps := 4000000,implicitDefEqProofs := false}) (disch := omega) only [go_sem,c1,c2,c3',hlt,z0a]
  ·rw [decide_eq_false c2,Bool.false_and,if_neg (by simp)]
   simp (config := {maxSteps := 4000000,implicitDefEqProofs := false}) (disch := omega) only [go_sem,c1,c2,hlt,z0a]
 ·rw [if_neg c1]
  cases hdu : zNs c.st with
  |false =>
   rw [hdu] at hd
   rw [Bool.false_and,if_neg (by simp)]
   simp (config := {maxSteps := 4000000,implicitDefEqProofs := false}) (disch := omega) only [go_sem,c1,hd,hlt,z0b]
  |true =>
   rw [hdu] at hd
   rw [Bool.true_and]
   by_cases c4 : 2 * fN n + 1 ≤ zhW (wSt c) c.pf ω.L (-1) n.toNat
   ·have c4' : ¬ (zhW (wSt c) c.pf ω.L (-1) n.toNat : Int) < 2 * (fN n : Int) + 1 := by omega
    rw [decide_eq_true c4,if_pos rfl,← h5]
    simp (config := {maxSteps := 4000000,implicitDefEqProofs := false}) (disch := omega) only [go_sem,c1,hd,hst,hmn,hw2,hw3,c4',z0b]
   ·have c4' : (zhW (wSt c) c.pf ω.L (-1) n.toNat : Int) < 2 * (fN n : Int) + 1 := by omega
    rw [decide_eq_false c4,if_neg (by simp)]
    simp (config := {maxSteps := 4000000,implicitDefEqProofs := false}) (disch := omega) only [go_sem,c1,hd,hst,hmn,hw2,hw3,c4',hlt,z0b]
theorem rchangeW_s (m : Nat) (A B : List AObj) (ω : Wg) (c : Ch) (n : Int) (hG : GW A B) (hω : WgOk ω) (hm : 1000001 < m) (hc0 : ChS c) :
    z2p                      m (OP A.length 0) (cgE c) (nA n) (sw A B ω) = some (bA (chF ω.T ω.L c n).1, sw A B { ω with T := (chF ω.T ω.L c n).2 }) := by
  have hch := zoj       m c hm hc0
  rw [zaD  ] at hch
  have hf := zl9       m n (by omega)
  have hlt := zmm   hG hω (Nat.le_refl _)
  rw [zaH                        , zaD  ]
  unfold chF
  cases hn : okN n with
  | false =>
    have h0 : fN n = 0 := by unfold fN; rw [hn]; rfl
    rw [h0] at hf
    rw [if_neg (by simp)]
    simp (config := {maxSteps := 4000000, implicitDefEqProofs := false}) (disch := omega) only [go_sem, hf, hlt, z06                           ]
  | true =>
    have h0 : ¬ (fN n : Int) = 0 := by have := zF5   hn; have := zhy     hn; omega
    cases hB : cgB c with
    | false =>
      rw [hB] at hch
      rw [if_neg (by simp)]
      simp (config := {maxSteps := 4000000, implicitDefEqProofs := false}) (disch := omega) only [go_sem, hf, h0, hch, hlt, z06                           ]
    | true =>
      rw [hB] at hch
      by_cases c1 : c.fr < n
      · have c1' : ¬ n ≤ c.fr := by omega
        by_cases c2 : 1 ≤ c.vw
        · have c2' : ¬ c.vw < 1 := by omega
          have h2 := ztW        m A B ω c n hG hω hm hc0 hB hn
          rw [decide_eq_true c1, decide_eq_true c2]
          simp only [Bool.true_and]
          have hR : (if stH ω.L c n = true then (if (csF ω.L n c.st c.vw ω.T c.st c.cs).1 = true then
      (bA (decide (ofE (csF ω.L n c.st c.vw ω.T c.st c.cs).2 (z2k   c) = 0) && decide (zMy  (csF ω.L n c.st c.vw ω.T c.st c.cs).2 c ∈ ω.L)), sw A B { ω with T := oqT (csF ω.L n c.st c.vw ω.T c.st c.cs).2 (z2k   c) })
    else (bA false, sw A B { ω with T := (csF ω.L n c.st c.vw ω.T c.st c.cs).2 })) else (bA false, sw A B ω)) = (bA (if stH ω.L c n = true then if (csF ω.L n c.st c.vw ω.T c.st c.cs).1 = true then (decide (ofE (csF ω.L n c.st c.vw ω.T c.st c.cs).2 (z2k   c) = 0) && decide (zMy  (csF ω.L n c.st c.vw ω.T c.st c.cs).2 c ∈ ω.L), oqT (csF ω.L n c.st c.vw ω.T c.st c.cs).2 (z2k   c)) else (false, (csF ω.L n c.st c.vw ω.T c.st c.cs).2) else (false, ω.T)).1, sw A B { ω with T := (if stH ω.L c n = true then if (csF ω.L n c.st c.vw ω.T c.st c.cs).1 = true then (decide (ofE (csF ω.L n c.st c.vw ω.T c.st c.cs).2 (z2k   c) = 0) && decide (zMy  (csF ω.L n c.st c.vw ω.T c.st c.cs).2 c ∈ ω.L), oqT (csF ω.L n c.st c.vw ω.T c.st c.cs).2 (z2k   c)) else (false, (csF ω.L n c.st c.vw ω.T c.st c.cs).2) else (false, ω.T)).2 }) := by
            split
            · split <;> rfl
            · rfl
          rw [← hR, ← h2]
          simp (config := {maxSteps := 4000000, implicitDefEqProofs := false}) (disch := omega) only [go_sem, hf, h0, hch, c1', c2', z06                           ]
        · have c2' : c.vw < 1 := by omega
          rw [decide_eq_true c1, decide_eq_false c2, if_neg (by simp)]
          simp (config := {maxSteps := 4000000, implicitDefEqProofs := false}) (disch := omega) only [go_sem, hf, h0, hch, c1', c2', hlt, z06                           ]
      · have c1' : n ≤ c.fr := by omega
        rw [decide_eq_false c1, if_neg (by simp)]
        simp (config := {maxSteps := 4000000, implicitDefEqProofs := false}) (disch := omega) only [go_sem, hf, h0, hch, c1', hlt, z06                           ]
end

section
open Go.RowKit
set_option maxHeartbeats 4000000
attribute [local go_sem] w_0 zM0 zMt zLt zmd zm9 zan z39 z4N z65 z2g
theorem zGp {R : Type} {i j : Nat} {K : AV → Option R} : zNi .eql (OP i j) (V (.pointer none)) K = K (V (.bool false)) := _root_.id rfl
def hS (A : List AObj) (σ : Sg) (ω : Wg) : List AObj := A ++ (tmO σ.T :: ttO A.length σ.T :: trO σ.T :: rmO σ.R :: rgO (A.length + 3) σ.n σ.bd σ.R :: rrO σ.R :: woO (A.length + 6) ω :: trO ω.T :: [])
theorem zAF {A : List AObj} {σ : Sg} {ω : Wg} : hS A σ ω = sc A [woO (A.length + 6) ω,trO ω.T] σ := rfl
def zMw (A : List AObj) (σ : Sg) : List AObj := A ++ [tmO σ.T,ttO A.length σ.T,trO σ.T,rmO σ.R,rgO (A.length + 3) σ.n σ.bd σ.R,rrO σ.R]
theorem zmi {A : List AObj} {σ : Sg} : (zMw A σ).length = A.length + 6 := by simp [zMw]
theorem zKr {A : List AObj} {σ : Sg} {ω : Wg} : hS A σ ω = sw (zMw A σ) [] ω := by
 unfold hS sw swM
 rw [zmi]
 unfold zMw
 simp only [List.append_assoc,List.cons_append,List.nil_append]
theorem zu4 {A : List AObj} {σ : Sg} {ω : Wg} : (hS A σ ω).length = A.length + 8 := by unfold hS;simp
def GA (A : List AObj) : Prop := ∀ n,A.length ≤ n → A.all (ltO n) = true
theorem GA.gb {A : List AObj} (h : GA A) {ω : Wg} (hω : WgOk ω) : GB A [woO (A.length + 6) ω,trO ω.T] := fun n hn=>by
 have h2 : A.length + 8 ≤ n := by unfold nAB at hn;simp at hn;omega
 refine ⟨h n (by omega),?_⟩
 simp only [List.all_cons,List.all_nil,zuE hω (show A.length + 6 + 1 < n by omega),zrU,Bool.and_true]
theorem GA.gw {A : List AObj} (h : GA A) (σ : Sg) : GW (zMw A σ) [] := fun n hn=>by
 have h2 : A.length + 8 ≤ n := by unfold nSW at hn;rw [zmi] at hn;simp at hn;omega
 refine ⟨?_,rfl⟩
 unfold zMw
 rw [List.all_append,h n (by omega)]
 simp only [List.all_cons,List.all_nil,zAe,zzE (show A.length + 2 < n by omega),zrU,zD8,zCD (show A.length + 3 + 2 < n by omega),zBr,Bool.and_self]
theorem zCQ {A : List AObj} {σ : Sg} {ω : Wg} (h : GA A) (hω : WgOk ω) {n : Nat} (hn : A.length + 8 ≤ n) : (hS A σ ω).all (ltO n) = true := by
 rw [zAF]
 exact zkx (h.gb hω) (by unfold nAB;simp;omega)
structure Scn (σ : Sg) (ω : Wg) : Prop where
 so : SgOk σ
 wo : WgOk ω
 t : σ.T = ω.T
 l : σ.R = ω.L
 n : σ.n = 7
 n' : ω.n = 7
 bd : σ.bd = bdL ω.rog
 rg : ∀ p ∈ ω.rog,inN 7 p = true
theorem zDt {j : Nat} (hj : j < 64) : ∀ (l : List Int),(∀ p ∈ l,0 ≤ p ∧ p < 64) → ∀ (b : List Bool),b.length = 64 → (l.foldl (fun b p=>b.set p.toNat true) b).getD j false = (b.getD j false || decide ((j : Int) ∈ l))
 |[],_,b,hb=>by simp
 |p :: l,hl,b,hb=>by
  show (l.foldl _ (b.set p.toNat true)).getD j false = _
  rw [zDt hj l (fun q hq=>hl q (List.mem_cons_of_mem _ hq)) _ (by simp [hb])]
  obtain ⟨p0,p1⟩ := hl p (List.mem_cons_self ..)
  by_cases h : p = (j : Int)
  ·subst h
   simp [List.getD_eq_getElem?_getD,hb,hj]
  ·have h1 : p.toNat ≠ j := by omega
   have h2 : ¬ (j : Int) = p := fun e=>h e.symm
   simp [List.getD_eq_getElem?_getD,List.getElem?_set_ne h1,h2]
theorem Scn.bad {σ : Sg} {ω : Wg} (h : Scn σ ω) (p : Int) : zMU σ.n σ.bd p = (inN 7 p && decide (p ∈ ω.rog)) := by
 unfold zMU
 rw [h.n,h.bd]
 show (inN 7 p && _) = _
 cases hp : inN 7 p with
 |false=>rfl
 |true =>
  unfold inN at hp
  rw [Bool.and_eq_true,decide_eq_true_eq,decide_eq_true_eq] at hp
  obtain ⟨j,rfl⟩ : ∃ j : Nat,p = j := ⟨p.toNat,by omega⟩
  have := zDt (j := j) (by omega) ω.rog (fun q hq=>by
   have := h.rg q hq
   unfold inN at this
   rw [Bool.and_eq_true,decide_eq_true_eq,decide_eq_true_eq] at this
   omega) (List.replicate 64 false) (by simp)
  rw [show (List.replicate 64 false).getD j false = false by rw [List.getD_eq_getElem?_getD,List.getElem?_replicate,if_pos (by omega)];rfl,Bool.false_or] at this
  rw [Int.toNat_natCast]
  unfold bdL
  rw [this]
theorem Scn.ok {σ : Sg} {ω : Wg} (h : Scn σ ω) (p : Int) (s : Sm) : okS σ.n σ.bd p s = zM9 ω.n ω.rog p s := by
 unfold okS zM9
 rw [h.bad,h.bad,h.n,h.n']
 have e : ∀ p,(inN 7 p && decide (p ∈ ω.rog)) = decide (p ∈ ω.rog) := fun p=>by
  cases hp : decide (p ∈ ω.rog) with
  |false=>simp
  |true =>
   rw [h.rg p (by simpa using hp)];rfl
 rw [e,e]
theorem Scn.say {σ : Sg} {ω : Wg} (h : Scn σ ω) (p : Int) (s : Sm) : zLe σ p s = zqi ω.n ω.rog ω.L p s := by
 unfold zLe zqi
 rw [h.ok,h.l]
theorem Scn.okf {σ : Sg} {ω : Wg} (h : Scn σ ω) {p : Int} {s : Sm} (hs : okS σ.n σ.bd p s = true) : 0 ≤ s.fr ∧ s.fr < σ.n := by
 unfold okS at hs
 simp only [Bool.and_eq_true,Bool.or_eq_true,decide_eq_true_eq] at hs
 obtain ⟨⟨h1,h2⟩,h3|⟨_,h3⟩⟩ := hs
 ·rw [h3];exact ⟨h1,h2⟩
 ·rw [h.bad,Bool.and_eq_true] at h3
  have := h3.1
  unfold inN at this
  rw [Bool.and_eq_true,decide_eq_true_eq,decide_eq_true_eq] at this
  rw [h.n]
  exact this
theorem Scn.said {σ : Sg} {ω : Wg} (h : Scn σ ω) (p : Int) (s : Sm) (hs : SmI s) : Scn { σ with R := zLe σ p s } { ω with L := zqi ω.n ω.rog ω.L p s,X := SL ((zqi ω.n ω.rog ω.L p s).map smE) } := by
 have hsay := h.say p s
 have hll := h.wo.ll
 have hso : SgOk { σ with R := zLe σ p s } := by
  have ho := h.so
  have hrl := ho.rl
  unfold zLe
  split
  ·rename_i hc
   refine ⟨ho.tn,ho.tl,ho.ts,ho.n1,ho.n2,ho.bl,?_,?_,?_,?_⟩
   ·exact List.nodup_append.2 ⟨ho.rn,by simp,fun a ha b hb=>by simp at hb;subst hb;exact fun e=>hc.2.1 (e ▸ ha)⟩
   ·simp;omega
   ·intro x hx
    rcases List.mem_append.1 hx with q|q
    ·exact ho.ri x q
    ·simp at q;subst q;exact hs
   ·intro x hx
    rcases List.mem_append.1 hx with q|q
    ·exact ho.rf x q
    ·simp at q;subst q;exact h.okf hc.1
  ·exact ho
 refine ⟨hso,⟨h.wo.tl,?_,h.wo.rl, .inl rfl⟩,h.t,hsay,h.n,h.n',h.bd,h.rg⟩
 show (zqi ω.n ω.rog ω.L p s).length ≤ 65536
 rw [← hsay]
 exact hso.rl
theorem Scn.of {σ : Sg} {ω : Wg} (h : Scn σ ω) {s : List UInt8} (hs : s.length ≤ 9223372036854775807) : Scn { σ with T := oqT σ.T s } { ω with T := oqT ω.T s } :=
 ⟨h.so.of hs,h.wo.of,by show oqT σ.T s = oqT ω.T s;rw [h.t],h.l,h.n,h.n',h.bd,h.rg⟩
end

section
open Go.RowKit
set_option maxHeartbeats 4000000
attribute [local go_sem] w_0 zM0 zMt zLt zmd zm9 zan z39 z4N z65 z2g
def scC (tx : List (List UInt8)) (bad : List Int) (sd : List Sd) : List AV := [SL (tx.map sA),SL (bad.map nA),SL (sd.map sdE)]
def scX (tx : List (List UInt8)) (bad : List Int) (sd : List Sd) : AObj := ⟨1,z1h,0,scC tx bad sd⟩
def sdS (x : Sd) : Sm := ⟨x.fr,x.kd,x.vw,x.sq,x.tm⟩
def hM (A : List AObj) (σ : Sg) (o6 o7 : AObj) : List AObj := A ++ (tmO σ.T :: ttO A.length σ.T :: trO σ.T :: rmO σ.R :: rgO (A.length + 3) σ.n σ.bd σ.R :: rrO σ.R :: o6 :: o7 :: [])
section
variable {R : Type} {A H0 : List AObj} {X : AObj} {σ : Sg} {ω : Wg} {o6 o7 o : AObj} {K : AObj → Option R} {K1 : List AV → Option R} {tx : List (List UInt8)} {bad : List Int} {sd : List Sd}
theorem zsn : hS A σ ω = hM A σ (woO (A.length + 6) ω) (trO ω.T) := _root_.id rfl
theorem zMY : z2Q (hM A σ o6 o7) (A.length + 6) K = K o6 := (zoL A (k := 6))
theorem zJh : (hM A σ o6 o7).set (A.length + 6) o = hM A σ o o7 := (zLG A (k := 6))
theorem zMR : z2Q (hM (H0 ++ [X]) σ o6 o7) H0.length K = K X := by
 unfold hM
 rw [List.append_assoc]
 exact (zoL H0 (k := 0))
theorem z3V : zjw (scX tx bad sd) K1 = K1 (scC tx bad sd) := by unfold scX;exact zz9
theorem zF1 {K : AV → Option R} : zLl (scC tx bad sd) 0 K = K (SL (tx.map sA)) := _root_.id rfl
theorem zuy {K : AV → Option R} : zLl (scC tx bad sd) 1 K = K (SL (bad.map nA)) := _root_.id rfl
theorem zF4 {K : AV → Option R} : zLl (scC tx bad sd) 2 K = K (SL (sd.map sdE)) := _root_.id rfl
theorem zAU {n : Nat} : ltO n (scX tx bad sd) = true := _root_.id rfl
theorem zGr {x : Sd} : ((sdC x).drop 1).take 5 = smC (sdS x) := _root_.id rfl
theorem zHT {a n : Nat} {K : AObj → Option R} : zKS (woO a ω) 1 0 (OW (a + 1) n) K = K ⟨1,z0w,0,[OW (a + 1) n,nA ω.n,SL (ω.rog.map nA),ω.X]⟩ := by
 unfold woO
 rw [zud]
 rfl
theorem zDU {a : Nat} {L : List Sm} {K : AObj → Option R} : zKS (woO a ω) 5 1 (.agg [nA ω.n,SL (ω.rog.map nA),SL (L.map smE)]) K = K (woO a { ω with L := L,X := SL (L.map smE) }) := by
 unfold woO
 rw [zud]
 rfl
end
theorem zFR (m : Nat) (A : List AObj) (σ : Sg) (ω : Wg) (x : List UInt8) (t1 : AV) (k : Nat) (n0 : Nat) (kc : ASt → RO) (kx : KO (AV × List AObj)) (hA : GA A) (h : Scn σ ω) (hx : x.length ≤ 9223372036854775807) (hm : 1000001 < m) :
  z4u m n0 kc kx ⟨hS A σ ω,[(1,t1),(6,OP (A.length + 1) 0),(7,OP (A.length + 4) 0),(9,OP (A.length + 6) 0),(10,nA k),(11,sA x)]⟩ = z4r m n0 kc kx ⟨hS A { σ with T := oqT σ.T x } { ω with T := oqT ω.T x },[(1,t1),(6,OP (A.length + 1) 0),(7,OP (A.length + 4) 0),(9,OP (A.length + 6) 0),(10,nA k)]⟩ := by
 have ht := zEZ m A _ σ x (hA.gb h.wo) h.so hx
 rw [← zAF,← zAF] at ht
 have htl := h.wo.tl
 have hr := zE0 m (zMw A { σ with T := oqT σ.T x } ++ [woO (A.length + 6) ω]) [] ω.T x (fun n hn=>by
  refine ⟨?_,rfl⟩
  rw [List.length_append,zmi] at hn
  have h2 := hA.gw { σ with T := oqT σ.T x } (n := n) (by unfold nSW;rw [zmi];simp at hn ⊢;omega)
  rw [List.all_append,h2.1]
  simp at hn
  simp only [List.all_cons,List.all_nil,zuE h.wo (show A.length + 6 + 1 < n by omega),Bool.and_true]) (by omega) htl
 have e1 : ∀ T,zMw A { σ with T := oqT σ.T x } ++ [woO (A.length + 6) ω] ++ trO T :: [] = hM A { σ with T := oqT σ.T x } (woO (A.length + 6) ω) (trO T) := fun T=>by
  unfold zMw hM
  simp only [List.append_assoc,List.cons_append,List.nil_append]
 have e2 : (zMw A { σ with T := oqT σ.T x } ++ [woO (A.length + 6) ω]).length = A.length + 7 := by rw [List.length_append,zmi];rfl
 rw [e1,e1,e2] at hr
 have e3 : A.length + 6 + 1 = A.length + 7 := rfl
 have hwo : (⟨1,z0w,0,[OW (A.length + 7) (oqT ω.T x).length,nA ω.n,SL (ω.rog.map nA),ω.X]⟩ : AObj) = woO (A.length + 6) { ω with T := oqT ω.T x } := rfl
 have hp := fun {n : Nat} {K : AObj → RO}=>(show zKS (woO (A.length + 6) ω) 1 0 (OW (A.length + 7) n) K = K ⟨1,z0w,0,[OW (A.length + 7) n,nA ω.n,SL (ω.rog.map nA),ω.X]⟩ from zHT)
 rw [zeT]
 rw [zsn] at ht
 rw [zsn,zsn]
 rw [zsn] at ht
 simp (config := {maxSteps := 4000000,implicitDefEqProofs := false}) (disch := omega) only [go_sem,ht,zMY,e3,hr,hp,zJh,hwo]
theorem zHS (m : Nat) (H0 : List AObj) (σ : Sg) (ω : Wg) (tx : List (List UInt8)) (bad : List Int) (sd : List Sd) (k : Nat) (hk : k < sd.length) (n0 : Nat) (kc : ASt → RO) (kx : KO (AV × List AObj)) (hA : GA (H0 ++ [scX tx bad sd])) (h : Scn σ ω) (hs : SmI (sdS sd[k])) (hm : 1000001 < m) (hsd : sd.length ≤ 9223372036854775807) :
  z4n m n0 kc kx ⟨hS (H0 ++ [scX tx bad sd]) σ ω,[(1,OP H0.length 0),(6,OP (H0.length + 2) 0),(7,OP (H0.length + 5) 0),(9,OP (H0.length + 7) 0),(12,nA k)]⟩ = z7z n0 (hS (H0 ++ [scX tx bad sd]) { σ with R := zLe σ sd[k].wh (sdS sd[k]) } { ω with L := zqi ω.n ω.rog ω.L sd[k].wh (sdS sd[k]),X := SL ((zqi ω.n ω.rog ω.L sd[k].wh (sdS sd[k])).map smE) }) [(1,OP H0.length 0),(6,OP (H0.length + 2) 0),(7,OP (H0.length + 5) 0),(9,OP (H0.length + 7) 0),(12,nA (IntKind.i64.wrap ((k : Int) + 1)))] kc := by
 have hh := h.said sd[k].wh (sdS sd[k]) hs
 have hy := zDw m (H0 ++ [scX tx bad sd]) _ σ sd[k].wh (sdS sd[k]) (hA.gb h.wo) h.so hs
 rw [← zAF,← zAF] at hy
 have hll := h.wo.ll
 have hrl := h.wo.rl
 obtain ⟨e,hr⟩ := zFB m ω.n ω.rog ω.L sd[k].wh (sdS sd[k]) (by omega) hll (by omega) hrl
 unfold rrA rrC at hr
 have hX := fun H=>h.wo.ro H
 have hX2 := fun n=>(h.wo.lt n).2.1
 have hl : (H0 ++ [scX tx bad sd]).length = H0.length + 1 := by simp
 have h6 := fun {σ : Sg} {o6 o7 : AObj} {K : AObj → RO}=>zMY (A := H0 ++ [scX tx bad sd]) (σ := σ) (o6 := o6) (o7 := o7) (K := K)
 have hs6 := fun {σ : Sg} {o6 o7 o : AObj}=>zJh (A := H0 ++ [scX tx bad sd]) (σ := σ) (o6 := o6) (o7 := o7) (o := o)
 rw [hl] at hy
 simp only [hl] at h6 hs6
 rw [z6x] at hy hr
 rw [zfl]
 rw [zsn] at hy
 rw [zsn,zsn]
 rw [zsn] at hy
 rw [hl] at hy ⊢
 have e3 : H0.length + 1 + 6 = H0.length + 7 := rfl
 have e4 : H0.length + 1 + 4 = H0.length + 5 := rfl
 simp only [e3,e4] at hy h6 hs6 ⊢
 have hk' : (k : Int) < (sd.length : Int) := by omega
 simp (config := {maxSteps := 4000000,implicitDefEqProofs := false}) (disch := omega) only [go_sem,hk,zMR,z3V,zF4,zGr,hy,h6,hs6,hX,hX2,hr,zDU,zMH]
end

section
open Go.RowKit
set_option maxHeartbeats 4000000
attribute [local go_sem] w_0 zM0 zMt zLt zmd zm9 zan z39 z4N z65 z2g
def zLo (x : List UInt8) : List UInt8 := if 3000 < x.length then x.take 3000 else x
def zsH (p : Sg × Wg) (x : List UInt8) : Sg × Wg := ({ p.1 with T := oqT p.1.T (zLo x) },{ p.2 with T := oqT p.2.T (zLo x) })
def zpJ (p : Sg × Wg) (d : Sd) : Sg × Wg := ({ p.1 with R := zLe p.1 d.wh (sdS d) },{ p.2 with L := zqi p.2.n p.2.rog p.2.L d.wh (sdS d),X := SL ((zqi p.2.n p.2.rog p.2.L d.wh (sdS d)).map smE) })
def zNq (rog : List Int) : Sg × Wg := (⟨[],7,bdL rog,[]⟩,⟨[],7,rog,[],V (.slice none 0 0)⟩)
def zNx (rog : List Int) (tx : List (List UInt8)) : Sg × Wg := (tx.take 80).foldl zsH (zNq rog)
def scn (rog : List Int) (tx : List (List UInt8)) (sd : List Sd) : Sg × Wg := (sd.take 120).foldl zpJ (zNx rog tx)
theorem zqH {x : List UInt8} (h : x.length ≤ 9223372036854775807) : (zLo x).length ≤ 9223372036854775807 := by
 unfold zLo
 split
 ·simp;omega
 ·exact h
theorem zwR {rog : List Int} (hb : ∀ p ∈ rog,inN 7 p = true) (hl : rog.length ≤ 1000000) : Scn (zNq rog).1 (zNq rog).2 :=
 ⟨⟨List.nodup_nil,by show ([] : List (List UInt8)).length ≤ _;simp,fun s hs=>by simp [zNq] at hs,by show (1 : Int) ≤ 7;omega,by show (7 : Int) ≤ 64;omega,zz8,List.nodup_nil,by show ([] : List Sm).length ≤ _;simp,fun s hs=>by simp [zNq] at hs,fun s hs=>by simp [zNq] at hs⟩,⟨by show ([] : List (List UInt8)).length ≤ _;simp,by show ([] : List Sm).length ≤ _;simp,hl, .inr ⟨rfl,rfl⟩⟩,rfl,rfl,rfl,rfl,rfl,hb⟩
theorem zqc : ∀ (l : List (List UInt8)) (p : Sg × Wg),Scn p.1 p.2 → (∀ x ∈ l,x.length ≤ 9223372036854775807) → Scn (l.foldl zsH p).1 (l.foldl zsH p).2
 |[],p,h,_=>h
 |x :: l,p,h,hl=>zqc l (zsH p x) (h.of (zqH (hl x (List.mem_cons_self ..)))) fun y hy=>hl y (List.mem_cons_of_mem _ hy)
theorem zqQ : ∀ (l : List Sd) (p : Sg × Wg),Scn p.1 p.2 → (∀ x ∈ l,SmI (sdS x)) → Scn (l.foldl zpJ p).1 (l.foldl zpJ p).2
 |[],p,h,_=>h
 |x :: l,p,h,hl=>zqQ l (zpJ p x) (h.said x.wh (sdS x) (hl x (List.mem_cons_self ..))) fun y hy=>hl y (List.mem_cons_of_mem _ hy)
theorem zwu {rog : List Int} {tx : List (List UInt8)} (hb : ∀ p ∈ rog,inN 7 p = true) (hl : rog.length ≤ 1000000) (ht : ∀ x ∈ tx,x.length ≤ 9223372036854775807) : Scn (zNx rog tx).1 (zNx rog tx).2 := zqc _ _ (zwR hb hl) fun x hx=>ht x (List.mem_of_mem_take hx)
theorem zGj {rog : List Int} {tx : List (List UInt8)} {sd : List Sd} (hb : ∀ p ∈ rog,inN 7 p = true) (hl : rog.length ≤ 1000000) (ht : ∀ x ∈ tx,x.length ≤ 9223372036854775807) (hs : ∀ x ∈ sd,SmI (sdS x)) : Scn (scn rog tx sd).1 (scn rog tx sd).2 := zqQ _ _ (zwu hb hl ht) fun x hx=>hs x (List.mem_of_mem_take hx)
theorem zrr {α β : Type} {f : β → α → β} {l : List α} {k : Nat} {b : β} (h : k < l.length) : (l.take (k + 1)).foldl f b = f ((l.take k).foldl f b) l[k] := by
 rw [List.take_succ_eq_append_getElem h,List.foldl_append]
 rfl
section
variable (m : Nat) (H0 : List AObj) (tx : List (List UInt8)) (bad : List Int) (sd : List Sd) (hm : 1000001 < m) (hA : GA (H0 ++ [scX tx bad sd])) (htl : tx.length ≤ 9223372036854775807) (hsl : sd.length ≤ 9223372036854775807) (ht : ∀ x ∈ tx,x.length ≤ 9223372036854775807) (hs : ∀ x ∈ sd,SmI (sdS x))
include hm hA hsl hs
theorem zEb (p : Sg × Wg) (h : Scn p.1 p.2) : z87 m H0.length ⟨hS (H0 ++ [scX tx bad sd]) p.1 p.2,[(1,OP H0.length 0),(6,OP (H0.length + 2) 0),(7,OP (H0.length + 5) 0),(9,OP (H0.length + 7) 0)]⟩ = some (TU [OP (H0.length + 2) 0,OP (H0.length + 5) 0,OP (H0.length + 7) 0,bA true],hS (H0 ++ [scX tx bad sd]) ((sd.take 120).foldl zpJ p).1 ((sd.take 120).foldl zpJ p).2) := by
 have hl : (H0 ++ [scX tx bad sd]).length = H0.length + 1 := by simp
 rw [zg0]
 refine z13 (m := m) (ι := {k : Nat // k ≤ (sd.take 120).length}) (fun k=>⟨hS (H0 ++ [scX tx bad sd]) (((sd.take 120).take k.1).foldl zpJ p).1 (((sd.take 120).take k.1).foldl zpJ p).2,[(1,OP H0.length 0),(6,OP (H0.length + 2) 0),(7,OP (H0.length + 5) 0),(9,OP (H0.length + 7) 0),(12,nA k.1)]⟩) (fun k=>(sd.take 120).length - k.1) (fun _=>some (TU [OP (H0.length + 2) 0,OP (H0.length + 5) 0,OP (H0.length + 7) 0,bA true],hS (H0 ++ [scX tx bad sd]) ((sd.take 120).foldl zpJ p).1 ((sd.take 120).foldl zpJ p).2)) ?_ ⟨0,Nat.zero_le _⟩ (by dsimp only;simp;omega)
 rintro kx hkx ⟨k,hk⟩ kc hkc
 dsimp only at hkc ⊢
 have hP := zqQ ((sd.take 120).take k) p h fun x hx=>hs x (List.mem_of_mem_take (List.mem_of_mem_take hx))
 have hl8 : (hS (H0 ++ [scX tx bad sd]) (((sd.take 120).take k).foldl zpJ p).1 (((sd.take 120).take k).foldl zpJ p).2).length = H0.length + 9 := by rw [zu4,hl]
 have hallk := zCQ hA hP.wo (σ := (((sd.take 120).take k).foldl zpJ p).1) (n := H0.length + 9) (by rw [hl];omega)
 rw [zgh]
 rw [List.length_take] at hk
 by_cases hc : k < (sd.take 120).length
 ·have hc' := hc
  rw [List.length_take] at hc'
  have h1 : k < sd.length := by omega
  have h1' : (k : Int) < (sd.length : Int) := by omega
  have h2 : (k : Int) < 120 := by omega
  have hr := zHS m H0 _ _ tx bad sd k h1 (H0.length + 9) kc kx hA hP (hs _ (List.getElem_mem h1)) hm hsl
  have step := hkc ⟨k + 1,by omega⟩ (by dsimp only;omega)
  dsimp only at step
  rw [zrr hc,List.getElem_take] at step
  have hP2 := hP.said sd[k].wh (sdS sd[k]) (hs _ (List.getElem_mem h1))
  generalize ((sd.take 120).take k).foldl zpJ p = q at *
  obtain ⟨σ,ω⟩ := q
  dsimp only at *
  have hall := zCQ hA hP2.wo (σ := { σ with R := zLe σ sd[k].wh (sdS sd[k]) }) (n := H0.length + 9) (by rw [hl];omega)
  have hl9 : (hS (H0 ++ [scX tx bad sd]) { σ with R := zLe σ sd[k].wh (sdS sd[k]) } { ω with L := zqi ω.n ω.rog ω.L sd[k].wh (sdS sd[k]),X := SL ((zqi ω.n ω.rog ω.L sd[k].wh (sdS sd[k])).map smE) }).length = H0.length + 9 := by rw [zu4,hl]
  have htk : (hS (H0 ++ [scX tx bad sd]) { σ with R := zLe σ sd[k].wh (sdS sd[k]) } { ω with L := zqi ω.n ω.rog ω.L sd[k].wh (sdS sd[k]),X := SL ((zqi ω.n ω.rog ω.L sd[k].wh (sdS sd[k])).map smE) }).take (H0.length + 9) = _ := List.take_of_length_le (by rw [hl9];exact Nat.le_refl _)
  have hw1 : IntKind.i64.wrap ((k : Int) + 1) = (k : Int) + 1 := z2s (by omega) (by omega)
  have o1 : H0.length + 2 < H0.length + 9 := by omega
  have o2 : H0.length + 5 < H0.length + 9 := by omega
  have o3 : H0.length + 7 < H0.length + 9 := by omega
  have o4 : H0.length < H0.length + 9 := by omega
  rw [hw1] at hr
  have hc0 := fun {K : AObj → RO} {σ : Sg} {o6 o7 : AObj}=>zMR (H0 := H0) (X := scX tx bad sd) (σ := σ) (o6 := o6) (o7 := o7) (K := K)
  have hc1 : ∀ {K : AObj → RO},z2Q (hS (H0 ++ [scX tx bad sd]) σ ω) H0.length K = K (scX tx bad sd) := fun {K}=>by rw [zsn];exact zMR
  simp (config := {maxSteps := 4000000,implicitDefEqProofs := false}) (disch := omega) only [go_sem,hc1,z3V,zF4,h1',h2,hl8,hr,z5x]
  simp (config := {maxSteps := 4000000,implicitDefEqProofs := false}) (disch := omega) only [go_sem,hl9,hall,htk,o1,o2,o3,o4]
  exact step
 ·have hk2 : k = (sd.take 120).length := by rw [List.length_take] at hc ⊢;omega
  have htk : (sd.take 120).take k = sd.take 120 := by rw [hk2,List.take_length]
  rw [htk] at hl8 hallk ⊢
  have hc1 : ∀ {K : AObj → RO},z2Q (hS (H0 ++ [scX tx bad sd]) ((sd.take 120).foldl zpJ p).1 ((sd.take 120).foldl zpJ p).2) H0.length K = K (scX tx bad sd) := fun {K}=>by rw [zsn];exact zMR
  have o1 : H0.length + 2 < H0.length + 9 := by omega
  have o2 : H0.length + 5 < H0.length + 9 := by omega
  have o3 : H0.length + 7 < H0.length + 9 := by omega
  by_cases h1 : k < sd.length
  ·have h1' : (k : Int) < (sd.length : Int) := by omega
   have h2 : ¬ (k : Int) < 120 := by rw [List.length_take] at hk2;omega
   simp (config := {maxSteps := 4000000,implicitDefEqProofs := false}) (disch := omega) only [go_sem,hc1,z3V,zF4,h1',h2,hl8,hkx,z5x,z98,zpD,hallk,o1,o2,o3]
  ·have h1' : ¬ (k : Int) < (sd.length : Int) := by omega
   simp (config := {maxSteps := 4000000,implicitDefEqProofs := false}) (disch := omega) only [go_sem,hc1,z3V,zF4,h1',hl8,hkx,z5x,z98,zpD,hallk,o1,o2,o3]
include htl ht
theorem zEy (rog : List Int) (hb : ∀ p ∈ rog,inN 7 p = true) (hlr : rog.length ≤ 1000000) : z5b m H0.length ⟨hS (H0 ++ [scX tx bad sd]) (zNq rog).1 (zNq rog).2,[(1,OP H0.length 0),(6,OP (H0.length + 2) 0),(7,OP (H0.length + 5) 0),(9,OP (H0.length + 7) 0)]⟩ = some (TU [OP (H0.length + 2) 0,OP (H0.length + 5) 0,OP (H0.length + 7) 0,bA true],hS (H0 ++ [scX tx bad sd]) (scn rog tx sd).1 (scn rog tx sd).2) := by
 have hl : (H0 ++ [scX tx bad sd]).length = H0.length + 1 := by simp
 have h0 := zwR hb hlr
 have h5 := zEb m H0 tx bad sd hm hA hsl hs (zNx rog tx) (zwu hb hlr ht)
 rw [show (sd.take 120).foldl zpJ (zNx rog tx) = scn rog tx sd from rfl] at h5
 rw [zg7]
 refine z13 (m := m) (ι := {k : Nat // k ≤ (tx.take 80).length}) (fun k=>⟨hS (H0 ++ [scX tx bad sd]) (((tx.take 80).take k.1).foldl zsH (zNq rog)).1 (((tx.take 80).take k.1).foldl zsH (zNq rog)).2,[(1,OP H0.length 0),(6,OP (H0.length + 2) 0),(7,OP (H0.length + 5) 0),(9,OP (H0.length + 7) 0),(10,nA k.1)]⟩) (fun k=>(tx.take 80).length - k.1) (fun _=>some (TU [OP (H0.length + 2) 0,OP (H0.length + 5) 0,OP (H0.length + 7) 0,bA true],hS (H0 ++ [scX tx bad sd]) (scn rog tx sd).1 (scn rog tx sd).2)) ?_ ⟨0,Nat.zero_le _⟩ (by dsimp only;simp;omega)
 rintro kx hkx ⟨k,hk⟩ kc hkc
 dsimp only at hkc ⊢
 have hP := zqc ((tx.take 80).take k) (zNq rog) h0 fun x hx=>ht x (List.mem_of_mem_take (List.mem_of_mem_take hx))
 have hl8 : (hS (H0 ++ [scX tx bad sd]) (((tx.take 80).take k).foldl zsH (zNq rog)).1 (((tx.take 80).take k).foldl zsH (zNq rog)).2).length = H0.length + 9 := by rw [zu4,hl]
 rw [zgq]
 rw [List.length_take] at hk
 by_cases hc : k < (tx.take 80).length
 ·have hc' := hc
  rw [List.length_take] at hc'
  have h1 : k < tx.length := by omega
  have h1' : (k : Int) < (tx.length : Int) := by omega
  have h2 : (k : Int) < 80 := by omega
  have hx := ht _ (List.getElem_mem h1)
  have step := hkc ⟨k + 1,by omega⟩ (by dsimp only;omega)
  dsimp only at step
  rw [zrr hc,List.getElem_take] at step
  have hP2 := hP.of (zqH hx)
  generalize ((tx.take 80).take k).foldl zsH (zNq rog) = q at *
  obtain ⟨σ,ω⟩ := q
  dsimp only at *
  have hst : zsH (σ,ω) tx[k] = ({ σ with T := oqT σ.T (zLo tx[k]) },{ ω with T := oqT ω.T (zLo tx[k]) }) := rfl
  rw [hst] at step
  dsimp only at step
  have hr := zFR m (H0 ++ [scX tx bad sd]) σ ω (zLo tx[k]) (OP H0.length 0) k (H0.length + 9) kc kx hA hP (zqH hx) hm
  rw [hl] at hr
  have e4 : H0.length + 1 + 1 = H0.length + 2 := rfl
  have e5 : H0.length + 1 + 4 = H0.length + 5 := rfl
  have e6 : H0.length + 1 + 6 = H0.length + 7 := rfl
  simp only [e4,e5,e6] at hr
  have hall := zCQ hA hP2.wo (σ := { σ with T := oqT σ.T (zLo tx[k]) }) (n := H0.length + 9) (by rw [hl];omega)
  have hl9 : (hS (H0 ++ [scX tx bad sd]) { σ with T := oqT σ.T (zLo tx[k]) } { ω with T := oqT ω.T (zLo tx[k]) }).length = H0.length + 9 := by rw [zu4,hl]
  have htk : (hS (H0 ++ [scX tx bad sd]) { σ with T := oqT σ.T (zLo tx[k]) } { ω with T := oqT ω.T (zLo tx[k]) }).take (H0.length + 9) = _ := List.take_of_length_le (by rw [hl9];exact Nat.le_refl _)
  have hw1 : IntKind.i64.wrap ((k : Int) + 1) = (k : Int) + 1 := z2s (by omega) (by omega)
  have o1 : H0.length + 2 < H0.length + 9 := by omega
  have o2 : H0.length + 5 < H0.length + 9 := by omega
  have o3 : H0.length + 7 < H0.length + 9 := by omega
  have o4 : H0.length < H0.length + 9 := by omega
  have hc1 : ∀ {K : AObj → RO},z2Q (hS (H0 ++ [scX tx bad sd]) σ ω) H0.length K = K (scX tx bad sd) := fun {K}=>by rw [zsn];exact zMR
  unfold zLo at *
  by_cases h3 : 3000 < tx[k].length
  ·have h3' : (3000 : Int) < (tx[k].length : Int) := by omega
   have h3'' : (3000 : Int) ≤ (tx[k].length : Int) := by omega
   rw [if_pos h3] at *
   simp (config := {maxSteps := 4000000,implicitDefEqProofs := false}) (disch := omega) only [go_sem,hc1,z3V,zF1,h1,h1',h2,h3',h3'',hl8,zMH,z3t,z9a]
   simp (config := {maxSteps := 4000000,implicitDefEqProofs := false}) (disch := omega) only [go_sem,hr,hl9,hall,htk,o1,o2,o3,o4,hw1,z8I]
   exact step
  ·have h3' : ¬ (3000 : Int) < (tx[k].length : Int) := by omega
   rw [if_neg h3] at *
   simp (config := {maxSteps := 4000000,implicitDefEqProofs := false}) (disch := omega) only [go_sem,hc1,z3V,zF1,h1,h1',h2,h3',hl8,zMH,z3t,z9a]
   simp (config := {maxSteps := 4000000,implicitDefEqProofs := false}) (disch := omega) only [go_sem,hr,hl9,hall,htk,o1,o2,o3,o4,hw1,z8I]
   exact step
 ·have hk2 : k = (tx.take 80).length := by rw [List.length_take] at hc ⊢;omega
  have htk : (tx.take 80).take k = tx.take 80 := by rw [hk2,List.take_length]
  rw [htk] at hl8 ⊢
  rw [show (tx.take 80).foldl zsH (zNq rog) = zNx rog tx from rfl] at *
  have hc1 : ∀ {K : AObj → RO},z2Q (hS (H0 ++ [scX tx bad sd]) (zNx rog tx).1 (zNx rog tx).2) H0.length K = K (scX tx bad sd) := fun {K}=>by rw [zsn];exact zMR
  by_cases h1 : k < tx.length
  ·have h1' : (k : Int) < (tx.length : Int) := by omega
   have h2 : ¬ (k : Int) < 80 := by rw [List.length_take] at hk2;omega
   simp (config := {maxSteps := 4000000,implicitDefEqProofs := false}) (disch := omega) only [go_sem,hc1,z3V,zF1,h1',h2,hl8,hkx,z3t]
   exact h5
  ·have h1' : ¬ (k : Int) < (tx.length : Int) := by omega
   simp (config := {maxSteps := 4000000,implicitDefEqProofs := false}) (disch := omega) only [go_sem,hc1,z3V,zF1,h1',hl8,hkx,z3t]
   exact h5
end
end

section
open Go.RowKit
set_option maxHeartbeats 4000000
attribute [local go_sem] w_0 zM0 zMt zLt zmd zm9 zan z39 z4N z65 z2g
theorem zxx {tx : List (List UInt8)} {bad : List Int} {sd : List Sd} : (scC tx bad sd).all zN7 = true := _root_.id rfl
theorem zH4 {tx : List (List UInt8)} {bad l : List Int} {sd : List Sd} {R : Type} {K : AObj → Option R} : zKS (scX tx bad sd) 1 1 (SL (l.map nA)) K = K (scX tx l sd) := by
 unfold scX
 rw [zud]
 rfl
theorem zwG (m : Nat) (H0 : List AObj) (tx : List (List UInt8)) (bad : List Int) (sd : List Sd) (hb : bad.length ≤ 9223372036854775807) :
  z2r m (.agg (scC tx bad sd)) H0 = z5g m H0.length ⟨H0 ++ [scX tx (bad.take 10) sd],[(1,OP H0.length 0)]⟩ := by
 have h0 : ∀ {o : AObj} {K : AObj → RO},z2Q (H0 ++ [o]) H0.length K = K o := fun {o K}=>(zoL H0 (k := 0))
 have hs : ∀ {o o' : AObj},(H0 ++ [o]).set H0.length o' = H0 ++ [o'] := fun {o o'}=>(zLG H0 (k := 0))
 have e : (⟨1,z1h,0,scC tx bad sd⟩ : AObj) = scX tx bad sd := rfl
 rw [zje]
 by_cases h : 10 < bad.length
 ·have h' : (10 : Int) < (bad.length : Int) := by omega
  have h'' : (10 : Int) ≤ (bad.length : Int) := by omega
  have hc : zL8 (bad.map nA) 0 10 = (bad.take 10).map nA := zM4 (n := 10)
  have h1 : ((bad.map nA).all fun d=>decide ((cellsOf d).length = zMH 3)) = true := by rw [List.all_map];exact List.all_eq_true.2 fun _ _=>rfl
  simp (config := {maxSteps := 4000000,implicitDefEqProofs := false}) (disch := omega) only [go_sem,zxx,e,h0,hs,z3V,zuy,zH4,h',h'',hc]
 ·have h' : ¬ (10 : Int) < (bad.length : Int) := by omega
  have ht : bad.take 10 = bad := List.take_of_length_le (by omega)
  rw [ht]
  simp (config := {maxSteps := 4000000,implicitDefEqProofs := false}) (disch := omega) only [go_sem,zxx,e,h0,hs,z3V,zuy,h']
theorem zB9 {H0 : List AObj} {tx : List (List UInt8)} {b : List Int} {sd : List Sd} {bd : List Bool} {x7 x8 : AV} : ghS 9 0 z4p 1 ⟨sc (H0 ++ [scX tx b sd]) [] (⟨[],7,bd,[]⟩ : Sg) ++ [⟨1,z0w,0,[V (.slice none 0 0),nA 7,SL (b.map nA),V (.slice none 0 0)]⟩],[(1,OP H0.length 0),(6,OP (H0.length + 2) 0),(7,x7),(8,x8),(9,OP (H0.length + 7) 0)]⟩ = ⟨hS (H0 ++ [scX tx b sd]) (⟨[],7,bd,[]⟩ : Sg) (zNq b).2,[(1,OP H0.length 0),(6,OP (H0.length + 2) 0),(7,x7),(8,x8),(9,OP (H0.length + 7) 0)]⟩ := by
 have hl : (H0 ++ [scX tx b sd]).length = H0.length + 1 := by simp
 have hsl2 : (sc (H0 ++ [scX tx b sd]) [] (⟨[],7,bd,[]⟩ : Sg)).length = H0.length + 7 := by rw [z82];unfold nAB;rw [hl];rfl
 have g1 : (sc (H0 ++ [scX tx b sd]) [] (⟨[],7,bd,[]⟩ : Sg) ++ ([⟨1,z0w,0,[V (.slice none 0 0),nA 7,SL (b.map nA),V (.slice none 0 0)]⟩] : List AObj))[H0.length + 7]? = some ⟨1,z0w,0,[V (.slice none 0 0),nA 7,SL (b.map nA),V (.slice none 0 0)]⟩ := by
  rw [← hsl2]
  exact (zLE _ (k := 0))
 have g2 : ∀ o,(sc (H0 ++ [scX tx b sd]) [] (⟨[],7,bd,[]⟩ : Sg) ++ ([⟨1,z0w,0,[V (.slice none 0 0),nA 7,SL (b.map nA),V (.slice none 0 0)]⟩] : List AObj)).set (H0.length + 7) o = sc (H0 ++ [scX tx b sd]) [] (⟨[],7,bd,[]⟩ : Sg) ++ [o] := fun o=>by
  rw [← hsl2]
  exact (zLG _ (k := 0))
 unfold ghS
 show (match OP (H0.length + 7) 0 with|_=>_) = _
 dsimp only
 rw [g1]
 dsimp only
 show (⟨(sc (H0 ++ [scX tx b sd]) [] (⟨[],7,bd,[]⟩ : Sg) ++ ([⟨1,z0w,0,[V (.slice none 0 0),nA 7,SL (b.map nA),V (.slice none 0 0)]⟩] : List AObj)).set (H0.length + 7) _ ++ _,_⟩ : ASt) = _
 rw [g2,List.length_append,hsl2,List.append_assoc,zAF]
 unfold sc scM
 rw [hl]
 simp only [List.append_assoc,List.cons_append,List.nil_append]
 rfl
theorem zJo (m : Nat) (H0 : List AObj) (tx : List (List UInt8)) (bad : List Int) (sd : List Sd) (hm : 1000001 < m) (hA : GA H0) (hbl : bad.length ≤ 9223372036854775807) (htl : tx.length ≤ 9223372036854775807) (hsl : sd.length ≤ 9223372036854775807) (ht : ∀ x ∈ tx,x.length ≤ 9223372036854775807) (hs : ∀ x ∈ sd,SmI (sdS x)) (hb : ∀ p ∈ bad.take 10,inN 7 p = true) :
  z2r m (.agg (scC tx bad sd)) H0 = some (TU [OP (H0.length + 2) 0,OP (H0.length + 5) 0,OP (H0.length + 7) 0,bA true],hS (H0 ++ [scX tx (bad.take 10) sd]) (scn (bad.take 10) tx sd).1 (scn (bad.take 10) tx sd).2) := by
 rw [zwG m H0 tx bad sd hbl]
 have hbl2 : (bad.take 10).length ≤ 10 := by simp;omega
 generalize bad.take 10 = b at *
 have hl : (H0 ++ [scX tx b sd]).length = H0.length + 1 := by simp
 have hA1 : GA (H0 ++ [scX tx b sd]) := fun n hn=>by
  rw [hl] at hn
  rw [List.all_append,hA n (by omega)]
  rfl
 have h1 := zz2 m (H0 ++ [scX tx b sd]) (fun n hn=>hA1 n hn)
 have h2 := zxf m (H0 ++ [scX tx b sd]) [] 7 b (by omega) (by omega) (by omega) (by omega) (fun n hn=>hA1 n hn) hb
 have h3 := zEy m H0 tx b sd hm hA1 htl hsl ht hs b hb (by omega)
 rw [show (zNq b).1 = (⟨[],7,bdL b,[]⟩ : Sg) from rfl] at h3
 rw [z9f,h1,zu3,hl]
 have hH : H0 ++ [scX tx b sd] ++ [tmO [],ttO (H0.length + 1) [],trO []] = H0 ++ [scX tx b sd,tmO [],ttO (H0.length + 1) [],trO []] := by
  rw [List.append_assoc];rfl
 have n0 : ∀ {K : AObj → RO},z2Q (H0 ++ [scX tx b sd,tmO [],ttO (H0.length + 1) [],trO []]) H0.length K = K (scX tx b sd) := fun {K}=>(zoL H0 (k := 0))
 have n1 : ∀ {K : AObj → RO},z2Q (sc (H0 ++ [scX tx b sd]) [] (⟨[],7,bdL b,[]⟩ : Sg)) H0.length K = K (scX tx b sd) := fun {K}=>by
  unfold sc scM
  rw [List.append_assoc];exact (zoL H0 (k := 0))
 have hro : ro (H0 ++ [scX tx b sd,tmO [],ttO (H0.length + 1) [],trO []]) (SL (b.map nA)) = SL (b.map nA) := rfl
 have hsl2 : (sc (H0 ++ [scX tx b sd]) [] (⟨[],7,bdL b,[]⟩ : Sg)).length = H0.length + 7 := by rw [z82];unfold nAB;rw [hl];rfl
 simp only [List.length_append,List.length_cons,List.length_nil] at h2
 rw [hH] at h2
 have b1 : ∀ {K : AV → RO},z1F (some z6B) (some zc_plenumref04_Ring) [(0,nA 7),(1,SL (b.map nA))] K = K (.agg [nA 7,SL (b.map nA),V (.slice none 0 0)]) := fun {K}=>rfl
 have b2 : ∀ {K : AV → RO},z1F (some z6c) (some z6h) [(1, .agg [nA 7,SL (b.map nA),V (.slice none 0 0)])] K = K (.agg [V (.slice none 0 0),nA 7,SL (b.map nA),V (.slice none 0 0)]) := fun {K}=>rfl
 have b3 : ∀ {K : AV → List AObj → RO} {H : List AObj},zN2 z0w H (.agg [V (.slice none 0 0),nA 7,SL (b.map nA),V (.slice none 0 0)]) K = K (OP H.length 0) (H ++ [⟨1,z0w,0,[V (.slice none 0 0),nA 7,SL (b.map nA),V (.slice none 0 0)]⟩]) := fun {K H}=>rfl
 simp (config := {maxSteps := 4000000,implicitDefEqProofs := false}) (disch := omega) only [go_sem,n0,n1,z3V,zuy,hro,h2,b1,b2,b3,hsl2]
 rw [show H0.length + 1 + 1 = H0.length + 2 from rfl,show H0.length + 1 + 4 = H0.length + 5 from rfl,zB9]
 simp (config := {maxSteps := 4000000,implicitDefEqProofs := false}) (disch := omega) only [go_sem,z9e,z9i,zGp,h3]
theorem zFH (m : Nat) (H0 : List AObj) (tx : List (List UInt8)) (bad : List Int) (sd : List Sd) (hm : 1000001 < m) (hA : GA H0) (hbl : bad.length ≤ 9223372036854775807) (htl : tx.length ≤ 9223372036854775807) (hsl : sd.length ≤ 9223372036854775807) (ht : ∀ x ∈ tx,x.length ≤ 9223372036854775807) (hs : ∀ x ∈ sd,SmI (sdS x)) (hb : ¬ ∀ p ∈ bad.take 10,inN 7 p = true) :
  ∃ bd,z2r m (.agg (scC tx bad sd)) H0 = some (TU [V (.pointer none),V (.pointer none),V (.pointer none),bA false],hS (H0 ++ [scX tx (bad.take 10) sd]) (⟨[],7,bd,[]⟩ : Sg) (zNq (bad.take 10)).2) := by
 rw [zwG m H0 tx bad sd hbl]
 have hbl2 : (bad.take 10).length ≤ 10 := by simp;omega
 generalize bad.take 10 = b at *
 have hl : (H0 ++ [scX tx b sd]).length = H0.length + 1 := by simp
 have hA1 : GA (H0 ++ [scX tx b sd]) := fun n hn=>by
  rw [hl] at hn
  rw [List.all_append,hA n (by omega)]
  rfl
 have h1 := zz2 m (H0 ++ [scX tx b sd]) (fun n hn=>hA1 n hn)
 obtain ⟨bd,h2⟩ := zDS m (H0 ++ [scX tx b sd]) [] 7 b (by omega) (by omega) (by omega) (by omega) (fun n hn=>hA1 n hn) hb
 have hW : WgOk (zNq b).2 := ⟨by show ([] : List (List UInt8)).length ≤ _;simp,by show ([] : List Sm).length ≤ _;simp,by show b.length ≤ _;omega, .inr ⟨rfl,rfl⟩⟩
 have hall := zCQ (σ := (⟨[],7,bd,[]⟩ : Sg)) hA1 hW (n := H0.length + 9) (by rw [hl];omega)
 have hl8 : (hS (H0 ++ [scX tx b sd]) (⟨[],7,bd,[]⟩ : Sg) (zNq b).2).length = H0.length + 9 := by rw [zu4,hl]
 refine ⟨bd,?_⟩
 have hrp : ∀ H,ro1 H (V (.pointer none)) = V (.pointer none) := fun _=>rfl
 have hlp : ∀ n,ltA n (V (.pointer none)) = true := fun _=>rfl
 rw [z9f,h1,zu3,hl]
 have hH : H0 ++ [scX tx b sd] ++ [tmO [],ttO (H0.length + 1) [],trO []] = H0 ++ [scX tx b sd,tmO [],ttO (H0.length + 1) [],trO []] := by
  rw [List.append_assoc];rfl
 have n0 : ∀ {K : AObj → RO},z2Q (H0 ++ [scX tx b sd,tmO [],ttO (H0.length + 1) [],trO []]) H0.length K = K (scX tx b sd) := fun {K}=>(zoL H0 (k := 0))
 have n1 : ∀ {K : AObj → RO},z2Q (sc (H0 ++ [scX tx b sd]) [] (⟨[],7,bd,[]⟩ : Sg)) H0.length K = K (scX tx b sd) := fun {K}=>by
  unfold sc scM
  rw [List.append_assoc];exact (zoL H0 (k := 0))
 have hro : ro (H0 ++ [scX tx b sd,tmO [],ttO (H0.length + 1) [],trO []]) (SL (b.map nA)) = SL (b.map nA) := rfl
 have hsl2 : (sc (H0 ++ [scX tx b sd]) [] (⟨[],7,bd,[]⟩ : Sg)).length = H0.length + 7 := by rw [z82];unfold nAB;rw [hl];rfl
 simp only [List.length_append,List.length_cons,List.length_nil] at h2
 rw [hH] at h2
 have b1 : ∀ {K : AV → RO},z1F (some z6B) (some zc_plenumref04_Ring) [(0,nA 7),(1,SL (b.map nA))] K = K (.agg [nA 7,SL (b.map nA),V (.slice none 0 0)]) := fun {K}=>rfl
 have b2 : ∀ {K : AV → RO},z1F (some z6c) (some z6h) [(1, .agg [nA 7,SL (b.map nA),V (.slice none 0 0)])] K = K (.agg [V (.slice none 0 0),nA 7,SL (b.map nA),V (.slice none 0 0)]) := fun {K}=>rfl
 have b3 : ∀ {K : AV → List AObj → RO} {H : List AObj},zN2 z0w H (.agg [V (.slice none 0 0),nA 7,SL (b.map nA),V (.slice none 0 0)]) K = K (OP H.length 0) (H ++ [⟨1,z0w,0,[V (.slice none 0 0),nA 7,SL (b.map nA),V (.slice none 0 0)]⟩]) := fun {K H}=>rfl
 simp (config := {maxSteps := 4000000,implicitDefEqProofs := false}) (disch := omega) only [go_sem,n0,n1,z3V,zuy,hro,h2,b1,b2,b3,hsl2]
 rw [show H0.length + 1 + 1 = H0.length + 2 from rfl,zB9]
 simp (config := {maxSteps := 4000000,implicitDefEqProofs := false}) (disch := omega) only [go_sem,z9e,z9i,zGp,zpD,hl8,hall,hrp,hlp]
end

end Go.Proofs.Ytaaogcnjfkgnoaa
end

