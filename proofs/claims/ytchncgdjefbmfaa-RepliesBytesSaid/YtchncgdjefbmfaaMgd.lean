/-
  Texts laid together, part 4 of 7: laws of a walk over data, contracts of functions, each whole by itself.
-/
import Derived.Test.YtchncgdjefbmfaaMgc
import Derived.Deep.RegionHeld3
import Derived.Test.YtchncgdjefbmfaaProg
import Derived.Test.YtchncgdjefbmfaaMga
import Derived.KernelRfl
import Derived.WalkKit
import Derived.Deep.Cut
import Derived.Deep.RegionLaw
import Derived.Shelf.RegionOpenPlain
set_option maxRecDepth 100000
set_option linter.unusedVariables false
set_option linter.unusedSimpArgs false
namespace Go.Proofs.Ytchncgdjefbmfaa
open Go.RowKit
theorem reps.takeC {S : SS} {μ : List Value} {cs : List AV} {us : List Value} (h : reps S μ cs us) (n : Nat) : reps S μ (cs.take n) (us.take n) := by
 refine ⟨by rw [List.length_take,List.length_take,h.1],fun j d u hd hu=>?_⟩
 rw [List.getElem?_take] at hd hu
 split at hd
 ·rename_i hj
  rw [if_pos hj] at hu
  exact h.2 j d u hd hu
 ·cases hd
theorem reps.dropC {S : SS} {μ : List Value} {cs : List AV} {us : List Value} (h : reps S μ cs us) (n : Nat) : reps S μ (cs.drop n) (us.drop n) := by
 refine ⟨by rw [List.length_drop,List.length_drop,h.1],fun j d u hd hu=>?_⟩
 rw [List.getElem?_drop] at hd hu
 exact h.2 _ d u hd hu
theorem reps.appC {S : SS} {μ : List Value} {cs cs' : List AV} {us us' : List Value} (h : reps S μ cs us) (k : reps S μ cs' us') : reps S μ (cs ++ cs') (us ++ us') := by
 refine ⟨by rw [List.length_append,List.length_append,h.1,k.1],fun j d u hd hu=>?_⟩
 rcases Nat.lt_or_ge j cs.length with hj|hj
 ·rw [List.getElem?_append_left hj] at hd
  rw [List.getElem?_append_left (by rw [h.1];exact hj)] at hu
  exact h.2 j d u hd hu
 ·rw [List.getElem?_append_right hj] at hd
  rw [List.getElem?_append_right (by rw [h.1];exact hj),h.1] at hu
  exact k.2 _ d u hd hu
section
variable {w : World} {S : SS} {μ : List Value} {H : List AObj}
def RowOut (w w' : World) (g : Option Nat) (e : TypeId) (z n : Nat) (cs : List Value) (r : Value) : Prop :=
 ∃ g' c' cur',r = .slice (some ⟨g',0,none⟩) n c' ∧ n ≤ c' ∧ c' ≤ maxLen ∧ w'.heap[g']? = some (.cells cur' e (0,0)) ∧ cur'.size = c' * z ∧ cur'.toList.take (n * z) = cs ∧ (g = some g' ∨ w.heap.size ≤ g') ∧
  (∀ b,b < w.heap.size → g ≠ some b → w'.heap[b]? = w.heap[b]?) ∧ w'.os = w.os ∧ w'.tape = w.tape ∧ w'.output = w.output ∧ w.heap.size ≤ w'.heap.size
theorem row_post0 (hr : Rel w S μ H) {i : Nat} {x : Value} {o : AObj} (hx : μ[i]? = some x) (ho : H[i]? = some o) (hk : o.k = 4) {w' : World} {e : TypeId} {z : Nat} {es : List AV} (hz : 0 < z) (hall : allC z es) {cs : List Value} (hcs : reps S [] (flat es) cs) {r : Value}
  (h : RowOut w w' (blkOf x) e z es.length cs r) : CPost w S μ H (Is (SL es) (H.set i ⟨0,o.e,o.z,[]⟩)) (.returned r) w' := by
 obtain ⟨g',c',cur',rfl,h1,h2,h3,h4,h5,h6,h7,h8,h9,h10,h11⟩ := h
 have hiH : i < H.length := (List.getElem?_eq_some_iff.1 ho).1
 have hg : ∀ (k : Nat) (o' : AObj),(H.set i ⟨0,o.e,o.z,[]⟩)[k]? = some o' → o'.k ≠ 0 → k ≠ i ∧ H[k]? = some o' := by
  intro k o' h hk0
  rcases set_cases h with ⟨rfl,rfl⟩|⟨q,h⟩
  ·exact absurd rfl hk0
  ·exact ⟨q,h⟩
 have hgS : ∀ b j d,blkOf x = some b → ¬ S b j d := fun b j d hb hs=>by
  have := (hr.apart i x o b hx ho (by omega) hb j d hs).1
  omega
 let S' : SS := fun b j d=>S b j d ∨ (b = g' ∧ (flat es)[j]? = some d)
 have hext : Ext S μ S' μ := ⟨fun _ _ _ q=>.inl q,fun k y hy=>⟨y,hy, .inl rfl⟩⟩
 have hext0 : Ext S [] S' [] := ⟨fun _ _ _ q=>.inl q,fun k y hy=>by simp at hy⟩
 have hfl := flatE_length hall
 have hcl : cs.length = es.length * z := by rw [hcs.1,hfl]
 refine ⟨_,_,_,S',μ,rfl,⟨rfl,rfl⟩,⟨by simp [hr.len],fun b j d hs=>?_,fun k y o' hy ho'=>?_,fun k y o' hy ho'=>?_,fun k k' y y' o1 o2 b hy ho1 hk1 hb1 hy' ho2 hk2 hb2=>?_,fun k y o' b hy ho' hk' hb' j d hs=>?_⟩,?_,⟨h8,h9,h10,h11,fun b hb hn=>?_,fun _ _ _ q=>.inl q,fun k y _ hy=>⟨y,hy, .inl rfl⟩,fun b j d hs hb=>?_,fun b hb _=>?_⟩⟩
 ·rcases hs with hs|⟨rfl,hd⟩
  ·obtain ⟨u,q1,q2,q3⟩ := hr.still b j d hs
   exact ⟨u,by rw [World.cell?_of_block (h7 b (hr.still_lt hs) fun q=>hgS b j d q hs)];exact q1,q2,q3.ext hext0⟩
  ·have hj := (List.getElem?_eq_some_iff.1 hd).1
   have hjc : j < cs.length := by rw [hcs.1];exact hj
   obtain ⟨q1,q2⟩ := hcs.2 j d _ hd (List.getElem?_eq_getElem hjc)
   exact ⟨_,cell_row h3 h5 (List.getElem?_eq_getElem hjc),q1,q2.ext hext0⟩
 ·by_cases hk0 : o'.k = 0
  ·exact .inl hk0
  ·exact hr.kinds k y o' hy (hg k o' ho' hk0).2
 ·by_cases hk0 : o'.k = 0
  ·exact objRep.zero hk0
  ·obtain ⟨q1,q2⟩ := hg k o' ho' hk0
   refine (hr.objs k y o' hy q2).move hext fun b hb=>h7 b (hr.own_lt hy q2 hk0 hb) fun q=>?_
   exact q1 (hr.sep k i y x o' o b hy q2 hk0 hb hx ho (by omega) q)
 ·exact hr.sep k k' y y' o1 o2 b hy (hg k o1 ho1 hk1).2 hk1 hb1 hy' (hg k' o2 ho2 hk2).2 hk2 hb2
 ·obtain ⟨q1,q2⟩ := hg k o' ho' hk'
  rcases hs with hs|⟨rfl,hd⟩
  ·exact hr.apart k y o' b hy q2 hk' hb' j d hs
  ·exfalso
   rcases h6 with h6|h6
   ·exact q1 (hr.sep k i y x o' o b hy q2 hk' hb' hx ho (by omega) h6)
   ·have := hr.own_lt hy q2 hk' hb';omega
 ·exact ⟨some ⟨g',0,none⟩,c',rfl,h1,h2,fun _=>⟨g',0,z,rfl,inS_flat hall fun j y hy=>.inr ⟨rfl,by simpa using hy⟩⟩⟩
 ·refine h7 b hb fun q=>hn ⟨i,x,o,hx,ho,by omega,q⟩
 ·rcases hs with hs|⟨rfl,hd⟩
  ·exact .inl hs
  ·rcases h6 with h6|h6
   ·exact .inr ⟨i,x,o,hx,ho,by omega,h6⟩
   ·omega
 ·obtain ⟨k,y,o',hy,ho',hk',hb'⟩ := hb
  exact ⟨k,y,o',hy,(hg k o' ho' hk').2,hk',hb'⟩
theorem row_post (hr : Rel w S μ H) {i : Nat} {x : Value} {o : AObj} (hx : μ[i]? = some x) (ho : H[i]? = some o) (hk : o.k = 4) {w' : World} {e : TypeId} {z : Nat} {es : List AV} (hz : 0 < z) (hes : es ≠ []) (hall : allC z es) {cs : List Value} (hcs : reps S [] (flat es) cs) {r : Value}
 (h : RowOut w w' (blkOf x) e z es.length cs r) : CPost w S μ H (Is (SL es) (H.set i ⟨0,o.e,o.z,[]⟩)) (.returned r) w' := row_post0 hr hx ho hk hz hall hcs h
theorem row_new (hr : Rel w S μ H) {w' : World} {e : TypeId} {z : Nat} {es : List AV} (hall : allC z es) {cs : List Value} (hcs : reps S [] (flat es) cs) {g c : Nat} {cur : Array Value} (hb : Below w.heap.size w w') (hg : w.heap.size ≤ g) (h1 : es.length ≤ c) (h2 : c ≤ maxLen)
  (h3 : w'.heap[g]? = some (.cells cur e (0,0))) (h4 : cur.size = c * z) (h5 : cur.toList.take (es.length * z) = cs) : CPost w S μ H (Is (PR H.length es.length) (H ++ [⟨4,e,z,es⟩])) (.returned (.slice (some ⟨g,0,none⟩) es.length c)) w' := by
 obtain ⟨q1,q2⟩ := hr.grow (S' := S) hb (fun _ _ _ q=>q) (fun _ _ _ q=>.inl q) (fun b j d q hb'=>absurd (hr.still_lt q) (by omega))
 have hbl : ∀ b,blkOf (MR (some ⟨g,0,none⟩) es.length c) = some b → b = g := by
  intro b hb
  simp only [blkOf] at hb
  split at hb
  ·cases hb
  ·injection hb with hb;exact hb.symm
 have q3 : Rel w' S (μ ++ [MR (some ⟨g,0,none⟩) es.length c]) (H ++ [⟨4,e,z,es⟩]) := by
  refine q1.add (.inr (.inr (.inr rfl))) ⟨fun h=>by simp at h,fun h=>by simp at h,fun _=>⟨some ⟨g,0,none⟩,c,rfl,h1,h2,hall,fun _=>⟨g,cur,rfl,h3,h4,?_⟩⟩⟩ fun b hb=>?_
  ·rw [h5];exact hcs.free
  ·have := hbl b hb
   subst this
   refine ⟨?_,fun j d hs=>by have := hr.still_lt hs;omega⟩
   rintro ⟨k,y,o,hy,ho,hk,hb'⟩
   have := hr.own_lt hy ho hk hb';omega
 refine ⟨_,_,_,S,_,rfl,⟨rfl,rfl⟩,q3,⟨some ⟨g,0,none⟩,c,by rw [← hr.len];simp,rfl,h1,h2⟩,q2.add hr.len fun b hb=>?_⟩
 have := hbl b hb;omega
end
end Go.Proofs.Ytchncgdjefbmfaa

namespace Go.Proofs.Ytchncgdjefbmfaa
open Go.RowKit
theorem below_drewR {W w2 : World} (h : Below W.drew.heap.size W.drew w2) : Below W.heap.size W w2 := ⟨h.os,h.tape,h.output,h.size,h.block⟩
theorem resLen {kind i : Int} {s : Bytes} (h0 : -9223372036854775808 ≤ i) (h1 : i < 9223372036854775808) (hv : valB kind i s = true) : (encV kind i s).length ≤ 100 := by
 rcases valB_cases hv with ⟨rfl,rfl,rfl⟩|⟨rfl,hi,rfl⟩|⟨rfl,rfl⟩|⟨rfl,rfl,hs⟩
 ·decide
 ·simp [encV]
 ·have := put_len (zig i) (zig_lt i h0 h1)
  simp [encV];omega
 ·have := put_len s.length (by omega)
  simp [encV];omega
theorem resFin {w w1 w7 : World} {code : Int} {E V : Bytes} {A7 : Option Addr} {c7 : Nat} (h0 : 0 ≤ code) (h1 : code ≤ 23) (hown : w7.ownsRow w1.heap.size 5 1 (.slice A7 (1 + E.length + V.length) c7) (1 + E.length + V.length) ([.int .u8 code] ++ E.map cB ++ V.map cB)) (hb : Below w1.heap.size w1 w7) (hbw : Below w.heap.size w w1) :
  BytesOut 5 w (UInt8.ofNat code.toNat :: (E ++ V)) (.returned (.slice A7 (1 + E.length + V.length) c7)) w7 := by
 have hl : (UInt8.ofNat code.toNat :: (E ++ V)).length = 1 + E.length + V.length := by rw [List.length_cons,List.length_append];omega
 have hm : (UInt8.ofNat code.toNat :: (E ++ V)).map cB = [.int .u8 code] ++ E.map cB ++ V.map cB := by
  rw [List.map_cons,List.map_append,cB_of code.toNat (by omega),show (code.toNat : Int) = code by omega]
  simp
 refine bytesOut_of hl.symm ?_ (below_trans hbw hb)
 rw [hl,hm]
 exact own_mono hown hbw.size
def resB (code kind i : Int) (s : Bytes) (ver : Int) : Bool := decide (0 ≤ code) && decide (code ≤ 23) && valB kind i s && decide (0 ≤ ver) && decide (ver ≤ 2147483647)
def encRes (code kind i : Int) (s : Bytes) (ver : Int) : Bytes := if resB code kind i s ver then UInt8.ofNat code.toNat :: (encV kind i s ++ put ver.toNat) else []
set_option maxHeartbeats 4000000 in
theorem encres_a (code kind i : Int) (s : Bytes) (ver : Int) (w : World) (h0 : code < 0) :
  Calls Try.prog 27 #[.agg #[.int .i64 code, .int .i64 kind, .int .i64 i, .string ⟨s.toArray⟩, .int .i64 ver]] w (BytesOut 5 w []) := by
 go_enter Try.func27,Try.ntmps27
 go_wp2_with (go_at_call 51;refine (valmay_any kind i s _).mono ?_;rintro e w1 ⟨rfl,hb⟩;obtain ⟨hc,hf⟩ := bcell hb;have hz := bz hb)
 all_goals (go_ret;exact ⟨none,0,rfl,World.ownsRow_nil _ _ _ _,gr1 _ _⟩)
set_option maxHeartbeats 4000000 in
theorem encres_b (code kind i : Int) (s : Bytes) (ver : Int) (w : World) (h0 : ¬ code < 0) (h1 : 23 < code) :
  Calls Try.prog 27 #[.agg #[.int .i64 code, .int .i64 kind, .int .i64 i, .string ⟨s.toArray⟩, .int .i64 ver]] w (BytesOut 5 w []) := by
 go_enter Try.func27,Try.ntmps27
 go_wp2_with (go_at_call 51;refine (valmay_any kind i s _).mono ?_;rintro e w1 ⟨rfl,hb⟩;obtain ⟨hc,hf⟩ := bcell hb;have hz := bz hb)
 all_goals (go_ret;exact ⟨none,0,rfl,World.ownsRow_nil _ _ _ _,gr1 _ _⟩)
set_option maxHeartbeats 4000000 in
theorem encres_c (code kind i : Int) (s : Bytes) (ver : Int) (w : World) (h0 : ¬ code < 0) (h1 : ¬ 23 < code) (hv : valB kind i s = false) :
  Calls Try.prog 27 #[.agg #[.int .i64 code, .int .i64 kind, .int .i64 i, .string ⟨s.toArray⟩, .int .i64 ver]] w (BytesOut 5 w []) := by
 go_enter Try.func27,Try.ntmps27
 go_wp2_with (go_at_call 51;refine (valmay_any kind i s _).mono ?_;rintro e w1 ⟨rfl,hb⟩;obtain ⟨hc,hf⟩ := bcell hb;have hz := bz hb)
 all_goals (go_ret;exact ⟨none,0,rfl,World.ownsRow_nil _ _ _ _,below_trans (gr1 _ _) hb⟩)
set_option maxHeartbeats 4000000 in
theorem encres_d (code kind i : Int) (s : Bytes) (ver : Int) (w : World) (h0 : ¬ code < 0) (h1 : ¬ 23 < code) (hv : valB kind i s = true) (h2 : ver < 0) :
  Calls Try.prog 27 #[.agg #[.int .i64 code, .int .i64 kind, .int .i64 i, .string ⟨s.toArray⟩, .int .i64 ver]] w (BytesOut 5 w []) := by
 go_enter Try.func27,Try.ntmps27
 go_wp2_with (go_at_call 51;refine (valmay_any kind i s _).mono ?_;rintro e w1 ⟨rfl,hb⟩;obtain ⟨hc,hf⟩ := bcell hb;have hz := bz hb)
 all_goals (go_ret;exact ⟨none,0,rfl,World.ownsRow_nil _ _ _ _,below_trans (gr1 _ _) hb⟩)
set_option maxHeartbeats 4000000 in
theorem encres_e (code kind i : Int) (s : Bytes) (ver : Int) (w : World) (h0 : ¬ code < 0) (h1 : ¬ 23 < code) (hv : valB kind i s = true) (h2 : ¬ ver < 0) (h3 : 2147483647 < ver) :
  Calls Try.prog 27 #[.agg #[.int .i64 code, .int .i64 kind, .int .i64 i, .string ⟨s.toArray⟩, .int .i64 ver]] w (BytesOut 5 w []) := by
 go_enter Try.func27,Try.ntmps27
 go_wp2_with (go_at_call 51;refine (valmay_any kind i s _).mono ?_;rintro e w1 ⟨rfl,hb⟩;obtain ⟨hc,hf⟩ := bcell hb;have hz := bz hb)
 all_goals (go_ret;exact ⟨none,0,rfl,World.ownsRow_nil _ _ _ _,below_trans (gr1 _ _) hb⟩)
set_option maxHeartbeats 4000000 in
theorem encres_y (code kind i : Int) (s : Bytes) (ver : Int) (w : World) (h0 : ¬ code < 0) (h1 : ¬ 23 < code) (hv : valB kind i s = true) (h2 : ¬ ver < 0) (h3 : ¬ 2147483647 < ver) (hi0 : -9223372036854775808 ≤ i) (hi1 : i < 9223372036854775808) :
    Calls Try.prog 27 #[.agg #[.int .i64 code, .int .i64 kind, .int .i64 i, .string ⟨s.toArray⟩, .int .i64 ver]] w (BytesOut 5 w (UInt8.ofNat code.toNat :: (encV kind i s ++ put ver.toNat))) := by
  have hel := resLen hi0 hi1 hv
  have hpv := put_len ver.toNat (by omega)
  have HE := hide (fun w => enc_any kind i s hi0 hi1 w)
  rw [encP_yes hv] at HE
  have HP := hide (fun w => put_any ver (by omega) (by omega) w)
  have hw8 : IntKind.u8.wrap code = code := by rw [IntKind.wrap_u8]; omega
  have hw64 : IntKind.u64.wrap ver = ver := IntWalk.u64_in _ (by omega)
  generalize encV kind i s = E at hel HE ⊢
  generalize put ver.toNat = V at hpv HP ⊢
  go_enter Try.func27, Try.ntmps27
  go_wp2_with (go_at_call 51; refine (valmay_any kind i s _).mono ?_; rintro e w1 ⟨rfl, hb⟩; obtain ⟨hc, hf⟩ := bcell hb; have hz := bz hb)
  obtain ⟨hk0, hk1, hk2, hk3, hk4⟩ : w1.cell? ⟨w.heap.size, 0, none⟩ = some (.int .i64 code) ∧ w1.cell? ⟨w.heap.size, 1, none⟩ = some (.int .i64 kind) ∧ w1.cell? ⟨w.heap.size, 2, none⟩ = some (.int .i64 i) ∧ w1.cell? ⟨w.heap.size, 3, none⟩ = some (.string ⟨s.toArray⟩) ∧ w1.cell? ⟨w.heap.size, 4, none⟩ = some (.int .i64 ver) := by
    refine ⟨?_, ?_, ?_, ?_, ?_⟩ <;> (rw [hc _ _ (by simp)]; simp [go_sem])
  have hbw := below_trans (gr1 w _) hb
  have hz' : w.heap.size < w1.heap.size + 1 := by omega
  clear hc hf
  go_region_held3 (fun w' => w'.cell? ⟨w.heap.size, 0, none⟩ = some (.int .i64 code) ∧ w'.cell? ⟨w.heap.size, 1, none⟩ = some (.int .i64 kind) ∧ w'.cell? ⟨w.heap.size, 2, none⟩ = some (.int .i64 i) ∧ w'.cell? ⟨w.heap.size, 3, none⟩ = some (.string ⟨s.toArray⟩) ∧ w'.cell? ⟨w.heap.size, 4, none⟩ = some (.int .i64 ver)) (first | go_keep | (refine ⟨?_, ?_, ?_, ?_, ?_⟩ <;> (rw [hc2 _ _ (by simp; omega)]; simp only [World.cell?_drew, World.cell?_alloc_past _ _ _ hz]; assumption)) | (refine ⟨?_, ?_, ?_, ?_, ?_⟩ <;> (rw [hc2 _ _ hz]; assumption)))
    (first
      | (go_at_call 52; refine (HE.out _).mono ?_; rintro e w2 ⟨A2, c2, rfl, hown2, hb2⟩; obtain ⟨hc2, hf2⟩ := bcell hb2; have hr2 := Rd.of_own hown2; have hz2 : w.heap.size < w2.heap.size := Nat.lt_of_lt_of_le (by first | (simp; omega) | assumption) hb2.size)
      | (refine step_appAny _ rfl (.tmp 31) (.tmp 34) _ (by rfl) w1 w1.heap.size 5 _ 1 1 Try.underlying63 info_u8 rfl (by omega) (by omega) _ 1 [.int .u8 code] (by rfl) (own_below ((own_new w1 w1.heap.size 5 1 1 #[.int .u8 code] (Nat.le_refl _) rfl (by simp [maxLen])).drew) hb2) (((gr1 w1 _).drew).trans (hb2.mono (by simp))) A2 E.length c2 (E.map cB) (by rfl) hr2 (cB_one _) (by omega) (by have := hb2.size; simp at this; omega) ?_; intro A4 c4 w4 hown4 hb4; obtain ⟨hc2, _⟩ := bcell hb4)
      | (refine step_appAny _ rfl (.tmp 31) (.tmp 34) _ (by rfl) w1 w1.heap.size 5 _ 1 1 Try.underlying63 info_u8 rfl (by omega) (by omega) _ 1 [.int .u8 code] (by rfl) (own_new w2 w1.heap.size 5 1 1 #[.int .u8 code] hb2.size rfl (by simp [maxLen])) ((below_drewR hb2).alloc hb2.size _) A2 E.length c2 (E.map cB) (by rfl) (Rd.of_own (hown2.alloc _)) (cB_one _) (by omega) (by have := hb2.size; simp at this ⊢; omega) ?_; intro A4 c4 w4 hown4 hb4; obtain ⟨hc2, _⟩ := bcell hb4))
  all_goals
    have e4 : w4.cell? ⟨w.heap.size, 4, none⟩ = some (.int .i64 ver) := by rw [hc2 _ _ hz]; exact hk4
    go_wp2_with (first
      | (go_at_call 46; refine (HP.out _).mono ?_; rintro e w5 ⟨g5, c5, rfl, hown5, hb5⟩; have hr5 := Rd.of_own hown5; have hown6 := own_below hown4 hb5; have hbl6 := hb4.trans (hb5.mono hb4.size))
      | (at_builtin; refine wpList_appAny _ rfl (.tmp 36) (.tmp 40) _ rfl w1 w1.heap.size 5 _ 1 1 Try.underlying63 info_u8 rfl (by omega) (by omega) _ (1 + E.length) ([.int .u8 code] ++ E.map cB) (by rfl) hown6 hbl6 _ _ _ _ (by rfl) hr5 (cB_one _) (by omega) hbl6.size ?_; intro A7 c7 w7 hown7 hb7))
    go_ret
    exact resFin (by omega) (by omega) hown7 hb7 hbw
theorem encres_any (code kind i : Int) (s : Bytes) (ver : Int) (hi0 : -9223372036854775808 ≤ i) (hi1 : i < 9223372036854775808) (w : World) :
  Calls Try.prog 27 #[.agg #[.int .i64 code, .int .i64 kind, .int .i64 i, .string ⟨s.toArray⟩, .int .i64 ver]] w (BytesOut 5 w (encRes code kind i s ver)) := by
 have no : resB code kind i s ver = false → encRes code kind i s ver = [] := fun h=>by unfold encRes;rw [h];rfl
 by_cases h0 : code < 0
 ·rw [no (by unfold resB;rw [decide_eq_false (by omega)];rfl)]
  exact encres_a code kind i s ver w h0
 by_cases h1 : 23 < code
 ·rw [no (by unfold resB;rw [decide_eq_false (show ¬ code ≤ 23 by omega),Bool.and_false];rfl)]
  exact encres_b code kind i s ver w h0 h1
 cases hv : valB kind i s with
 |false =>
  rw [no (by unfold resB;rw [hv,Bool.and_false];rfl)]
  exact encres_c code kind i s ver w h0 h1 hv
 |true =>
 by_cases h2 : ver < 0
 ·rw [no (by unfold resB;rw [decide_eq_false (show ¬ 0 ≤ ver by omega),Bool.and_false];rfl)]
  exact encres_d code kind i s ver w h0 h1 hv h2
 by_cases h3 : 2147483647 < ver
 ·rw [no (by unfold resB;rw [decide_eq_false (show ¬ ver ≤ 2147483647 by omega),Bool.and_false])]
  exact encres_e code kind i s ver w h0 h1 hv h2 h3
 have : encRes code kind i s ver = UInt8.ofNat code.toNat :: (encV kind i s ++ put ver.toNat) := by
  unfold encRes
  rw [if_pos]
  unfold resB
  rw [hv,decide_eq_true (by omega),decide_eq_true (by omega),decide_eq_true (by omega),decide_eq_true (by omega)]
  rfl
 rw [this]
 exact encres_y code kind i s ver w h0 h1 hv h2 h3 hi0 hi1
def byA (l : Bytes) : AV := SL (l.map fun b=>V (cB b))
theorem flat_by (l : Bytes) : flat (l.map fun b=>V (cB b)) = l.map fun b=>V (cB b) := by
 unfold flat
 induction l with
 |nil=>rfl
 |cons b l ih=>rw [List.map_cons,List.flatMap_cons,ih];rfl
theorem allC_by (l : Bytes) : allC 1 (l.map fun b=>V (cB b)) := fun d hd=>by
 obtain ⟨b,_,rfl⟩ := List.mem_map.1 hd
 rfl
theorem reps_by (S : SS) (μ : List Value) (l : Bytes) : reps S μ (flat (l.map fun b=>V (cB b))) (l.map cB) := by
 rw [flat_by]
 refine ⟨by simp,fun j d u hd hu=>?_⟩
 rw [List.getElem?_map] at hd hu
 obtain ⟨b,hb,rfl⟩ := Option.map_eq_some_iff.1 hd
 rw [hb] at hu
 simp at hu;subst hu
 exact ⟨rfl,rfl,rfl⟩
theorem rep_by {w w' : World} {base : Nat} {A : Option Addr} {cap : Nat} {l : Bytes} (h : w'.ownsRow base 5 1 (.slice A l.length cap) l.length (l.map cB)) (S : SS) :
  ∃ N : SS,(∀ b j d,N b j d → base ≤ b ∧ ∃ u,w'.cell? ⟨b,j,none⟩ = some u ∧ d = V u ∧ u.oneCell' = true) ∧ rep (fun b j d=>S b j d ∨ N b j d) [] (byA l) (.slice A l.length cap) := by
 obtain ⟨A',c',e,hc1,hc2⟩ := own_le h
 injection e with e1 e2 e3
 subst e1 e3
 by_cases hn : l = []
 ·subst hn
  exact ⟨fun _ _ _=>False,fun _ _ _ q=>q.elim,A,cap,by simp,by simp,hc2,fun q=>by simp at q⟩
 ·have hpos := List.length_pos_iff.2 hn
  rcases h.2 with ⟨q,_⟩|⟨g,cap',cur,q,hbg,hg,h1,h2,h3,h4⟩
  ·injection q with _ q;omega
  ·injection q with q1 q2 q3
   subst q1 q3
   refine ⟨fun b j d=>b = g ∧ (l.map fun b=>V (cB b))[j]? = some d,fun b j d=>?_,some ⟨g,0,none⟩,cap,by simp,by simpa using hc1,hc2,fun _=>⟨g,0,1,rfl,inS_flat (allC_by l) fun j y hy=>.inr ⟨rfl,by rw [flat_by] at hy;simpa using hy⟩⟩⟩
   rintro ⟨rfl,hd⟩
   rw [List.getElem?_map] at hd
   obtain ⟨x,hx,rfl⟩ := Option.map_eq_some_iff.1 hd
   exact ⟨hbg,cB x,cell_row hg h4 (by rw [List.getElem?_map,hx];rfl),rfl,rfl⟩
section
variable {G : Gl}
theorem cl_rvalmay (k i : Int) (s : Bytes) : ACp Try.prog G 53 [.agg [nA k,nA i,sA s]] (bA (valB k i s)) := by
 refine acp_of_tells (by kernel_rfl) fun w S vs hr hg hlen hv'=>?_
 rcases vs with _|⟨v1,_|⟨_,_⟩⟩ <;> simp at hlen
 obtain ⟨us,rfl,hx⟩ := hv' 0 _ v1 rfl rfl
 have := reps_plain (us := [.int .i64 k, .int .i64 i, .string ⟨s.toArray⟩]) hx
 subst this
 refine (rvalmay_any k i s w).mono ?_
 rintro e w' ⟨rfl,hb⟩
 exact ⟨_,rfl,hb,rfl,rfl⟩
theorem cl_encres (c k i : Int) (s : Bytes) (v : Int) (hi0 : -9223372036854775808 ≤ i) (hi1 : i < 9223372036854775808) : ACp Try.prog G 27 [.agg [nA c,nA k,nA i,sA s,nA v]] (byA (encRes c k i s v)) := by
 refine acp_of (by kernel_rfl) fun w S vs hr hg hlen hv'=>?_
 rcases vs with _|⟨v1,_|⟨_,_⟩⟩ <;> simp at hlen
 obtain ⟨us,rfl,hx⟩ := hv' 0 _ v1 rfl rfl
 have := reps_plain (us := [.int .i64 c, .int .i64 k, .int .i64 i, .string ⟨s.toArray⟩, .int .i64 v]) hx
 subst this
 refine (encres_any c k i s v hi0 hi1 w).mono ?_
 rintro e w' ⟨A,cap,rfl,hown,hb⟩
 obtain ⟨N,h1,h2⟩ := rep_by (w := w) hown S
 exact ⟨_,rfl,hb,N,h1,h2⟩
end
end Go.Proofs.Ytchncgdjefbmfaa

namespace Go.Proofs.Ytchncgdjefbmfaa
open Go.RowKit
set_option maxHeartbeats 4000000 in
theorem ins_shift (g n c k vb vo vc : Nat) (us vs : List Value) (cur : Array Value) (w : World) (hk : k < n) (hroom : n + 1 ≤ c) (hcm : c ≤ 9223372036854775807)
  (hg : w.heap[g]? = some (.cells cur 40 (0,0))) (hsz : cur.size = c * 7) (hus : us.length = n * 7) (htk : cur.toList.take (n * 7) = us) (h1 : ∀ u ∈ us,u.oneCell' = true) (hne : vb ≠ g)
  (hvl : vs.length = 7) (hvs : ∀ j u,vs[j]? = some u → w.cell? ⟨vb,vo + j,none⟩ = some u) (h1v : ∀ u ∈ vs,u.oneCell' = true) :
  Calls Try.prog 35 #[.slice (some ⟨g,0,none⟩) n c, .int .i64 k, .slice (some ⟨vb,vo,none⟩) 1 vc] w fun e w' =>
   e = .returned (.slice (some ⟨g,0,none⟩) (n + 1) c) ∧ ∃ cur',w' = w.drew.setRow g cur' ∧ cur'.size = c * 7 ∧ cur'.toList.take ((n + 1) * 7) = us.take (k * 7) ++ vs ++ us.drop (k * 7) := by
 have hz1 : ¬ ((k : Int) = (n : Int)) := by omega
 have hcur : cur.size ≠ 0 := by omega
 have hv0 : ∃ u0,w.cell? ⟨vb,vo,none⟩ = some u0 := by
  cases vs with
  |nil=>simp at hvl
  |cons u r=>exact ⟨u,by simpa using hvs 0 u rfl⟩
 obtain ⟨u0,hv0⟩ := hv0
 have hov : ∀ o lb cb,(callFunc 56 #[.slice (some ⟨vb,vo,none⟩) 1 vc, .slice (some ⟨g,o,none⟩) lb cb]).run Try.prog w = .ok (.value (.bool false)) w := fun o lb cb=>by
  rw [run_callFunc_extern Try.func56 (by kernel_rfl) (by kernel_rfl) (by kernel_rfl) (e := Extern.SlicesOverlaps.overlaps #[22,22] #[4]) (by kernel_rfl),
   run_overlaps_row w 22 4 40 Try.underlying22 7 Try.sizeOf40 ⟨vb,vo,none⟩ ⟨g,o,none⟩ 1 vc lb cb hne u0 hv0 hg hcur]
  rfl
 have hw1 : IntKind.i64.wrap ((k : Int) + 1) = (k : Int) + 1 := by rw [IntKind.wrap_i64];omega
 have hb1 : (0 : Int) ≤ (k : Int) + 1 := by omega
 have hin : k ≤ n := by omega
 have htn : ((k : Int) + 1).toNat = k + 1 := by omega
 have hb2 : ¬ (c = k + 1) := by omega
 have hb3 : (k : Int) ≤ (n : Int) + 1 := by omega
 have hb4 : ¬ (c = k) := by omega
 have hinf : (Try.prog.info? 40).map (·.size) = some 7 := by kernel_rfl
 have hdl : (us.drop (k * 7)).length = (n - k) * 7 := by rw [List.length_drop,hus,Nat.sub_mul]
 have hll : cur.toList.length = c * 7 := by rw [Array.length_toList];exact hsz
 have hcp1 : ∀ ty dc sc,(Builtin.copy_ #[22,22] ty #[.slice (some ⟨g,(k + 1) * 7,none⟩) (n - k) dc, .slice (some ⟨g,k * 7,none⟩) (n + 1 - k) sc]).run Try.prog w.drew = .ok (goInt (n - k : Nat)) (w.drew.setRow g (cur.toList.take (k * 7 + 7) ++ us.drop (k * 7) ++ cur.toList.drop (k * 7 + 7 + (us.drop (k * 7)).length)).toArray) := fun ty dc sc=>by
  have := run_copy_rowz (P := Try.prog) w.drew 22 22 ty 40 7 g ((k + 1) * 7) (n - k) dc ⟨g,k * 7,none⟩ (n + 1 - k) sc cur 40 (us.drop (k * 7)) Try.underlying22 hinf hg (n - k) (by simp only [Nat.min_def];split <;> omega) hdl
   (fun j v hj=>by rw [add_plain];exact cell_row (w := w.drew) hg htk (by rwa [List.getElem?_drop] at hj)) (by rw [hdl];omega) (fun v hv=>h1 v (List.mem_of_mem_drop hv))
  rw [show (k + 1) * 7 = k * 7 + 7 by omega] at this ⊢
  exact this
 obtain ⟨L1,hL1⟩ : ∃ L1,L1 = cur.toList.take (k * 7 + 7) ++ us.drop (k * 7) ++ cur.toList.drop (k * 7 + 7 + (us.drop (k * 7)).length) := ⟨_,rfl⟩
 have hL1l : L1.length = c * 7 := by
  rw [hL1,List.length_append,List.length_append,hdl,List.length_take,List.length_drop,hll];omega
 have hLL := ins_list (L := cur.toList) (us := us) (vs := vs) (N := n * 7) (K := k * 7) (z := 7) hvl (by omega) (by omega) htk
 rw [← hL1] at hcp1 hLL
 have hcp2 : ∀ ty dc,(Builtin.copy_ #[22,22] ty #[.slice (some ⟨g,k * 7,none⟩) (n + 1 - k) dc, .slice (some ⟨vb,vo,none⟩) 1 vc]).run Try.prog (w.drew.setRow g L1.toArray) = .ok (goInt (1 : Nat)) (w.drew.setRow g (us.take (k * 7) ++ vs ++ us.drop (k * 7) ++ cur.toList.drop (n * 7 + 7)).toArray) := fun ty dc=>by
  have := run_copy_rowz (P := Try.prog) (w.drew.setRow g L1.toArray) 22 22 ty 40 7 g (k * 7) (n + 1 - k) dc ⟨vb,vo,none⟩ 1 vc L1.toArray 40 vs Try.underlying22 hinf (setRow_heap w.drew g cur _ _ _ hg) 1 (by simp only [Nat.min_def];split <;> omega) hvl
   (fun j v hj=>by rw [add_plain,World.cell?_of_block (setRow_other w.drew g vb _ hne)];exact hvs j v hj) (by rw [hvl];simp only [List.size_toArray];omega) h1v
  rw [setRow_setRow] at this
  rw [this,hLL]
 have hE1 := hide (show ((us.take (k * 7) ++ vs ++ us.drop (k * 7) ++ cur.toList.drop (n * 7 + 7)).toArray).size = c * 7 by
  simp only [List.size_toArray,List.length_append,List.length_take,List.length_drop,hus,hvl,hll];omega)
 have hE2 := hide (show ((us.take (k * 7) ++ vs ++ us.drop (k * 7) ++ cur.toList.drop (n * 7 + 7)).toArray).toList.take ((n + 1) * 7) = us.take (k * 7) ++ vs ++ us.drop (k * 7) from by
  have hlen : (us.take (k * 7) ++ vs ++ us.drop (k * 7)).length = (n + 1) * 7 := by
   simp only [List.length_append,List.length_take,List.length_drop,hus,hvl];omega
  show List.take ((n + 1) * 7) (us.take (k * 7) ++ vs ++ us.drop (k * 7) ++ cur.toList.drop (n * 7 + 7)) = _
  rw [← hlen]
  exact List.take_left)
 generalize (us.take (k * 7) ++ vs ++ us.drop (k * 7) ++ cur.toList.drop (n * 7 + 7)).toArray = C2 at hcp2 hE1 hE2
 generalize L1.toArray = C1 at hcp1 hcp2
 clear hLL hL1 hL1l hll hdl hinf
 have hg := hide hg;have hsz := hide hsz;have hus := hide hus;have htk := hide htk;have hvl := hide hvl;have hvs := hide hvs;have h1 := hide h1;have h1v := hide h1v;have hv0 := hide hv0;have hcur := hide hcur
 have mixed : Try.prog.follows .mixedOrders = true := by kernel_rfl
 go_enter Try.func35,Try.ntmps35
 go_wp2_with (simp only [hov])
 go_region_law_o (refine step_copy_runI rfl _ _ 22 22 rfl _ _ (by simp [Act.eval,Act.put]) (by simp [Act.eval,Act.put]) (hcp1 _ _ _) ?_)
 go_wp2_with (at_builtin;refine wpList_copy_runI _ rfl _ _ 22 22 rfl _ _ rfl rfl (hcp2 _ _) ?_)
 go_ret
 exact ⟨rfl,_,rfl,hE1.out,hE2.out⟩
set_option maxHeartbeats 4000000 in
theorem ins_end (A : Option Addr) (n c vb vo vc : Nat) (w W' : World) (R : Value) (hnil : A = none → n = 0 ∧ c = 0) (hnc : n ≤ c) (hn : n + 1 ≤ 34359738368)
  (hrun : ∀ ty,(Builtin.append_ #[22,22] ty #[.slice A n c, .slice (some ⟨vb,vo,none⟩) 1 vc]).run Try.prog w = .ok R W') :
  Calls Try.prog 35 #[.slice A n c, .int .i64 n, .slice (some ⟨vb,vo,none⟩) 1 vc] w fun e w'=>e = .returned R ∧ w' = W' := by
 go_enter Try.func35,Try.ntmps35
 cases A with
 |none =>
  obtain ⟨rfl,rfl⟩ := hnil rfl
  go_wp2_with (at_builtin;refine Lib.wpList_append_run _ rfl _ _ _ _ rfl _ _ rfl rfl _ _ (hrun _) ?_)
  go_ret
  exact ⟨rfl,rfl⟩
 |some a =>
  obtain ⟨ab,ao,asp⟩ := a
  go_wp2_with (at_builtin;refine Lib.wpList_append_run _ rfl _ _ _ _ rfl _ _ rfl rfl _ _ (hrun _) ?_)
  all_goals (go_ret;exact ⟨rfl,rfl⟩)
set_option maxHeartbeats 4000000 in
theorem ins_grow (g n c k vb vo vc : Nat) (us vs : List Value) (cur : Array Value) (w : World) (hk : k < n) (hroom : c < n + 1) (hnc : n ≤ c) (hn : n + 1 ≤ 34359738368)
    (hg : w.heap[g]? = some (.cells cur 40 (0, 0))) (hus : us.length = n * 7) (htk : cur.toList.take (n * 7) = us) (h1 : ∀ u ∈ us, u.oneCell' = true)
    (hvl : vs.length = 7) (hvs : ∀ j u, vs[j]? = some u → w.cell? ⟨vb, vo + j, none⟩ = some u) (h1v : ∀ u ∈ vs, u.oneCell' = true) :
    Calls Try.prog 35 #[.slice (some ⟨g, 0, none⟩) n c, .int .i64 k, .slice (some ⟨vb, vo, none⟩) 1 vc] w fun e w' =>
      ∃ G cur', e = .returned (.slice (some ⟨w.heap.size, 0, none⟩) (n + 1) G) ∧ n + 1 ≤ G ∧ G ≤ maxLen ∧ w'.heap[w.heap.size]? = some (.cells cur' 40 (0, 0)) ∧ cur'.size = G * 7 ∧ cur'.toList.take ((n + 1) * 7) = us.take (k * 7) ++ vs ++ us.drop (k * 7) ∧
        (∀ b, b < w.heap.size → w'.heap[b]? = w.heap[b]?) ∧ w'.os = w.os ∧ w'.tape = w.tape ∧ w'.output = w.output ∧ w.heap.size ≤ w'.heap.size := by
  have hz1 : ¬ ((k : Int) = (n : Int)) := by omega
  have hz3 : (c : Int) < (n : Int) + 1 := by omega
  have hinf : (Try.prog.info? 40).map (·.size) = some 7 := by kernel_rfl
  obtain ⟨ht, i0, zv, hi0, hzv, hzc, hzs, _, hzb, _⟩ := appT_some (P := Try.prog) (t := 22) (e := 40) (z := 7) (by kernel_rfl)
  have htl : (us.take (k * 7)).length = k * 7 := by rw [List.length_take, hus]; omega
  have hdl : (us.drop (k * 7)).length = (n - k) * 7 := by rw [List.length_drop, hus, Nat.sub_mul]
  have hgs : g < w.heap.size := (Array.getElem?_eq_some_iff.1 hg).1
  have hvw : vb < w.heap.size := by
    cases hvs0 : vs with
    | nil => rw [hvs0] at hvl; simp at hvl
    | cons u r => exact block_lt_of_cell (hvs 0 u (by rw [hvs0]; rfl))
  have hold : (Builtin.firstCells i0.size k (.slice (some ⟨g, 0, none⟩) k c)).run Try.prog w.drew = .ok (us.take (k * 7)).toArray w.drew := by
    rw [hzs]
    exact run_firstCells_some w.drew 7 k ⟨g, 0, none⟩ k c (us.take (k * 7)) htl (fun j v hj => by
      rw [add_plain, Nat.zero_add]
      rw [List.getElem?_take] at hj
      split at hj
      · exact cell_row (w := w.drew) hg htk hj
      · cases hj)
  have hkk : (n : Int) + 1 - (k : Int) = ((n + 1 - k : Nat) : Int) := by omega
  have hik : k + (n + 1 - k) = n + 1 := by omega
  obtain ⟨G, hG⟩ : ∃ G, G = grownCap w (n + 1) c 40 := ⟨_, rfl⟩
  obtain ⟨ROW, hROW⟩ : ∃ ROW : Array Value, ROW = (us.take (k * 7)).toArray ++ Builtin.zeroCells zv.cells (n + 1 - k) ++ Builtin.zeroCells zv.cells (G - (n + 1)) := ⟨_, rfl⟩
  have hGn : n + 1 ≤ G := by rw [hG]; exact grownCap_ge w _ _ _
  have hGm : G ≤ maxLen := by rw [hG]; exact grownCap_le_maxLen w (n + 1) c 40 (by unfold maxLen; omega)
  have hrz : ∀ ty, (Builtin.append_ #[22, 3] ty #[.slice (some ⟨g, 0, none⟩) k c, .int .i64 ((n : Int) + 1 - (k : Int))]).run Try.prog w =
      .ok (.slice (some ⟨w.heap.size, 0, none⟩) (n + 1) G) (w.drew.alloc (.cells ROW 40)) := fun ty => by
    have h := Lib.run_append_grow_zeros (P := Try.prog) w 22 3 ty 40 i0 zv .i64 .i64 ht Try.underlying3 hi0 hzv (some ⟨g, 0, none⟩) k c (us.take (k * 7)) hold (n + 1 - k) (by omega) (by omega) (by omega) (by omega) (by have := Nat.mul_le_mul (show n + 1 - k ≤ 34359738368 by omega) hzb; omega)
      (growslice_fits (by omega) (by rw [hik]; have := Nat.mul_le_mul (show n + 1 ≤ 34359738368 from hn) hzb; omega))
    rw [hik] at h
    rw [hkk, hROW, hG]
    exact h
  have hRl : ROW.size = G * 7 := by
    rw [hROW, Array.size_append, Array.size_append, size_zeroCells, size_zeroCells, hzc, hzs]
    simp only [List.size_toArray, htl]
    omega
  have hR0 : (w.drew.alloc (.cells ROW 40)).heap[w.heap.size]? = some (.cells ROW 40 (0, 0)) := heap_alloc_new w.drew _
  obtain ⟨L1, hL1⟩ : ∃ L1, L1 = ROW.toList.take (k * 7) ++ vs ++ ROW.toList.drop (k * 7 + vs.length) := ⟨_, rfl⟩
  have hRll : ROW.toList.length = G * 7 := by rw [Array.length_toList]; exact hRl
  have hRt : ROW.toList.take (k * 7) = us.take (k * 7) := by
    rw [hROW]
    simp only [Array.toList_append, List.append_assoc]
    rw [List.take_append_of_le_length (by rw [htl]; omega), List.take_of_length_le (by rw [htl]; omega)]
  have hL1l : L1.length = G * 7 := by
    rw [hL1, List.length_append, List.length_append, List.length_take, List.length_drop, hRll, hvl]; omega
  have hcpA : ∀ ty dc, (Builtin.copy_ #[22, 22] ty #[.slice (some ⟨w.heap.size, k * 7, none⟩) (n + 1 - k) dc, .slice (some ⟨vb, vo, none⟩) 1 vc]).run Try.prog (w.drew.alloc (.cells ROW 40)) = .ok (goInt (1 : Nat)) ((w.drew.alloc (.cells ROW 40)).setRow w.heap.size L1.toArray) := fun ty dc => by
    rw [hL1]
    exact run_copy_rowz (P := Try.prog) _ 22 22 ty 40 7 w.heap.size (k * 7) (n + 1 - k) dc ⟨vb, vo, none⟩ 1 vc ROW 40 vs ht hinf hR0 1 (by simp only [Nat.min_def]; split <;> omega) hvl
      (fun j v hj => by rw [add_plain, World.cell?_of_block (heap_alloc_old w.drew _ hvw)]; exact hvs j v hj) (by rw [hvl]; omega) h1v
  obtain ⟨C2, hC2⟩ : ∃ C2 : Array Value, C2 = (L1.take (k * 7 + 7) ++ us.drop (k * 7) ++ L1.drop (k * 7 + 7 + (us.drop (k * 7)).length)).toArray := ⟨_, rfl⟩
  have hcpB : ∀ ty dc sc, (Builtin.copy_ #[22, 22] ty #[.slice (some ⟨w.heap.size, (k + 1) * 7, none⟩) (n - k) dc, .slice (some ⟨g, k * 7, none⟩) (n - k) sc]).run Try.prog ((w.drew.alloc (.cells ROW 40)).setRow w.heap.size L1.toArray).drew = .ok (goInt (n - k : Nat)) (((w.drew.alloc (.cells ROW 40)).setRow w.heap.size L1.toArray).drew.setRow w.heap.size C2) := fun ty dc sc => by
    have := run_copy_rowz (P := Try.prog) ((w.drew.alloc (.cells ROW 40)).setRow w.heap.size L1.toArray).drew 22 22 ty 40 7 w.heap.size ((k + 1) * 7) (n - k) dc ⟨g, k * 7, none⟩ (n - k) sc L1.toArray 40 (us.drop (k * 7)) ht hinf (setRow_heap _ w.heap.size ROW _ _ _ hR0) (n - k) (by simp only [Nat.min_def]; split <;> omega) hdl
      (fun j v hj => by
        rw [add_plain]
        have e : ((w.drew.alloc (.cells ROW 40)).setRow w.heap.size L1.toArray).drew.heap[g]? = some (.cells cur 40 (0, 0)) := by
          show ((w.drew.alloc (.cells ROW 40)).setRow w.heap.size L1.toArray).heap[g]? = _
          rw [setRow_other _ _ _ _ (by omega), heap_alloc_old w.drew _ hgs]; exact hg
        exact cell_row e htk (by rwa [List.getElem?_drop] at hj)) (by rw [hdl]; simp only [List.size_toArray, hL1l]; omega) (fun v hv => h1 v (List.mem_of_mem_drop hv))
    rw [show (k + 1) * 7 = k * 7 + 7 by omega] at this ⊢
    rw [hC2]
    exact this
  have hCs : C2.size = G * 7 := by
    rw [hC2]
    simp only [List.size_toArray]
    rw [List.length_append, List.length_append, hdl, List.length_take, List.length_drop, hL1l]; omega
  have hCt : C2.toList.take ((n + 1) * 7) = us.take (k * 7) ++ vs ++ us.drop (k * 7) := by
    have e1 : L1.take (k * 7 + 7) = us.take (k * 7) ++ vs := by
      rw [hL1, hRt]
      have : (us.take (k * 7) ++ vs).length = k * 7 + 7 := by rw [List.length_append, htl, hvl]
      rw [← this]
      exact List.take_left
    rw [hC2, e1]
    show List.take ((n + 1) * 7) (us.take (k * 7) ++ vs ++ us.drop (k * 7) ++ _) = _
    have hlen : (us.take (k * 7) ++ vs ++ us.drop (k * 7)).length = (n + 1) * 7 := by
      simp only [List.length_append, htl, hdl, hvl]; omega
    rw [← hlen]
    exact List.take_left
  have hfin : ∀ b, b < w.heap.size → (((w.drew.alloc (.cells ROW 40)).setRow w.heap.size L1.toArray).drew.setRow w.heap.size C2).heap[b]? = w.heap[b]? := fun b hb => by
    rw [setRow_other _ _ _ _ (by omega)]
    show ((w.drew.alloc (.cells ROW 40)).setRow w.heap.size L1.toArray).heap[b]? = _
    rw [setRow_other _ _ _ _ (by omega), heap_alloc_old w.drew _ hb]; rfl
  have hnew : (((w.drew.alloc (.cells ROW 40)).setRow w.heap.size L1.toArray).drew.setRow w.heap.size C2).heap[w.heap.size]? = some (.cells C2 40 (0, 0)) := setRow_heap _ _ L1.toArray _ _ _ (setRow_heap _ _ ROW _ _ _ hR0)
  have hsize : w.heap.size ≤ (((w.drew.alloc (.cells ROW 40)).setRow w.heap.size L1.toArray).drew.setRow w.heap.size C2).heap.size := Nat.le_of_lt (Array.getElem?_eq_some_iff.1 hnew).1
  have hw1 : IntKind.i64.wrap ((k : Int) + 1) = (k : Int) + 1 := by rw [IntKind.wrap_i64]; omega
  have hb1 : (0 : Int) ≤ (k : Int) + 1 := by omega
  have hin : k ≤ n := by omega
  have htn : ((k : Int) + 1).toNat = k + 1 := by omega
  have hG63 : G ≤ 9223372036854775807 := by unfold maxLen at hGm; omega
  have hGi : ¬ (G = k) := by omega
  have hGim : ¬ (G = k + 1) := by omega
  have hci : ¬ (c = k) := by omega
  have hb3 : (k : Int) ≤ (n : Int) := by omega
  have mixed : Try.prog.follows .mixedOrders = true := by kernel_rfl
  have hcpA : ∀ ty dc, (Builtin.copy_ #[22, 22] ty #[.slice (some ⟨w.heap.size, k * 7, none⟩) (n + 1 - k) dc, .slice (some ⟨vb, vo, none⟩) 1 vc]).run Try.prog (w.alloc (.cells ROW 40)).drew = .ok (goInt (1 : Nat)) ((w.alloc (.cells ROW 40)).drew.setRow w.heap.size L1.toArray) := hcpA
  have hcpB : ∀ ty dc sc, (Builtin.copy_ #[22, 22] ty #[.slice (some ⟨w.heap.size, (k + 1) * 7, none⟩) (n - k) dc, .slice (some ⟨g, k * 7, none⟩) (n - k) sc]).run Try.prog ((w.alloc (.cells ROW 40)).drew.setRow w.heap.size L1.toArray).drew = .ok (goInt (n - k : Nat)) (((w.alloc (.cells ROW 40)).drew.setRow w.heap.size L1.toArray).drew.setRow w.heap.size C2) := hcpB
  generalize L1.toArray = C1 at hcpA hcpB hfin hnew hsize
  have hfin := hide hfin; have hnew := hide hnew; have hCs := hide hCs; have hCt := hide hCt; have hGm := hide hGm; have hsize := hide hsize
  clear hC2 hL1l hRt hRll hL1 hR0 hRl hROW hG hkk hik hold hvw hgs hdl htl hzb hzs hzc hzv hi0 ht hinf h1v hvs hvl h1 htk hus hg
  go_enter Try.func35, Try.ntmps35
  go_wp2_with (first
    | (at_builtin; refine Lib.wpList_append_run _ rfl _ _ _ _ rfl _ _ rfl rfl _ _ (hrz _) ?_)
    | (at_builtin; refine wpList_copy_runI _ rfl _ _ 22 22 rfl _ _ rfl rfl (hcpA _ _) ?_))
  go_region_law_o (refine step_copy_runI rfl _ _ 22 22 rfl _ _ (by simp [Act.eval, Act.put]) (by simp [Act.eval, Act.put]) (hcpB _ _ _) ?_)
  go_wp2
  go_ret
  exact ⟨G, C2, rfl, hGn, hGm.out, hnew.out, hCs.out, hCt.out, hfin.out, rfl, rfl, rfl, hsize.out⟩
end Go.Proofs.Ytchncgdjefbmfaa

namespace Go.Proofs.Ytchncgdjefbmfaa
open Go.RowKit
theorem ins_any (A : Option Addr) (n c k vb vo vc : Nat) (us vs : List Value) (w : World) (hk : k ≤ n) (hnc : n ≤ c) (hcm : c ≤ maxLen) (hn : n + 1 ≤ 34359738368)
  (hrow : c ≠ 0 → ∃ g cur,A = some ⟨g,0,none⟩ ∧ w.heap[g]? = some (.cells cur 40 (0,0)) ∧ cur.size = c * 7 ∧ cur.toList.take (n * 7) = us ∧ vb ≠ g)
  (hus : us.length = n * 7) (h1 : ∀ u ∈ us,u.oneCell' = true) (hvl : vs.length = 7) (hvs : ∀ j u,vs[j]? = some u → w.cell? ⟨vb,vo + j,none⟩ = some u) (h1v : ∀ u ∈ vs,u.oneCell' = true) :
  Calls Try.prog 35 #[.slice A n c, .int .i64 k, .slice (some ⟨vb,vo,none⟩) 1 vc] w fun e w'=>∃ v,e = .returned v ∧ RowOut w w' (blkOf (MR A n c)) 40 7 (n + 1) (us.take (k * 7) ++ vs ++ us.drop (k * 7)) v := by
 obtain ⟨ht,i0,zv,hi0,hzv,hzc,hzs,_,hzb,_⟩ := appT_some (P := Try.prog) (t := 22) (e := 40) (z := 7) (by kernel_rfl)
 have hmx : (maxLen : Nat) ≤ 9223372036854775807 := by unfold maxLen;omega
 have hvl' : vs.length = 1 * i0.size := by rw [hvl,hzs]
 have hva : ∀ j u,vs[j]? = some u → w.cell? ((⟨vb,vo,none⟩ : Addr).add j) = some u := fun j u hj=>by rw [add_plain];exact hvs j u hj
 have hby : (n + 1) * i0.bytes ≤ 140737488355328 := by have := Nat.mul_le_mul hn hzb;omega
 by_cases hkn : k < n
 ·have hc0 : c ≠ 0 := by omega
  obtain ⟨g,cur,rfl,hg,hsz,htk,hne⟩ := hrow hc0
  have hb : blkOf (MR (some ⟨g,0,none⟩) n c) = some g := by simp only [blkOf];rw [if_neg hc0]
  rw [hb]
  by_cases hroom : n + 1 ≤ c
  ·refine (ins_shift g n c k vb vo vc us vs cur w hkn hroom (Nat.le_trans hcm hmx) hg hsz hus htk h1 hne hvl hvs h1v).mono ?_
   rintro e w' ⟨rfl,cur',rfl,h2,h3⟩
   exact ⟨_,rfl,g,c,cur',rfl,hroom,hcm,setRow_heap w.drew g cur _ _ _ hg,h2,h3, .inl rfl,fun b hb hne=>setRow_other w.drew g b _ fun q=>hne (by rw [q]),rfl,rfl,rfl,by simp⟩
  ·refine (ins_grow g n c k vb vo vc us vs cur w hkn (by omega) hnc hn hg hus htk h1 hvl hvs h1v).mono ?_
   rintro e w' ⟨G,cur',rfl,h2,h3,h4,h5,h6,h7,h8,h9,h10,h11⟩
   exact ⟨_,rfl,w.heap.size,G,cur',rfl,h2,h3,h4,h5,h6, .inr (Nat.le_refl _),fun b hb _=>h7 b hb,h8,h9,h10,h11⟩
 ·obtain rfl : k = n := by omega
  have hcells : us.take (k * 7) ++ vs ++ us.drop (k * 7) = us ++ vs := by rw [← hus,List.take_length,List.drop_length,List.append_nil]
  rw [hcells]
  have hnew : ∀ (cs : List Value) (cp : Nat),cs = us → k + 1 ≤ cp → cp ≤ maxLen → (∀ ty,(Builtin.append_ #[22,22] ty #[.slice A k c, .slice (some ⟨vb,vo,none⟩) 1 vc]).run Try.prog w = .ok (.slice (some ⟨w.heap.size,0,none⟩) (k + 1) cp) (w.drew.alloc (.cells (cs.toArray ++ vs.toArray ++ Builtin.zeroCells zv.cells (cp - (k + 1))) 40))) →
    (A = none → k = 0 ∧ c = 0) → Calls Try.prog 35 #[.slice A k c, .int .i64 k, .slice (some ⟨vb,vo,none⟩) 1 vc] w fun e w'=>∃ v,e = .returned v ∧ RowOut w w' (blkOf (MR A k c)) 40 7 (k + 1) (us ++ vs) v := by
   rintro cs cp rfl h2 h3 hrun hnil
   refine (ins_end A k c vb vo vc w _ _ hnil hnc hn hrun).mono ?_
   rintro e w' ⟨rfl,rfl⟩
   refine ⟨_,rfl,w.heap.size,cp,_,rfl,h2,h3,heap_alloc_new w.drew _,?_,?_, .inr (Nat.le_refl _),fun b hb _=>heap_alloc_old w.drew _ hb,rfl,rfl,rfl,by simp⟩
   ·rw [Array.size_append,Array.size_append,size_zeroCells,hzc,hzs]
    simp only [List.size_toArray,hus,hvl]
    omega
   ·simp only [Array.toList_append]
    have : (cs ++ vs).length = (k + 1) * 7 := by rw [List.length_append,hus,hvl];omega
    rw [← this]
    exact List.take_left
  by_cases hc0 : c = 0
  ·have hk0 : k = 0 := by omega
   subst hk0 hc0
   have hu0 : us = [] := List.eq_nil_of_length_eq_zero (by omega)
   cases A with
   |none =>
    refine hnew [] (grownCap w 1 0 40) hu0.symm (grownCap_ge w 1 0 _) (grownCap_le_maxLen w 1 0 _ (by unfold maxLen;omega)) (fun ty=>?_) fun _=>⟨rfl,rfl⟩
    have := run_append_nil (P := Try.prog) w 22 ty 40 i0 zv ht hi0 hzv ⟨vb,vo,none⟩ 1 vc vs hvl' hva (by omega) (by omega) (by omega)
    simpa using this
   |some ad =>
    refine hnew [] (grownCap w 1 0 40) hu0.symm (grownCap_ge w 1 0 _) (grownCap_le_maxLen w 1 0 _ (by unfold maxLen;omega)) (fun ty=>?_) fun q=>by cases q
    have := run_append_grow (P := Try.prog) w 22 ty 40 i0 zv ht hi0 hzv ad 0 0 [] (by simp) (fun j u hj=>by simp at hj) ⟨vb,vo,none⟩ 1 vc vs hvl' hva (by omega) (by omega) (growslice_fits (by omega) (by omega))
    simpa using this
  ·obtain ⟨g,cur,rfl,hg,hsz,htk,hne⟩ := hrow hc0
   have hb : blkOf (MR (some ⟨g,0,none⟩) k c) = some g := by simp only [blkOf];rw [if_neg hc0]
   have hrd : ∀ j u,us[j]? = some u → w.cell? ((⟨g,0,none⟩ : Addr).add j) = some u := fun j u hj=>by rw [add_plain,Nat.zero_add];exact cell_row hg htk hj
   by_cases hroom : k + 1 ≤ c
   ·have hrun : ∀ ty,(Builtin.append_ #[22,22] ty #[.slice (some ⟨g,0,none⟩) k c, .slice (some ⟨vb,vo,none⟩) 1 vc]).run Try.prog w = .ok (.slice (some ⟨g,0,none⟩) (k + 1) c) (w.setRow g (cur.toList.take (k * 7) ++ vs ++ cur.toList.drop (k * 7 + vs.length)).toArray) := fun ty=>by
     have := run_append_room (P := Try.prog) w 22 ty 40 i0 ht hi0 g k c cur hg ⟨vb,vo,none⟩ 1 vc vs hvl' hva h1v hroom (by rw [hvl,hzs];omega)
     rw [hzs] at this
     exact this
    refine (ins_end _ k c vb vo vc w _ _ (fun q=>by cases q) hnc hn hrun).mono ?_
    rintro e w' ⟨rfl,rfl⟩
    rw [hb]
    have hll : cur.toList.length = c * 7 := by rw [Array.length_toList];exact hsz
    refine ⟨_,rfl,g,c,_,rfl,hroom,hcm,setRow_heap w g cur _ _ _ hg,?_,?_, .inl rfl,fun b hb hne=>setRow_other w g b _ fun q=>hne (by rw [q]),rfl,rfl,rfl,by simp⟩
    ·simp only [List.size_toArray,List.length_append,List.length_take,List.length_drop,hll,hvl]
     omega
    ·rw [htk]
     show List.take _ (us ++ vs ++ _) = _
     have : (us ++ vs).length = (k + 1) * 7 := by rw [List.length_append,hus,hvl];omega
     rw [← this]
     exact List.take_left
   ·refine hnew us (grownCap w (k + 1) c 40) rfl (grownCap_ge w (k + 1) c _) (grownCap_le_maxLen w (k + 1) c _ (by unfold maxLen;omega)) (fun ty=>?_) fun q=>by cases q
    exact run_append_grow (P := Try.prog) w 22 ty 40 i0 zv ht hi0 hzv ⟨g,0,none⟩ k c us (by rw [hus,hzs]) hrd ⟨vb,vo,none⟩ 1 vc vs hvl' hva (by omega) (by omega) (growslice_fits (by omega) hby)
theorem ins_ac {i : Nat} {H : List AObj} {es : List AV} {x : AV} {k : Nat} (ho : H[i]? = some ⟨4,40,7,es⟩) (hk : k ≤ es.length) (hn : es.length + 1 ≤ 34359738368) (hlt : es.all (ltA 0) = true) (hx : (cellsOf x).length = 7) :
  AC Try.prog GG 35 [PR i es.length,nA (k : Int),SL [x]] H (Is (SL (es.take k ++ x :: es.drop k)) (H.set i ⟨0,40,7,[]⟩)) := by
 refine ⟨by kernel_rfl,fun w S μ vs hr hg hl hv=>?_⟩
 obtain ⟨v0,v1,v2,rfl⟩ : ∃ v0 v1 v2,vs = [v0,v1,v2] := by
  match vs,hl with
  |[a,b,c],_=>exact ⟨a,b,c,rfl⟩
 obtain ⟨A,c,hμ,rfl,hnc,hcm⟩ := hv 0 _ _ rfl rfl
 obtain ⟨rfl,_⟩ := hv 1 _ _ rfl rfl
 obtain ⟨A2,c2,rfl,hc2,hcm2,hS⟩ := hv 2 _ _ rfl rfl
 obtain ⟨vb,vo,z,rfl,hin⟩ := hS (by simp)
 have hz : z = 7 := by rw [← hx];exact (hin 0 x rfl).1.symm
 subst hz
 obtain ⟨A3,c3,e3,_,_,hall,hc⟩ := (hr.objs i _ _ hμ ho).2.2 rfl
 have e4 : A = A3 ∧ c = c3 := by
  simp only [Value.tuple.injEq,Array.mk.injEq,List.cons.injEq,Value.slice.injEq,and_true] at e3
  exact ⟨e3.1,e3.2.2⟩
 obtain ⟨rfl,rfl⟩ := e4
 obtain ⟨vs,hvr,hvc⟩ := still_cells hr (cs := cellsOf x) fun j y hy=>by
  have := flat_S hin j y (by simpa [flat] using hy)
  exact this
 have hvl : vs.length = 7 := by rw [hvr.1,hx]
 have h1v : ∀ u ∈ vs,u.oneCell' = true := by
  intro u hu
  obtain ⟨j,hj⟩ := List.getElem?_of_mem hu
  have hlt : j < (cellsOf x).length := by rw [← hvr.1];exact (List.getElem?_eq_some_iff.1 hj).1
  exact (hvr.2 j _ u (List.getElem?_eq_getElem hlt) hj).1
 have hfl := flatE_length hall
 obtain ⟨us,hur,hrow⟩ : ∃ us,reps S [] (flat es) us ∧ (c ≠ 0 → ∃ g cur,A = some ⟨g,0,none⟩ ∧ w.heap[g]? = some (.cells cur 40 (0,0)) ∧ cur.size = c * 7 ∧ cur.toList.take (es.length * 7) = us ∧ vb ≠ g) := by
  by_cases hc0 : c = 0
  ·have : es = [] := List.eq_nil_of_length_eq_zero (by omega)
   subst this
   exact ⟨[],⟨rfl,fun j d u hd=>by simp [flat] at hd⟩,fun q=>absurd hc0 q⟩
  ·obtain ⟨b,cs,rfl,h5,h6,h7⟩ := hc hc0
   refine ⟨cs.toList.take (es.length * 7),⟨h7.1,fun j d u hd hu=>⟨(h7.2 j d u hd hu).1,?_⟩⟩,fun _=>⟨b,cs,rfl,h5,h6,rfl,fun q=>?_⟩⟩
   ·have hm : lt1 0 d = true := by
     obtain ⟨e,he,hy⟩ := List.mem_flatMap.1 (List.mem_of_getElem? hd)
     exact cells_lt (List.all_eq_true.1 hlt e he) hy
    have := (h7.2 j d u hd hu).2.take hm
    rwa [List.take_zero] at this
   ·subst q
    have h0 : 0 < (cellsOf x).length := by omega
    have hs := (hin 0 x rfl).2 0 _ (List.getElem?_eq_getElem h0)
    have hbk : blkOf (MR (some ⟨vb,0,none⟩) es.length c) = some vb := by simp only [blkOf];rw [if_neg hc0]
    have := (hr.apart i _ _ vb hμ ho (by simp) hbk _ _ hs).1
    simp at this
 have hul : us.length = es.length * 7 := by rw [hur.1,hfl]
 have h1 : ∀ u ∈ us,u.oneCell' = true := by
  intro u hu
  obtain ⟨j,hj⟩ := List.getElem?_of_mem hu
  have hlt : j < (flat es).length := by rw [← hur.1];exact (List.getElem?_eq_some_iff.1 hj).1
  exact (hur.2 j _ u (List.getElem?_eq_getElem hlt) hj).1
 refine (ins_any A es.length c k vb vo c2 us vs w hk hnc hcm hn hrow hul h1 hvl (fun j u hj=>by have := hvc j u hj;rwa [add_plain] at this) h1v).mono ?_
 rintro e w' ⟨v,rfl,hout⟩
 have hall' : allC 7 (es.take k ++ x :: es.drop k) := by
  intro d hd
  rcases List.mem_append.1 hd with h|h
  ·exact hall d (List.mem_of_mem_take h)
  ·rcases List.mem_cons.1 h with rfl|h
   ·exact hx
   ·exact hall d (List.mem_of_mem_drop h)
 have hf1 : flat (es.take k) = (flat es).take (k * 7) := by
  have h2 : flat es = flat (es.take k) ++ flat (es.drop k) := by rw [← flat_append,List.take_append_drop]
  have h3 : (flat (es.take k)).length = k * 7 := by rw [flatE_length (fun d hd=>hall d (List.mem_of_mem_take hd)),List.length_take,Nat.min_eq_left hk]
  rw [h2,← h3]
  exact List.take_left.symm
 have hf2 : flat (es.drop k) = (flat es).drop (k * 7) := by
  have h2 : flat es = flat (es.take k) ++ flat (es.drop k) := by rw [← flat_append,List.take_append_drop]
  have h3 : (flat (es.take k)).length = k * 7 := by rw [flatE_length (fun d hd=>hall d (List.mem_of_mem_take hd)),List.length_take,Nat.min_eq_left hk]
  rw [h2,← h3]
  exact List.drop_left.symm
 have hcells : reps S [] (flat (es.take k ++ x :: es.drop k)) (us.take (k * 7) ++ vs ++ us.drop (k * 7)) := by
  have e : flat (es.take k ++ x :: es.drop k) = (flat es).take (k * 7) ++ cellsOf x ++ (flat es).drop (k * 7) := by
   rw [flat_append,hf1,← hf2]
   simp [flat,List.append_assoc]
  rw [e]
  exact (hur.takeC (k * 7)).appC hvr |>.appC (hur.dropC (k * 7))
 have hlen : (es.take k ++ x :: es.drop k).length = es.length + 1 := by
  rw [List.length_append,List.length_cons,List.length_take,List.length_drop];omega
 rw [← hlen] at hout
 exact row_post hr hμ ho rfl (by omega) (by simp) hall' hcells hout
noncomputable def slices_Insert_Last_t (m : Nat) : List AV → List AObj → RO
 |[.slice [] [.held (.inr (.inl (i,n)))], .held (.inl (.int .i64 k)), .slice [x] []],H=>(match H[i]? with
  |some o=>whenE (decide (o.k = 4) && decide (o.e = 40) && decide (o.z = 7) && decide (n = o.c.length) && decide (0 ≤ k) && decide (k ≤ n) && decide (n + 1 ≤ 34359738368) && o.c.all (ltA 0) && decide ((cellsOf x).length = 7)) (some (SL (o.c.take k.toNat ++ x :: o.c.drop k.toNat),H.set i ⟨0,40,7,[]⟩))
  |none=>none)
 |_,_=>none
theorem slices_Insert_Last_ok (m : Nat) : ∀ args H X H',slices_Insert_Last_t m args H = some (X,H') → AC Try.prog GG 35 args H (Is X H') := by
 intro args H X H' h
 unfold slices_Insert_Last_t at h
 split at h
 ·rename_i i n k x
  split at h
  ·rename_i o ho
   obtain ⟨h1,h2⟩ := whenE_some h
   simp only [Bool.and_eq_true,decide_eq_true_eq] at h1
   obtain ⟨⟨⟨⟨⟨⟨⟨⟨q1,q2⟩,q3⟩,q4⟩,q5⟩,q6⟩,q7⟩,q8⟩,q9⟩ := h1
   obtain ⟨ok,oe,oz,oc⟩ := o
   dsimp only at q1 q2 q3 q4 q8 h2
   subst q1 q2 q3 q4
   obtain ⟨kn,rfl⟩ : ∃ kn : Nat,k = kn := ⟨k.toNat,by omega⟩
   cases h2
   exact ins_ac ho (by omega) q7 q8 q9
  ·cases h
 ·cases h
theorem slices_Insert_Last_e (m : Nat) {i : Nat} {H : List AObj} {es : List AV} {x : AV} {k : Nat} (ho : H[i]? = some ⟨4,40,7,es⟩) (hk : k ≤ es.length) (hn : es.length + 1 ≤ 34359738368) (hlt : es.all (ltA 0) = true) (hx : (cellsOf x).length = 7) :
  slices_Insert_Last_t m [PR i es.length,nA (k : Int),SL [x]] H = some (SL (es.take k ++ x :: es.drop k),H.set i ⟨0,40,7,[]⟩) := by
 show (match H[i]? with|some o=>_|none=>none) = _
 rw [ho]
 dsimp only
 have hk' : (k : Int) ≤ (es.length : Int) := by omega
 have h0 : (0 : Int) ≤ (k : Int) := by omega
 simp [whenE,hk',hn,hlt,hx]
theorem clone4_cons (x : AV) (es : List AV) (H : List AObj) (hz : allCE 7 (x :: es) = true) (hl : (x :: es).length ≤ 34359738368) :
  AC Try.prog GG 34 [SL (x :: es)] H (Is (PR H.length (x :: es).length) (H ++ [⟨4,40,7,x :: es⟩])) := by
 refine ⟨by kernel_rfl,fun w S μ vs hr hg hl' hv=>?_⟩
 obtain ⟨v,rfl⟩ : ∃ v,vs = [v] := by
  match vs,hl' with
  |[v],_=>exact ⟨v,rfl⟩
 have hall : allC 7 (x :: es) := fun d hd=>by
  have := List.all_eq_true.1 hz d hd
  simpa using this
 generalize hE : x :: es = l at *
 have hne : l ≠ [] := by rw [← hE];simp
 have hpos : 0 < l.length := List.length_pos_iff.2 hne
 obtain ⟨A,c,rfl,hc1,hc2,hS⟩ := hv 0 _ _ rfl rfl
 obtain ⟨b,o,z,rfl,hin⟩ := hS hne
 have hz7 : z = 7 := by
  obtain ⟨d,hd⟩ := List.exists_mem_of_length_pos (List.length_pos_iff.2 hne)
  rw [← hin.allC d hd,hall d hd]
 subst hz7
 obtain ⟨news,hnr,hnc⟩ := still_cells hr (cs := flat l) fun j y hy=>flat_S hin j y hy
 have hnl : news.length = l.length * 7 := by rw [hnr.1,flatE_length hall]
 have hbw : b < w.heap.size := by
  have h0 : 0 < (flat l).length := by rw [flatE_length hall];omega
  exact hr.still_lt (flat_S hin 0 _ (List.getElem?_eq_getElem h0))
 obtain ⟨ht,i0,zv,hi0,hzv,hzc,hzs,_,hzb,_⟩ := appT_some (P := Try.prog) (t := 22) (e := 40) (z := 7) (by kernel_rfl)
 have hrun : ∀ (o0 : Obj) ty,(Builtin.append_ #[22,22] ty #[.slice (some ⟨w.heap.size,0,none⟩) 0 0, .slice (some ⟨b,o,none⟩) l.length c]).run Try.prog (w.alloc o0) = .ok (.slice (some ⟨w.heap.size + 1,0,none⟩) l.length (grownCap (w.alloc o0) l.length 0 40)) ((w.alloc o0).drew.alloc (.cells (news.toArray ++ Builtin.zeroCells zv.cells (grownCap (w.alloc o0) l.length 0 40 - l.length)) 40)) := fun o0 ty=>by
  have := run_append_grow (P := Try.prog) (w.alloc o0) 22 ty 40 i0 zv ht hi0 hzv ⟨w.heap.size,0,none⟩ 0 0 [] (by simp) (fun j u hj=>by simp at hj) ⟨b,o,none⟩ l.length c news (by rw [hnl,hzs]) (fun j u hj=>by
   rw [add_plain,World.cell?_of_block (heap_alloc_old w _ hbw)]
   have := hnc j u hj
   rwa [add_plain] at this) (by omega) (by omega) (growslice_fits (by omega) (by rw [Nat.zero_add];have := Nat.mul_le_mul hl hzb;omega))
  simpa using this
 have hq : ∀ w,(binOp .eql 22 (.slice (some ⟨b,o,none⟩) l.length c) (.slice none 0 0)).run Try.prog w = .ok (.bool false) w := fun w=>by
  simp only [binOp]
  rw [Sem.run_bind,run_equal_slice_nil (P := Try.prog) w _ _ (some ⟨b,o,none⟩) l.length c Try.underlying22]
  rfl
 have hfin : ∀ o0,CPost w S μ H (Is (PR H.length l.length) (H ++ [⟨4,40,7,l⟩])) (.returned (.slice (some ⟨w.heap.size + 1,0,none⟩) l.length (grownCap (w.alloc o0) l.length 0 40))) ((w.alloc o0).drew.alloc (.cells (news.toArray ++ Builtin.zeroCells zv.cells (grownCap (w.alloc o0) l.length 0 40 - l.length)) 40)) := fun o0=>by
  refine row_new hr hall hnr ((((Below.refl _ w).alloc (Nat.le_refl _) o0).drew).alloc (by simp) _) (by omega) (grownCap_ge _ l.length 0 _) (grownCap_le_maxLen _ l.length 0 _ (by unfold maxLen;omega)) (cur := (news.toArray ++ Builtin.zeroCells zv.cells (grownCap (w.alloc o0) l.length 0 40 - l.length))) ?_ ?_ ?_
  ·have := heap_alloc_new (w.alloc o0).drew (.cells (news.toArray ++ Builtin.zeroCells zv.cells (grownCap (w.alloc o0) l.length 0 40 - l.length)) 40)
   simpa using this
  ·have := grownCap_ge (w.alloc o0) l.length 0 40
   rw [Array.size_append,size_zeroCells,hzc,hzs]
   simp only [List.size_toArray,hnl]
   omega
  ·simp only [Array.toList_append]
   rw [← hnl]
   exact List.take_left
 have hrun := hrun (.cells #[] 40)
 have hfin := hfin (.cells #[] 40)
 generalize (news.toArray ++ Builtin.zeroCells zv.cells (grownCap (w.alloc (.cells #[] 40)) l.length 0 40 - l.length)) = ROW at hrun hfin
 clear hnr hnc hnl hzv hzc hzs hzb hi0 ht hin hS hE hall hz hv hr hg
 go_enter Try.func34,Try.ntmps34
 go_wp2_with (at_builtin;refine Lib.wpList_append_run _ rfl _ _ _ _ rfl _ _ rfl rfl _ _ (hrun _) ?_)
 go_ret
 exact hfin
theorem clone4_nil (H : List AObj) : AC Try.prog GG 34 [SL []] H (Is (PR H.length 0) (H ++ [⟨4,40,7,[]⟩])) := by
 refine ⟨by kernel_rfl,fun w S μ vs hr hg hl hv=>?_⟩
 obtain ⟨v,rfl⟩ : ∃ v,vs = [v] := by
  match vs,hl with
  |[v],_=>exact ⟨v,rfl⟩
 obtain ⟨A,c,rfl,_,_,_⟩ := hv 0 _ _ rfl rfl
 have fin : ∀ A' w',Below w.heap.size w w' → CPost w S μ H (Is (PR H.length 0) (H ++ [⟨4,40,7,[]⟩])) (.returned (.slice A' 0 0)) w' := by
  intro A' w' hb
  have hbl : blkOf (MR A' 0 0) = none := by cases A' <;> simp [blkOf]
  obtain ⟨h1,h2⟩ := hr.grow (S' := S) hb (fun _ _ _ q=>q) (fun _ _ _ q=>.inl q) (fun b j d q hb'=>absurd (hr.still_lt q) (by omega))
  have h3 : Rel w' S (μ ++ [MR A' 0 0]) (H ++ [⟨4,40,7,[]⟩]) := by
   refine h1.add (.inr (.inr (.inr rfl))) ⟨fun h=>by simp at h,fun h=>by simp at h,fun _=>⟨A',0,rfl,Nat.le_refl _,Nat.zero_le _,fun d hd=>by simp at hd,fun q=>absurd rfl q⟩⟩ fun b hb=>?_
   rw [hbl] at hb;cases hb
  refine ⟨_,_,_,S,_,rfl,⟨rfl,rfl⟩,h3,⟨A',0,by rw [← hr.len];simp,rfl,Nat.le_refl _,Nat.zero_le _⟩,h2.add hr.len fun b hb=>?_⟩
  rw [hbl] at hb;cases hb
 cases A with
 |none =>
  have hq : ∀ w,(binOp .eql 22 (.slice none 0 c) (.slice none 0 0)).run Try.prog w = .ok (.bool true) w := fun w=>by
   simp only [binOp]
   rw [Sem.run_bind,run_equal_slice_nil (P := Try.prog) w _ _ none 0 c Try.underlying22]
   rfl
  go_enter Try.func34,Try.ntmps34
  go_wp2
  go_ret
  exact fin none _ (Below.refl _ _)
 |some a =>
  have hq : ∀ w,(binOp .eql 22 (.slice (some a) 0 c) (.slice none 0 0)).run Try.prog w = .ok (.bool false) w := fun w=>by
   simp only [binOp]
   rw [Sem.run_bind,run_equal_slice_nil (P := Try.prog) w _ _ (some a) 0 c Try.underlying22]
   rfl
  go_enter Try.func34,Try.ntmps34
  go_wp2
  go_ret
  exact fin _ _ ((Below.refl _ w).alloc (Nat.le_refl _) _)
noncomputable def slices_Clone_Last_t (m : Nat) : List AV → Nat → RO
 |[.slice es []],n=>whenE (allCE 7 es && decide (es.length ≤ 34359738368)) (some (PR n es.length,[⟨4,40,7,es⟩]))
 |_,_=>none
theorem slices_Clone_Last_ok (m : Nat) : ∀ args H X Y,slices_Clone_Last_t m args H.length = some (X,Y) → AC Try.prog GG 34 args H (Is X (H ++ Y)) := by
 intro args H X Y h
 unfold slices_Clone_Last_t at h
 split at h
 ·rename_i es
  obtain ⟨h1,h2⟩ := whenE_some h
  rw [Bool.and_eq_true,decide_eq_true_eq] at h1
  cases h2
  cases es with
  |nil=>exact clone4_nil H
  |cons x es=>exact clone4_cons x es H h1.1 h1.2
 ·cases h
theorem slices_Clone_Last_e (m n : Nat) (es : List AV) (hz : allCE 7 es = true) (hl : es.length ≤ 34359738368) : slices_Clone_Last_t m [SL es] n = some (PR n es.length,[⟨4,40,7,es⟩]) := by
 show whenE (allCE 7 es && decide (es.length ≤ 34359738368)) _ = _
 rw [hz,show decide (es.length ≤ 34359738368) = true by simpa using hl]
 rfl
end Go.Proofs.Ytchncgdjefbmfaa

namespace Go.Proofs.Ytchncgdjefbmfaa
open Go.RowKit
theorem put_ac (v : Nat) (hv : v < 18446744073709551616) (H : List AObj) : AC Try.prog GG 46 [V (.int .u64 v)] H (Is (OW H.length (put v).length) (H ++ [⟨2,5,1,(put v).map fun b=>V (cB b)⟩])) := by
 refine ⟨by kernel_rfl,fun w S μ vs hr hg hl hv'=>?_⟩
 obtain ⟨v0,rfl⟩ : ∃ v,vs = [v] := by
  match vs,hl with
  |[v],_=>exact ⟨v,rfl⟩
 obtain ⟨rfl,_⟩ := hv' 0 _ _ rfl rfl
 refine (put_any (v : Int) (by omega) (by omega) w).mono ?_
 rintro e w' ⟨g,cap,rfl,hown,hb⟩
 rw [Int.toNat_natCast] at hown ⊢
 have hl : ((put v).map fun b=>V (cB b)).length = (put v).length := by simp
 rw [← hl] at hown ⊢
 exact own_cpost hr hb (allC_by _) (reps_by S [] (put v)) hown
noncomputable def varint_Put_t (m : Nat) : List AV → Nat → RO
 |[.held (.inl (.int .u64 v))],n=>whenE (decide (0 ≤ v) && decide (v < 18446744073709551616)) (some (OW n (put v.toNat).length,[⟨2,5,1,(put v.toNat).map fun b=>V (cB b)⟩]))
 |_,_=>none
theorem varint_Put_ok (m : Nat) : ∀ args H X Y,varint_Put_t m args H.length = some (X,Y) → AC Try.prog GG 46 args H (Is X (H ++ Y)) := by
 intro args H X Y h
 unfold varint_Put_t at h
 split at h
 ·rename_i v
  obtain ⟨h1,h2⟩ := whenE_some h
  rw [Bool.and_eq_true,decide_eq_true_eq,decide_eq_true_eq] at h1
  obtain ⟨n,rfl⟩ : ∃ n : Nat,v = n := ⟨v.toNat,by omega⟩
  cases h2
  exact put_ac n (by omega) H
 ·cases h
theorem varint_Put_e (m n v : Nat) (hv : v < 18446744073709551616) : varint_Put_t m [V (.int .u64 v)] n = some (OW n (put v).length,[⟨2,5,1,(put v).map fun b=>V (cB b)⟩]) := by
 have h1 : decide (0 ≤ (v : Int)) = true := decide_eq_true (by omega)
 have h2 : decide ((v : Int) < 18446744073709551616) = true := decide_eq_true (by omega)
 have e : varint_Put_t m [V (.int .u64 v)] n = whenE (decide (0 ≤ (v : Int)) && decide ((v : Int) < 18446744073709551616)) (some (OW n (put (v : Int).toNat).length,[⟨2,5,1,(put (v : Int).toNat).map fun b=>V (cB b)⟩])) := by
  unfold varint_Put_t
  rfl
 rw [e,h1,h2,Int.toNat_natCast]
 exact whenE_t
theorem sAi {a b : Bytes} (h : sA a = sA b) : a = b := by
 simp only [DataW.held.injEq,Sum.inl.injEq,Value.string.injEq,ByteArray.mk.injEq] at h
 simpa using h
theorem arg3_inj {k i k' i' : Int} {s s' : Bytes} (h : ([.agg [nA k,nA i,sA s]] : List AV) = [.agg [nA k',nA i',sA s']]) : k = k' ∧ i = i' ∧ s = s' := by
 simp only [List.cons.injEq,DataW.agg.injEq,and_true] at h
 obtain ⟨h1,h2,h3⟩ := h
 refine ⟨?_,?_,sAi h3⟩
 ·simpa using h1
 ·simpa using h2
noncomputable def plenumref07_May_t (m : Nat) : List AV → RO := orac (ι := Int × Int × Bytes) (fun ⟨k,i,s⟩=>[.agg [nA k,nA i,sA s]]) (fun ⟨k,i,s⟩=>bA (valB k i s)) (fun _=>True)
theorem plenumref07_May_ok (m : Nat) : ∀ args X H',plenumref07_May_t m args = some (X,H') → ACp Try.prog GG 53 args X := orac_ok (by
 rintro ⟨k,i,s⟩ hl
 exact cl_rvalmay k i s)
theorem plenumref07_May_e (m : Nat) (k i : Int) (s : Bytes) : plenumref07_May_t m [.agg [nA k,nA i,sA s]] = some (bA (valB k i s),[]) := orac_eq (ι := Int × Int × Bytes) (by
 rintro ⟨k1,i1,s1⟩ ⟨k2,i2,s2⟩ h
 obtain ⟨rfl,rfl,rfl⟩ := arg3_inj h
 rfl) (i := (k,i,s)) trivial
noncomputable def txn_EncodeResult_t (m : Nat) : List AV → RO := orac (ι := Int × Int × Int × Bytes × Int) (fun ⟨c,k,i,s,v⟩=>[.agg [nA c,nA k,nA i,sA s,nA v]]) (fun ⟨c,k,i,s,v⟩=>byA (encRes c k i s v)) (fun ⟨c,k,i,s,v⟩=>-9223372036854775808 ≤ i ∧ i < 9223372036854775808)
theorem txn_EncodeResult_ok (m : Nat) : ∀ args X H',txn_EncodeResult_t m args = some (X,H') → ACp Try.prog GG 27 args X := orac_ok (by
 rintro ⟨c,k,i,s,v⟩ hl
 exact cl_encres c k i s v hl.1 hl.2)
theorem arg5_inj {c k i v c' k' i' v' : Int} {s s' : Bytes} (h : ([.agg [nA c,nA k,nA i,sA s,nA v]] : List AV) = [.agg [nA c',nA k',nA i',sA s',nA v']]) : c = c' ∧ k = k' ∧ i = i' ∧ s = s' ∧ v = v' := by
 simp only [List.cons.injEq,DataW.agg.injEq,and_true] at h
 obtain ⟨h0,h1,h2,h3,h4⟩ := h
 exact ⟨by simpa using h0,by simpa using h1,by simpa using h2,sAi h3,by simpa using h4⟩
theorem txn_EncodeResult_e (m : Nat) (c k i : Int) (s : Bytes) (v : Int) (hi : -9223372036854775808 ≤ i ∧ i < 9223372036854775808) : txn_EncodeResult_t m [.agg [nA c,nA k,nA i,sA s,nA v]] = some (byA (encRes c k i s v),[]) := orac_eq (ι := Int × Int × Int × Bytes × Int) (by
 rintro ⟨c1,k1,i1,s1,v1⟩ ⟨c2,k2,i2,s2,v2⟩ h
 obtain ⟨rfl,rfl,rfl,rfl,rfl⟩ := arg5_inj h
 rfl) (i := (c,k,i,s,v)) hi
end Go.Proofs.Ytchncgdjefbmfaa

namespace Go.Proofs.Ytchncgdjefbmfaa
open Go.RowKit
def ty_api_Last : TypeId := 40
def ty_api_Result : TypeId := 32
def ty_api_Txn : TypeId := 57
def ty_int : TypeId := 3
def ty_sl_api_Last : TypeId := 22
def ty_uint8 : TypeId := 5
def zc_api_Last : List AV := [(V (.int .i64 0)),(V (.int .i64 0)),(V (.int .i64 0)),(V (.int .i64 0)),(V (.int .i64 0)),(V (.string ⟨#[]⟩)),(V (.int .i64 0))]
def zc_api_Result : List AV := [(V (.int .i64 0)),(V (.int .i64 0)),(V (.int .i64 0)),(V (.string ⟨#[]⟩)),(V (.int .i64 0))]
def zc_api_Txn : List AV := [(V (.int .i64 0)),(V (.int .i64 0)),(V (.slice none 0 0)),(V (.slice none 0 0)),(V (.string ⟨#[]⟩)),(V (.int .i64 0))]
def pl_api_Last : List (Nat × Nat) := [(0,1),(1,1),(2,5)]
def pl_api_Result : List (Nat × Nat) := [(0,1),(1,3),(4,1)]
def pl_api_Txn : List (Nat × Nat) := [(0,1),(1,1),(2,2),(4,1),(5,1)]
noncomputable def replies_find_1_c : Code := (Try.f55.body).getD .skip
def replies_find_1_h : Hint := (.two .n (.two .n .n))
noncomputable def replies_find_1_env (m : Nat) : Env := []
noncomputable abbrev replies_find_1_fin (n0 : Nat) : KO (AV × List AObj) := keepFK Try.prog n0 [.tmp 4]
noncomputable def replies_find_1 (m : Nat) (t0 t1 t2 : AV) (H : List AObj) : RO := exec Try.prog GG (replies_find_1_env m) m ⟨12,[]⟩ replies_find_1_c replies_find_1_h ⟨H,argsT 0 [t0,t1,t2]⟩ (replies_find_1_fin H.length)
theorem replies_find_1_eq (m : Nat) (t0 t1 t2 : AV) (H : List AObj) : replies_find_1 m t0 t1 t2 H =
 loadE 1 H t1 fun t5 =>
 idxSE 9 H t5 t0 fun t7 =>
 fieldE (some (0,1)) t7 fun t8 =>
 loadE 1 H t8 fun t9 =>
 loadE 1 H t2 fun t10 =>
 binE none false false .geq t9 t10 fun t11 =>
 keepK H.length H (ro H t11) := by
 refine (keepX Try.prog GG (replies_find_1_env m) m ⟨12,[]⟩ H.length replies_find_1_c replies_find_1_h ⟨H,argsT 0 [t0,t1,t2]⟩ [.tmp 4]).trans ?_
 kernel_rfl
noncomputable def replies_find_1_t (m : Nat) : List AV → List AObj → RO|[t0,t1,t2],H=>replies_find_1 m t0 t1 t2 H|_,_=>none
theorem replies_find_1_ok (m : Nat) : ∀ args H X H',replies_find_1_t m args H = some (X,H') → AC Try.prog GG 55 args H (Is X H') := by
 intro args H X H' h
 unfold replies_find_1_t at h
 split at h
 ·exact keep_okK MIX (by intro f e h;cases h) (f := 55) (c := replies_find_1_c) Try.func55 rfl (by kernel_rfl) _ rfl Try.ntmps55 (Nat.le_of_ble_eq_true rfl) replies_find_1_h h
 ·cases h
noncomputable def sort_Search_c : Code := (Try.f54.body).getD .skip
def sort_Search_h : Hint := (.two .n (.two .n (.join [5] (.one (.lp [] [1,5,6] [5] (.two (.two .n (.two .n .n)) (.one (.two .n (.two .n (.two .n .n))))))) (.two .n .n))))
noncomputable def sort_Search_env (m : Nat) : Env := [(55, .keep (replies_find_1_t m))]
noncomputable abbrev sort_Search_fin (n0 : Nat) : KO (AV × List AObj) := keepFK Try.prog n0 [.tmp 4]
noncomputable def sort_Search_r1 (m : Nat) (n0k : Nat) (s : ASt) : RO := joinW Try.prog GG (sort_Search_env m) m ⟨26,[]⟩ (cdR (cdR (cdR sort_Search_c))) sort_Search_h.r.r.r s (sort_Search_fin n0k)
noncomputable def sort_Search_b1 (m : Nat) (s : ASt) (kc : ASt → RO) (kx : KO (AV × List AObj)) : RO := bodyW Try.prog GG (sort_Search_env m) m ⟨26,[]⟩ (cdL (cdL (cdL (cdR (cdR sort_Search_c))))) sort_Search_h.r.r.l.c.c [1,5,6] [5] s kc kx
noncomputable def sort_Search (m : Nat) (t0 t1 : AV) (H : List AObj) : RO := exec Try.prog GG (sort_Search_env m) m ⟨26,[]⟩ sort_Search_c sort_Search_h ⟨H,argsT 0 [t0,t1]⟩ (sort_Search_fin H.length)
theorem sort_Search_r1_eq (m : Nat) (n0k : Nat) (H : List AObj) (t5 : AV) : sort_Search_r1 m n0k ⟨H,[(5,t5)]⟩ =
 keepK n0k H (ro H t5) := by
 refine (joinW_eq _ _ _ _ _ _ _ _ _).trans ?_
 kernel_rfl
theorem sort_Search_b1_eq (m : Nat) (H : List AObj) (t1 t5 t6 : AV) (kc : ASt → RO) (kx : KO (AV × List AObj)) : sort_Search_b1 m ⟨H,[(1,t1),(5,t5),(6,t6)]⟩ kc kx =
 binE none false false .lss t5 t6 fun t11 =>
 condE t11 (
  binE none false false .add t5 t6 fun t14 =>
  convE false (some .u64) true false false (ro H t14) fun t15 =>
  binE none false false .shr t15 (V (.int .u64 1)) fun t16 =>
  convE false (some .i64) true false false (ro H t16) fun t17 =>
  callVE (sort_Search_env m) t1 [t17] H fun t20 H2 =>
  unE .not t20 fun t21 =>
  condE t21 (
   binE none false false .add t17 (V (.int .i64 1)) fun t23 =>
   backE H.length H2 [(1,t1),(5,t23),(6,t6)] kc) (
   backE H.length H2 [(1,t1),(5,t5),(6,t17)] kc)) (
  kx (.exit 0) ⟨H,[(5,t5)]⟩) := by
 refine (bodyW_eq _ _ _ _ _ _ _ _ _ _ _ _).trans ?_
 kernel_rfl
theorem sort_Search_eq (m : Nat) (t0 t1 : AV) (H : List AObj) : sort_Search m t0 t1 H =
 iterC m (sort_Search_b1 m) ⟨H,[(1,t1),(5,(V (.int .i64 0))),(6,t0)]⟩ (blockX 0 (seqX (fun s=>sort_Search_r1 m H.length ⟨s.H,[(5,gt s.T 5)]⟩) (sort_Search_fin H.length))) := by
 refine (keepX Try.prog GG (sort_Search_env m) m ⟨26,[]⟩ H.length sort_Search_c sort_Search_h ⟨H,argsT 0 [t0,t1]⟩ [.tmp 4]).trans ?_
 kernel_rfl
noncomputable def sort_Search_t (m : Nat) : List AV → List AObj → RO|[t0,t1],H=>sort_Search m t0 t1 H|_,_=>none
theorem sort_Search_ok (m : Nat) : ∀ args H X H',sort_Search_t m args H = some (X,H') → AC Try.prog GG 54 args H (Is X H') := by
 intro args H X H' h
 unfold sort_Search_t at h
 split at h
 ·exact keep_okK MIX (by
  intro f e h
  simp only [sort_Search_env,Prod.mk.injEq,List.mem_cons,List.not_mem_nil,or_false] at h
  obtain ⟨rfl,rfl⟩ := h
  ·exact replies_find_1_ok m) (f := 54) (c := sort_Search_c) Try.func54 rfl (by kernel_rfl) _ rfl Try.ntmps54 (Nat.le_of_ble_eq_true rfl) sort_Search_h h
 ·cases h
noncomputable def replies_could_c : Code := (Try.f26.body).getD .skip
def replies_could_h : Hint := (.two .n (.two .n .n))
noncomputable def replies_could_env (m : Nat) : Env := []
noncomputable abbrev replies_could_fin : KO (AV × List AObj) := tellFK Try.prog [.tmp 4]
noncomputable def replies_could (m : Nat) (t0 t1 : AV) : RO := exec Try.prog GG (replies_could_env m) m ⟨19,[]⟩ replies_could_c replies_could_h ⟨[],argsT 0 [t0,t1]⟩ (replies_could_fin)
theorem replies_could_eq (m : Nat) (t0 t1 : AV) : replies_could m t0 t1 =
 binE none false false .geq t0 (V (.int .i64 0)) fun t6 =>
 condE t6 (
  binE none false false .lss t0 (V (.int .i64 256)) fun t9 =>
  condE t9 (
  binE none false false .geq t1 (V (.int .i64 1)) fun t13 =>
  condE t13 (
  binE none false false .leq t1 (V (.int .i64 2147483647)) fun t17 =>
  tellK [] (ro [] t17)) (
  tellK [] (ro [] (V (.bool false))))) (
  tellK [] (ro [] (V (.bool false))))) (
  tellK [] (ro [] (V (.bool false)))) := by
 refine (tellX _ _ _ _ _ _ _ _ _).trans ?_
 kernel_rfl
noncomputable def replies_could_t (m : Nat) : List AV → RO|[t0,t1]=>replies_could m t0 t1|_=>none
theorem replies_could_ok (m : Nat) : ∀ args X H',replies_could_t m args = some (X,H') → ACp Try.prog GG 26 args X := by
 intro args X H' h
 unfold replies_could_t at h
 split at h
 ·exact tell_okK MIX (by intro f e h;cases h) (f := 26) (c := replies_could_c) Try.func26 rfl (by kernel_rfl) _ rfl Try.ntmps26 (Nat.le_of_ble_eq_true rfl) replies_could_h h
 ·cases h
noncomputable def replies_Check_c : Code := (Try.f9.body).getD .skip
def replies_Check_h : Hint := (.two .n (.join [] (.two .n (.one (.lp [] [0,6,7,8] [2,3] (.two .n (.two (.two .n .n) (.join [0,6,7,8] (.one (.two .n (.one (.join [0,4,5,6,7,8,13] .n (.two (.two .n .n) (.join [0,4,6,7,8,28] .n (.two (.two .n .n) .n))))))) .n)))))) (.two .n .n)))
noncomputable def replies_Check_env (m : Nat) : Env := [(26, .tell (replies_could_t m)),(27, .tell (txn_EncodeResult_t m))]
noncomputable abbrev replies_Check_fin : KO (AV × List AObj) := tellFK Try.prog [.tmp 2, .tmp 3]
noncomputable def replies_Check_r5 (m : Nat) (n0 : Nat) (kc : ASt → RO) (kx : KO (AV × List AObj)) (s : ASt) : RO := joinW Try.prog GG (replies_Check_env m) m ⟨44,[]⟩ (cdR (cdR (cdR (cdL (cdL (cdR (cdL (cdR replies_Check_c)))))))) replies_Check_h.r.l.r.c.c.r.r.r s (backW n0 [0,6,7,8] [2,3] kc kx)
noncomputable def replies_Check_r4 (m : Nat) (n0 : Nat) (kc : ASt → RO) (kx : KO (AV × List AObj)) (s : ASt) : RO := joinW Try.prog GG (replies_Check_env m) m ⟨44,[]⟩ (cdR (cdR (cdR (cdL (cdL (cdR (cdL (cdR replies_Check_c)))))))) replies_Check_h.r.l.r.c.c.r.r.r s (backW n0 [0,6,7,8] [2,3] kc kx)
noncomputable def replies_Check_r3 (m : Nat) (n0 : Nat) (kc : ASt → RO) (kx : KO (AV × List AObj)) (s : ASt) : RO := joinW Try.prog GG (replies_Check_env m) m ⟨44,[]⟩ (cdR (cdR (cdR (cdL (cdR (cdL (cdL (cdR (cdR (cdL (cdL (cdR (cdL (cdR replies_Check_c)))))))))))))) replies_Check_h.r.l.r.c.c.r.r.l.c.r.c.r.r.r s (blockX 2 (blockX 1 (seqX (fun s=>replies_Check_r5 m n0 kc kx ⟨s.H,[(0,gt s.T 0),(6,gt s.T 6),(7,gt s.T 7),(8,gt s.T 8)]⟩) (backW n0 [0,6,7,8] [2,3] kc kx))))
noncomputable def replies_Check_r2 (m : Nat) (n0 : Nat) (kc : ASt → RO) (kx : KO (AV × List AObj)) (s : ASt) : RO := joinW Try.prog GG (replies_Check_env m) m ⟨44,[]⟩ (cdR (cdL (cdR (cdL (cdL (cdR (cdR (cdL (cdL (cdR (cdL (cdR replies_Check_c)))))))))))) replies_Check_h.r.l.r.c.c.r.r.l.c.r.c.r s (blockX 2 (blockX 1 (seqX (fun s=>replies_Check_r4 m n0 kc kx ⟨s.H,[(0,gt s.T 0),(6,gt s.T 6),(7,gt s.T 7),(8,gt s.T 8)]⟩) (backW n0 [0,6,7,8] [2,3] kc kx))))
noncomputable def replies_Check_r1 (m : Nat) (s : ASt) : RO := joinW Try.prog GG (replies_Check_env m) m ⟨44,[]⟩ (cdR (cdR replies_Check_c)) replies_Check_h.r.r s (replies_Check_fin)
noncomputable def replies_Check_b1 (m : Nat) (s : ASt) (kc : ASt → RO) (kx : KO (AV × List AObj)) : RO := bodyW Try.prog GG (replies_Check_env m) m ⟨44,[]⟩ (cdL (cdL (cdR (cdL (cdR replies_Check_c))))) replies_Check_h.r.l.r.c.c [0,6,7,8] [2,3] s kc kx
noncomputable def replies_Check (m : Nat) (t0 : AV) : RO := exec Try.prog GG (replies_Check_env m) m ⟨44,[]⟩ replies_Check_c replies_Check_h ⟨[],argsT 0 [t0]⟩ (replies_Check_fin)
theorem replies_Check_r5_eq (m : Nat) (n0 : Nat) (kc : ASt → RO) (kx : KO (AV × List AObj)) (H : List AObj) (t0 t6 t7 t8 : AV) : replies_Check_r5 m n0 kc kx ⟨H,[(0,t0),(6,t6),(7,t7),(8,t8)]⟩ =
 binE none false false .add t8 (V (.int .i64 1)) fun t43 =>
 backE n0 H [(0,t0),(6,t6),(7,t7),(8,t43)] kc := by
 refine (joinW_eq _ _ _ _ _ _ _ _ _).trans ?_
 kernel_rfl
theorem replies_Check_r4_eq (m : Nat) (n0 : Nat) (kc : ASt → RO) (kx : KO (AV × List AObj)) (H : List AObj) (t0 t6 t7 t8 : AV) : replies_Check_r4 m n0 kc kx ⟨H,[(0,t0),(6,t6),(7,t7),(8,t8)]⟩ =
 binE none false false .add t8 (V (.int .i64 1)) fun t43 =>
 backE n0 H [(0,t0),(6,t6),(7,t7),(8,t43)] kc := by
 refine (joinW_eq _ _ _ _ _ _ _ _ _).trans ?_
 kernel_rfl
theorem replies_Check_r3_eq (m : Nat) (n0 : Nat) (kc : ASt → RO) (kx : KO (AV × List AObj)) (H : List AObj) (t0 t4 t6 t7 t8 t28 : AV) : replies_Check_r3 m n0 kc kx ⟨H,[(0,t0),(4,t4),(6,t6),(7,t7),(8,t8),(28,t28)]⟩ =
 condE t28 (
  kx .ret ⟨H,[(2,(V (.int .i64 3))),(3,t4)]⟩) (
  replies_Check_r5 m n0 kc kx ⟨H,[(0,t0),(6,t6),(7,t7),(8,t8)]⟩) := by
 refine (joinW_eq _ _ _ _ _ _ _ _ _).trans ?_
 kernel_rfl
theorem replies_Check_r2_eq (m : Nat) (n0 : Nat) (kc : ASt → RO) (kx : KO (AV × List AObj)) (H : List AObj) (t0 t4 t5 t6 t7 t8 t13 : AV) : replies_Check_r2 m n0 kc kx ⟨H,[(0,t0),(4,t4),(5,t5),(6,t6),(7,t7),(8,t8),(13,t13)]⟩ =
 condE t13 (
  kx .ret ⟨H,[(2,(V (.int .i64 1))),(3,t4)]⟩) (
  binE none false false .gtr t4 (V (.int .i64 0)) fun t30 =>
  condE t30 (
   fieldE (some (0,1)) t5 fun t32 =>
   loadE 1 H t32 fun t33 =>
   binE none false false .sub t4 (V (.int .i64 1)) fun t36 =>
   idxSE 9 H t0 t36 fun t37 =>
   fieldE (some (0,1)) t37 fun t38 =>
   loadE 1 H t38 fun t39 =>
   binE none false false .leq t33 t39 fun t40 =>
   replies_Check_r3 m n0 kc kx ⟨H,[(0,t0),(4,t4),(6,t6),(7,t7),(8,t8),(28,t40)]⟩) (
   replies_Check_r3 m n0 kc kx ⟨H,[(0,t0),(4,t4),(6,t6),(7,t7),(8,t8),(28,(V (.bool false)))]⟩)) := by
 refine (joinW_eq _ _ _ _ _ _ _ _ _).trans ?_
 kernel_rfl
theorem replies_Check_r1_eq (m : Nat) (H : List AObj) : replies_Check_r1 m ⟨H,[]⟩ =
 tellK H (ro H (TU [noT (V (.int .i64 0)),noT (V (.int .i64 0))])) := by
 refine (joinW_eq _ _ _ _ _ _ _ _ _).trans ?_
 kernel_rfl
theorem replies_Check_b1_eq (m : Nat) (H : List AObj) (t0 t6 t7 t8 : AV) (kc : ASt → RO) (kx : KO (AV × List AObj)) : replies_Check_b1 m ⟨H,[(0,t0),(6,t6),(7,t7),(8,t8)]⟩ kc kx =
 binE none false false .lss t8 t7 fun t9 =>
 condE t9 (
  idxSE 9 H t6 t8 fun t11 =>
  loadE 9 H t11 fun t12 =>
  allocE (some zc_api_Last) ty_api_Last H fun t5 H2 =>
  storeE 9 H2 t5 t12 fun H3 =>
  fieldE (some (0,1)) t5 fun t14 =>
  loadE 1 H3 t14 fun t15 =>
  fieldE (some (1,1)) t5 fun t16 =>
  loadE 1 H3 t16 fun t17 =>
  tellE (replies_could m (ro H3 t15) (ro H3 t17)) [(ro H3 t15),(ro H3 t17)] fun t18 =>
  unE .not t18 fun t19 =>
  condE t19 (
   replies_Check_r2 m H.length kc kx ⟨H3,[(0,t0),(4,t8),(5,t5),(6,t6),(7,t7),(8,t8),(13,(V (.bool true)))]⟩) (
   fieldE (some (2,7)) t5 fun t21 =>
   loadE 7 H3 t21 fun t22 =>
   tellE (txn_EncodeResult_t m [(ro H3 t22)]) [(ro H3 t22)] fun t23 =>
   lenE false true H3 t23 fun t24 =>
   binE none false false .eql t24 (V (.int .i64 0)) fun t25 =>
   replies_Check_r2 m H.length kc kx ⟨H3,[(0,t0),(4,t8),(5,t5),(6,t6),(7,t7),(8,t8),(13,t25)]⟩)) (
  kx (.exit 0) ⟨H,[(2, .nil),(3, .nil)]⟩) := by
 refine (bodyW_eq _ _ _ _ _ _ _ _ _ _ _ _).trans ?_
 kernel_rfl
theorem replies_Check_eq (m : Nat) (t0 : AV) : replies_Check m t0 =
 lenE false true [] t0 fun t7 =>
 iterC m (replies_Check_b1 m) ⟨[],[(0,t0),(6,t0),(7,t7),(8,(V (.int .i64 0)))]⟩ (blockX 0 (seqX (fun s=>replies_Check_r1 m ⟨s.H,[]⟩) (replies_Check_fin))) := by
 refine (tellX _ _ _ _ _ _ _ _ _).trans ?_
 kernel_rfl
noncomputable def replies_Check_t (m : Nat) : List AV → RO|[t0]=>replies_Check m t0|_=>none
theorem replies_Check_ok (m : Nat) : ∀ args X H',replies_Check_t m args = some (X,H') → ACp Try.prog GG 9 args X := by
 intro args X H' h
 unfold replies_Check_t at h
 split at h
 ·exact tell_okK MIX (by
  intro f e h
  simp only [replies_Check_env,Prod.mk.injEq,List.mem_cons,List.not_mem_nil,or_false] at h
  rcases h with ⟨rfl,rfl⟩|⟨rfl,rfl⟩
  ·exact replies_could_ok m
  ·exact txn_EncodeResult_ok m) (f := 9) (c := replies_Check_c) Try.func9 rfl (by kernel_rfl) _ rfl Try.ntmps9 (Nat.le_of_ble_eq_true rfl) replies_Check_h h
 ·cases h
noncomputable def replies_find_c : Code := (Try.f31.body).getD .skip
def replies_find_h : Hint := (.two .n (.two .n (.two .n .n)))
noncomputable def replies_find_env (m : Nat) : Env := [(54, .keep (sort_Search_t m))]
noncomputable abbrev replies_find_fin : KO (AV × List AObj) := tellFK Try.prog [.tmp 4, .tmp 5]
noncomputable def replies_find (m : Nat) (t0 t1 : AV) : RO := exec Try.prog GG (replies_find_env m) m ⟨25,[]⟩ replies_find_c replies_find_h ⟨[],argsT 0 [t0,t1]⟩ (replies_find_fin)
theorem replies_find_eq (m : Nat) (t0 t1 : AV) : replies_find m t0 t1 =
 boxE ty_sl_api_Last [] t0 fun t2 H1 =>
 boxE ty_int H1 t1 fun t3 H2 =>
 loadE 1 H2 t2 fun t7 =>
 lenE false true H2 t7 fun t8 =>
 whenE (([t2,t3] : List AV).all cap0) (
 keepE (sort_Search m (ro H2 t8) (ro H2 (CL (.func 55) 0 [t2,t3])) H2) fun t10 H3 =>
 loadE 1 H3 t2 fun t13 =>
 lenE false true H3 t13 fun t14 =>
 binE none false false .lss t10 t14 fun t15 =>
 condE t15 (
  loadE 1 H3 t2 fun t17 =>
  idxSE 9 H3 t17 t10 fun t19 =>
  fieldE (some (0,1)) t19 fun t20 =>
  loadE 1 H3 t20 fun t21 =>
  loadE 1 H3 t3 fun t22 =>
  binE none false false .eql t21 t22 fun t23 =>
  tellK H3 (ro H3 (TU [noT t10,noT t23]))) (
  tellK H3 (ro H3 (TU [noT t10,noT (V (.bool false))])))) := by
 refine (tellX _ _ _ _ _ _ _ _ _).trans ?_
 kernel_rfl
noncomputable def replies_find_t (m : Nat) : List AV → RO|[t0,t1]=>replies_find m t0 t1|_=>none
theorem replies_find_ok (m : Nat) : ∀ args X H',replies_find_t m args = some (X,H') → ACp Try.prog GG 31 args X := by
 intro args X H' h
 unfold replies_find_t at h
 split at h
 ·exact tell_okK MIX (by
  intro f e h
  simp only [replies_find_env,Prod.mk.injEq,List.mem_cons,List.not_mem_nil,or_false] at h
  obtain ⟨rfl,rfl⟩ := h
  ·exact sort_Search_ok m) (f := 31) (c := replies_find_c) Try.func31 rfl (by kernel_rfl) _ rfl Try.ntmps31 (Nat.le_of_ble_eq_true rfl) replies_find_h h
 ·cases h
noncomputable def replies_is_c : Code := (Try.f30.body).getD .skip
def replies_is_h : Hint := (.two .n (.two .n (.two .n .n)))
noncomputable def replies_is_env (m : Nat) : Env := [(9, .tell (replies_Check_t m))]
noncomputable abbrev replies_is_fin : KO (AV × List AObj) := tellFK Try.prog [.tmp 2]
noncomputable def replies_is (m : Nat) (t0 : AV) : RO := exec Try.prog GG (replies_is_env m) m ⟨12,[]⟩ replies_is_c replies_is_h ⟨[],argsT 0 [t0]⟩ (replies_is_fin)
theorem replies_is_eq (m : Nat) (t0 : AV) : replies_is m t0 =
 tellE (replies_Check m (ro [] t0)) [(ro [] t0)] fun t7 =>
 extE t7 0 fun t8 =>
 extE t7 1 fun t9 =>
 binE none false false .eql t8 (V (.int .i64 0)) fun t11 =>
 tellK [] (ro [] t11) := by
 refine (tellX _ _ _ _ _ _ _ _ _).trans ?_
 kernel_rfl
noncomputable def replies_is_t (m : Nat) : List AV → RO|[t0]=>replies_is m t0|_=>none
theorem replies_is_ok (m : Nat) : ∀ args X H',replies_is_t m args = some (X,H') → ACp Try.prog GG 30 args X := by
 intro args X H' h
 unfold replies_is_t at h
 split at h
 ·exact tell_okK MIX (by
  intro f e h
  simp only [replies_is_env,Prod.mk.injEq,List.mem_cons,List.not_mem_nil,or_false] at h
  obtain ⟨rfl,rfl⟩ := h
  ·exact replies_Check_ok m) (f := 30) (c := replies_is_c) Try.func30 rfl (by kernel_rfl) _ rfl Try.ntmps30 (Nat.le_of_ble_eq_true rfl) replies_is_h h
 ·cases h
noncomputable def replies_Ask_c : Code := (Try.f11.body).getD .skip
def replies_Ask_h : Hint := (.two .n (.join [0,1,2,6] (.join [0,1,2,6,18] .n (.two (.two .n .n) .n)) (.two .n (.join [0,6,8] (.one (.join [0,2,6,8,26] .n (.two (.two .n .n) (.two .n (.two (.two .n .n) .n))))) (.two .n .n)))))
noncomputable def replies_Ask_env (m : Nat) : Env := [(30, .tell (replies_is_t m)),(26, .tell (replies_could_t m)),(31, .tell (replies_find_t m))]
noncomputable abbrev replies_Ask_fin : KO (AV × List AObj) := tellFK Try.prog [.cell 6 32, .tmp 7]
noncomputable def replies_Ask_r4 (m : Nat) (s : ASt) : RO := joinW Try.prog GG (replies_Ask_env m) m ⟨53,[]⟩ (cdR (cdR (cdR (cdR replies_Ask_c)))) replies_Ask_h.r.r.r.r s (replies_Ask_fin)
noncomputable def replies_Ask_r3 (m : Nat) (s : ASt) : RO := joinW Try.prog GG (replies_Ask_env m) m ⟨53,[]⟩ (cdR (cdL (cdL (cdR (cdR (cdR replies_Ask_c)))))) replies_Ask_h.r.r.r.l.c.r s (blockX 0 (seqX (fun s=>replies_Ask_r4 m ⟨s.H,[(0,gt s.T 0),(6,gt s.T 6),(8,gt s.T 8)]⟩) (replies_Ask_fin)))
noncomputable def replies_Ask_r2 (m : Nat) (s : ASt) : RO := joinW Try.prog GG (replies_Ask_env m) m ⟨53,[]⟩ (cdR (cdR replies_Ask_c)) replies_Ask_h.r.r s (replies_Ask_fin)
noncomputable def replies_Ask_r1 (m : Nat) (s : ASt) : RO := joinW Try.prog GG (replies_Ask_env m) m ⟨53,[]⟩ (cdR (cdL (cdR replies_Ask_c))) replies_Ask_h.r.l.r s (seqX (fun s=>replies_Ask_r2 m ⟨s.H,[(0,gt s.T 0),(1,gt s.T 1),(2,gt s.T 2),(6,gt s.T 6)]⟩) (replies_Ask_fin))
noncomputable def replies_Ask (m : Nat) (t0 t1 t2 : AV) : RO := exec Try.prog GG (replies_Ask_env m) m ⟨53,[]⟩ replies_Ask_c replies_Ask_h ⟨[],argsT 0 [t0,t1,t2]⟩ (replies_Ask_fin)
theorem replies_Ask_r4_eq (m : Nat) (H : List AObj) (t0 t6 t8 : AV) : replies_Ask_r4 m ⟨H,[(0,t0),(6,t6),(8,t8)]⟩ =
 idxSE 9 H t0 t8 fun t50 =>
 fieldE (some (2,7)) t50 fun t51 =>
 loadE 7 H t51 fun t52 =>
 storeE 7 H t6 t52 fun H2 =>
 loadE 7 H2 t6 fun t9000 =>
 tellK H2 (ro H2 (TU [noT t9000,noT (V (.int .i64 0))])) := by
 refine (joinW_eq _ _ _ _ _ _ _ _ _).trans ?_
 kernel_rfl
theorem replies_Ask_r3_eq (m : Nat) (H : List AObj) (t0 t2 t6 t8 t26 : AV) : replies_Ask_r3 m ⟨H,[(0,t0),(2,t2),(6,t6),(8,t8),(26,t26)]⟩ =
 condE t26 (
  buildE (some pl_api_Result) (some zc_api_Result) [] fun t38 =>
  storeE 7 H t6 t38 fun H2 =>
  loadE 7 H2 t6 fun t9000 =>
  tellK H2 (ro H2 (TU [noT t9000,noT (V (.int .i64 6))]))) (
  idxSE 9 H t0 t8 fun t43 =>
  fieldE (some (1,1)) t43 fun t44 =>
  loadE 1 H t44 fun t45 =>
  binE none false false .lss t2 t45 fun t46 =>
  condE t46 (
   buildE (some pl_api_Result) (some zc_api_Result) [] fun t47 =>
   storeE 7 H t6 t47 fun H2 =>
   loadE 7 H2 t6 fun t9000 =>
   tellK H2 (ro H2 (TU [noT t9000,noT (V (.int .i64 18))]))) (
   replies_Ask_r4 m ⟨H,[(0,t0),(6,t6),(8,t8)]⟩)) := by
 refine (joinW_eq _ _ _ _ _ _ _ _ _).trans ?_
 kernel_rfl
theorem replies_Ask_r2_eq (m : Nat) (H : List AObj) (t0 t1 t2 t6 : AV) : replies_Ask_r2 m ⟨H,[(0,t0),(1,t1),(2,t2),(6,t6)]⟩ =
 tellE (replies_find m (ro H t0) (ro H t1)) [(ro H t0),(ro H t1)] fun t23 =>
 extE t23 0 fun t24 =>
 extE t23 1 fun t25 =>
 unE .not t25 fun t28 =>
 condE t28 (
  replies_Ask_r3 m ⟨H,[(0,t0),(2,t2),(6,t6),(8,t24),(26,(V (.bool true)))]⟩) (
  idxSE 9 H t0 t24 fun t33 =>
  fieldE (some (1,1)) t33 fun t34 =>
  loadE 1 H t34 fun t35 =>
  binE none false false .gtr t2 t35 fun t36 =>
  replies_Ask_r3 m ⟨H,[(0,t0),(2,t2),(6,t6),(8,t24),(26,t36)]⟩) := by
 refine (joinW_eq _ _ _ _ _ _ _ _ _).trans ?_
 kernel_rfl
theorem replies_Ask_r1_eq (m : Nat) (H : List AObj) (t0 t1 t2 t6 t18 : AV) : replies_Ask_r1 m ⟨H,[(0,t0),(1,t1),(2,t2),(6,t6),(18,t18)]⟩ =
 condE t18 (
  buildE (some pl_api_Result) (some zc_api_Result) [] fun t19 =>
  storeE 7 H t6 t19 fun H2 =>
  loadE 7 H2 t6 fun t9000 =>
  tellK H2 (ro H2 (TU [noT t9000,noT (V (.int .i64 1))]))) (
  replies_Ask_r2 m ⟨H,[(0,t0),(1,t1),(2,t2),(6,t6)]⟩) := by
 refine (joinW_eq _ _ _ _ _ _ _ _ _).trans ?_
 kernel_rfl
theorem replies_Ask_eq (m : Nat) (t0 t1 t2 : AV) : replies_Ask m t0 t1 t2 =
 allocE (some zc_api_Result) ty_api_Result [] fun t6 H1 =>
 tellE (replies_is m (ro H1 t0)) [(ro H1 t0)] fun t11 =>
 unE .not t11 fun t12 =>
 condE t12 (
  replies_Ask_r1 m ⟨H1,[(0,t0),(1,t1),(2,t2),(6,t6),(18,(V (.bool true)))]⟩) (
  tellE (replies_could m (ro H1 t1) (ro H1 t2)) [(ro H1 t1),(ro H1 t2)] fun t16 =>
  unE .not t16 fun t17 =>
  replies_Ask_r1 m ⟨H1,[(0,t0),(1,t1),(2,t2),(6,t6),(18,t17)]⟩) := by
 refine (tellX _ _ _ _ _ _ _ _ _).trans ?_
 kernel_rfl
noncomputable def replies_Ask_t (m : Nat) : List AV → RO|[t0,t1,t2]=>replies_Ask m t0 t1 t2|_=>none
theorem replies_Ask_ok (m : Nat) : ∀ args X H',replies_Ask_t m args = some (X,H') → ACp Try.prog GG 11 args X := by
 intro args X H' h
 unfold replies_Ask_t at h
 split at h
 ·exact tell_okK MIX (by
  intro f e h
  simp only [replies_Ask_env,Prod.mk.injEq,List.mem_cons,List.not_mem_nil,or_false] at h
  rcases h with ⟨rfl,rfl⟩|⟨rfl,rfl⟩|⟨rfl,rfl⟩
  ·exact replies_is_ok m
  ·exact replies_could_ok m
  ·exact replies_find_ok m) (f := 11) (c := replies_Ask_c) Try.func11 rfl (by kernel_rfl) _ rfl Try.ntmps11 (Nat.le_of_ble_eq_true rfl) replies_Ask_h h
 ·cases h
noncomputable def replies_old_c : Code := (Try.f33.body).getD .skip
def replies_old_h : Hint := (.two .n (.two (.two .n (.two (.two .n .n) .n)) (.two .n .n)))
noncomputable def replies_old_env (m : Nat) : Env := [(27, .tell (txn_EncodeResult_t m))]
noncomputable abbrev replies_old_fin : KO (AV × List AObj) := tellFK Try.prog [.tmp 2]
noncomputable def replies_old (m : Nat) (t0 : AV) : RO := exec Try.prog GG (replies_old_env m) m ⟨7,[]⟩ replies_old_c replies_old_h ⟨[],argsT 0 [t0]⟩ (replies_old_fin)
theorem replies_old_eq (m : Nat) (t0 : AV) : replies_old m t0 =
 boxE ty_api_Result [] t0 fun t1 H1 =>
 loadE 7 H1 t1 fun t3 =>
 tellE (txn_EncodeResult_t m [(ro H1 t3)]) [(ro H1 t3)] fun t4 =>
 lenE false true H1 t4 fun t5 =>
 binE none false false .eql t5 (V (.int .i64 0)) fun t6 =>
 condE t6 (
  tellK H1 (ro H1 (V (.int .i64 1)))) (
  tellK H1 (ro H1 (V (.int .i64 18)))) := by
 refine (tellX _ _ _ _ _ _ _ _ _).trans ?_
 kernel_rfl
noncomputable def replies_old_t (m : Nat) : List AV → RO|[t0]=>replies_old m t0|_=>none
theorem replies_old_ok (m : Nat) : ∀ args X H',replies_old_t m args = some (X,H') → ACp Try.prog GG 33 args X := by
 intro args X H' h
 unfold replies_old_t at h
 split at h
 ·exact tell_okK MIX (by
  intro f e h
  simp only [replies_old_env,Prod.mk.injEq,List.mem_cons,List.not_mem_nil,or_false] at h
  obtain ⟨rfl,rfl⟩ := h
  ·exact txn_EncodeResult_ok m) (f := 33) (c := replies_old_c) Try.func33 rfl (by kernel_rfl) _ rfl Try.ntmps33 (Nat.le_of_ble_eq_true rfl) replies_old_h h
 ·cases h
noncomputable def replies_Note_c : Code := (Try.f14.body).getD .skip
def replies_Note_h : Hint := (.two .n (.two (.two .n (.two .n (.two (.two (.two .n (.two (.two .n .n) .n)) (.two .n .n)) .n))) (.two (.two .n (.two (.two .n .n) .n)) (.two .n (.two .n (.two .n (.two (.two .n (.two (.two .n (.two .n .n)) .n)) (.two .n .n))))))))
noncomputable def replies_Note_env (m : Nat) : Env := [(11, .tell (replies_Ask_t m)),(33, .tell (replies_old_t m)),(27, .tell (txn_EncodeResult_t m)),(31, .tell (replies_find_t m)),(34, .add (slices_Clone_Last_t m)),(35, .keep (slices_Insert_Last_t m))]
noncomputable abbrev replies_Note_fin : KO (AV × List AObj) := tellFK Try.prog [.tmp 8, .tmp 9]
noncomputable def replies_Note (m : Nat) (t0 t1 t2 t3 : AV) : RO := exec Try.prog GG (replies_Note_env m) m ⟨57,[]⟩ replies_Note_c replies_Note_h ⟨[],argsT 0 [t0,t1,t2,t3]⟩ (replies_Note_fin)
theorem replies_Note_eq (m : Nat) (t0 t1 t2 t3 : AV) : replies_Note m t0 t1 t2 t3 =
 boxE ty_api_Result [] t3 fun t7 H1 =>
 tellE (replies_Ask m (ro H1 t0) (ro H1 t1) (ro H1 t2)) [(ro H1 t0),(ro H1 t1),(ro H1 t2)] fun t20 =>
 extE t20 0 fun t21 =>
 extE t20 1 fun t22 =>
 allocE (some zc_api_Result) ty_api_Result H1 fun t10 H2 =>
 storeE 7 H2 t10 t21 fun H3 =>
 binE none false false .neq t22 (V (.int .i64 6)) fun t24 =>
 condE t24 (
  binE none false false .eql t22 (V (.int .i64 1)) fun t26 =>
  condE t26 (
   tellK H3 (ro H3 (TU [noT (V (.slice none 0 0)),noT t22]))) (
   loadE 7 H3 t7 fun t28 =>
   tellE (replies_old m (ro H3 t28)) [(ro H3 t28)] fun t29 =>
   tellK H3 (ro H3 (TU [noT (V (.slice none 0 0)),noT t29])))) (
  loadE 7 H3 t7 fun t30 =>
  tellE (txn_EncodeResult_t m [(ro H3 t30)]) [(ro H3 t30)] fun t31 =>
  lenE false true H3 t31 fun t32 =>
  binE none false false .eql t32 (V (.int .i64 0)) fun t33 =>
  condE t33 (
   tellK H3 (ro H3 (TU [noT (V (.slice none 0 0)),noT (V (.int .i64 1))]))) (
   tellE (replies_find m (ro H3 t0) (ro H3 t1)) [(ro H3 t0),(ro H3 t1)] fun t37 =>
   extE t37 0 fun t38 =>
   extE t37 1 fun t39 =>
   addE (slices_Clone_Last_t m [(ro H3 t0)] H3.length) H3 fun t41 H4 =>
   loadE 7 H4 t7 fun t44 =>
   buildE (some pl_api_Last) (some zc_api_Last) [(0,t1),(1,t2),(2,t44)] fun t45 =>
   allocE (some zc_api_Last) ty_api_Last H4 fun t15 H5 =>
   storeE 9 H5 t15 t45 fun H6 =>
   condE t39 (
    loadE 9 H6 t15 fun t49 =>
    idxSE 9 H6 t41 t38 fun t50 =>
    storeE 9 H6 t50 t49 fun H7 =>
    tellK H7 (ro H7 (TU [noT t41,noT (V (.int .i64 0))]))) (
    loadE 9 H6 t15 fun t54 =>
    buildSE (some (ty_api_Last,7)) 1 [(0,t54)] fun t55 =>
    keepE (slices_Insert_Last_t m [(ro H6 t41),(ro H6 t38),(ro H6 t55)] H6) fun t56 H7 =>
    tellK H7 (ro H7 (TU [noT t56,noT (V (.int .i64 0))]))))) := by
 refine (tellX _ _ _ _ _ _ _ _ _).trans ?_
 kernel_rfl
noncomputable def replies_Note_t (m : Nat) : List AV → RO|[t0,t1,t2,t3]=>replies_Note m t0 t1 t2 t3|_=>none
theorem replies_Note_ok (m : Nat) : ∀ args X H',replies_Note_t m args = some (X,H') → ACp Try.prog GG 14 args X := by
 intro args X H' h
 unfold replies_Note_t at h
 split at h
 ·exact tell_okK MIX (by
  intro f e h
  simp only [replies_Note_env,Prod.mk.injEq,List.mem_cons,List.not_mem_nil,or_false] at h
  rcases h with ⟨rfl,rfl⟩|⟨rfl,rfl⟩|⟨rfl,rfl⟩|⟨rfl,rfl⟩|⟨rfl,rfl⟩|⟨rfl,rfl⟩
  ·exact replies_Ask_ok m
  ·exact replies_old_ok m
  ·exact txn_EncodeResult_ok m
  ·exact replies_find_ok m
  ·exact slices_Clone_Last_ok m
  ·exact slices_Insert_Last_ok m) (f := 14) (c := replies_Note_c) Try.func14 rfl (by kernel_rfl) _ rfl Try.ntmps14 (Nat.le_of_ble_eq_true rfl) replies_Note_h h
 ·cases h
noncomputable def replies_Fresh_c : Code := (Try.f17.body).getD .skip
def replies_Fresh_h : Hint := (.two .n (.two (.two .n (.two (.two .n .n) .n)) (.two .n (.two .n (.join [6,7] (.two .n (.one (.lp [(6,ty_api_Txn,6),(7,ty_int,1)] [0,6,7,15,16,17] [6,7] (.two .n (.two (.two .n .n) (.join [0,6,7,15,16,17] (.one (.two .n (.two .n (.two (.two .n (.two .n .n)) (.two .n .n))))) .n)))))) (.two .n .n))))))
noncomputable def replies_Fresh_env (m : Nat) : Env := [(30, .tell (replies_is_t m)),(14, .tell (replies_Note_t m))]
noncomputable abbrev replies_Fresh_fin : KO (AV × List AObj) := tellFK Try.prog [.tmp 4, .tmp 5]
noncomputable def replies_Fresh_r2 (m : Nat) (n0 : Nat) (kc : ASt → RO) (kx : KO (AV × List AObj)) (s : ASt) : RO := joinW Try.prog GG (replies_Fresh_env m) m ⟨46,[]⟩ (cdR (cdR (cdR (cdL (cdL (cdR (cdL (cdR (cdR (cdR (cdR replies_Fresh_c))))))))))) replies_Fresh_h.r.r.r.r.l.r.c.c.r.r.r s (backW n0 [0,6,7,15,16,17] [6,7] kc kx)
noncomputable def replies_Fresh_r1 (m : Nat) (s : ASt) : RO := joinW Try.prog GG (replies_Fresh_env m) m ⟨46,[]⟩ (cdR (cdR (cdR (cdR (cdR replies_Fresh_c))))) replies_Fresh_h.r.r.r.r.r s (replies_Fresh_fin)
noncomputable def replies_Fresh_b1 (m : Nat) (s : ASt) (kc : ASt → RO) (kx : KO (AV × List AObj)) : RO := bodyW Try.prog GG (replies_Fresh_env m) m ⟨46,[]⟩ (cdL (cdL (cdR (cdL (cdR (cdR (cdR (cdR replies_Fresh_c)))))))) replies_Fresh_h.r.r.r.r.l.r.c.c [0,6,7,15,16,17] [6,7] s kc kx
noncomputable def replies_Fresh (m : Nat) (t0 t1 : AV) : RO := exec Try.prog GG (replies_Fresh_env m) m ⟨46,[]⟩ replies_Fresh_c replies_Fresh_h ⟨[],argsT 0 [t0,t1]⟩ (replies_Fresh_fin)
theorem replies_Fresh_r2_eq (m : Nat) (n0 : Nat) (kc : ASt → RO) (kx : KO (AV × List AObj)) (H : List AObj) (t0 t6 t7 t15 t16 t17 : AV) : replies_Fresh_r2 m n0 kc kx ⟨H,[(0,t0),(6,t6),(7,t7),(15,t15),(16,t16),(17,t17)]⟩ =
 binE none false false .add t17 (V (.int .i64 1)) fun t43 =>
 backE n0 H [(0,t0),(6,t6),(7,t7),(15,t15),(16,t16),(17,t43)] kc := by
 refine (joinW_eq _ _ _ _ _ _ _ _ _).trans ?_
 kernel_rfl
theorem replies_Fresh_r1_eq (m : Nat) (H : List AObj) (t6 t7 : AV) : replies_Fresh_r1 m ⟨H,[(6,t6),(7,t7)]⟩ =
 tellK H (ro H (TU [noT t6,noT t7])) := by
 refine (joinW_eq _ _ _ _ _ _ _ _ _).trans ?_
 kernel_rfl
theorem replies_Fresh_b1_eq (m : Nat) (H : List AObj) (t0 t6 t7 t15 t16 t17 : AV) (kc : ASt → RO) (kx : KO (AV × List AObj)) : replies_Fresh_b1 m ⟨H,[(0,t0),(6,t6),(7,t7),(15,t15),(16,t16),(17,t17)]⟩ kc kx =
 binE none false false .lss t17 t16 fun t18 =>
 condE t18 (
  idxSE 8 H t15 t17 fun t20 =>
  loadE 8 H t20 fun t21 =>
  allocE (some zc_api_Txn) ty_api_Txn H fun t9 H2 =>
  storeE 8 H2 t9 t21 fun H3 =>
  fieldE (some (0,1)) t9 fun t24 =>
  loadE 1 H3 t24 fun t25 =>
  fieldE (some (1,1)) t9 fun t26 =>
  loadE 1 H3 t26 fun t27 =>
  buildE (some pl_api_Result) (some zc_api_Result) [] fun t28 =>
  tellE (replies_Note m (ro H3 t0) (ro H3 t25) (ro H3 t27) (ro H3 t28)) [(ro H3 t0),(ro H3 t25),(ro H3 t27),(ro H3 t28)] fun t29 =>
  extE t29 0 fun t30 =>
  extE t29 1 fun t31 =>
  binE none false false .neq t31 (V (.int .i64 0)) fun t33 =>
  condE t33 (
   replies_Fresh_r2 m H.length kc kx ⟨H3,[(0,t0),(6,t6),(7,t7),(15,t15),(16,t16),(17,t17)]⟩) (
   loadE 8 H3 t9 fun t36 =>
   buildSE (some (ty_api_Txn,6)) 1 [(0,t36)] fun t37 =>
   appE (some (ty_api_Txn,6)) H3 t6 t37 fun t38 H4 =>
   buildSE (some (ty_int,1)) 1 [(0,t17)] fun t41 =>
   appE (some (ty_int,1)) H4 t7 t41 fun t42 H5 =>
   replies_Fresh_r2 m H.length kc kx ⟨H5,[(0,t30),(6,t38),(7,t42),(15,t15),(16,t16),(17,t17)]⟩)) (
  kx (.exit 0) ⟨H,[(6,t6),(7,t7)]⟩) := by
 refine (bodyW_eq _ _ _ _ _ _ _ _ _ _ _ _).trans ?_
 kernel_rfl
theorem replies_Fresh_eq (m : Nat) (t0 t1 : AV) : replies_Fresh m t0 t1 =
 tellE (replies_is m (ro [] t0)) [(ro [] t0)] fun t13 =>
 unE .not t13 fun t14 =>
 condE t14 (
  tellK [] (ro [] (TU [noT (V (.slice none 0 0)),noT (V (.slice none 0 0))]))) (
  lenE false true [] t1 fun t16 =>
  rowE (V (.slice none 0 0)) ty_api_Txn 6 [] fun t6 H1 =>
  rowE (V (.slice none 0 0)) ty_int 1 H1 fun t7 H2 =>
  iterC m (replies_Fresh_b1 m) ⟨H2,[(0,t0),(6,t6),(7,t7),(15,t1),(16,t16),(17,(V (.int .i64 0)))]⟩ (blockX 0 (seqX (fun s=>replies_Fresh_r1 m ⟨s.H,[(6,gt s.T 6),(7,gt s.T 7)]⟩) (replies_Fresh_fin)))) := by
 refine (tellX _ _ _ _ _ _ _ _ _).trans ?_
 kernel_rfl
noncomputable def replies_Fresh_t (m : Nat) : List AV → RO|[t0,t1]=>replies_Fresh m t0 t1|_=>none
theorem replies_Fresh_ok (m : Nat) : ∀ args X H',replies_Fresh_t m args = some (X,H') → ACp Try.prog GG 17 args X := by
 intro args X H' h
 unfold replies_Fresh_t at h
 split at h
 ·exact tell_okK MIX (by
  intro f e h
  simp only [replies_Fresh_env,Prod.mk.injEq,List.mem_cons,List.not_mem_nil,or_false] at h
  rcases h with ⟨rfl,rfl⟩|⟨rfl,rfl⟩
  ·exact replies_is_ok m
  ·exact replies_Note_ok m) (f := 17) (c := replies_Fresh_c) Try.func17 rfl (by kernel_rfl) _ rfl Try.ntmps17 (Nat.le_of_ble_eq_true rfl) replies_Fresh_h h
 ·cases h
noncomputable def replies_Encode_c : Code := (Try.f24.body).getD .skip
def replies_Encode_h : Hint := (.two .n (.two (.two .n (.two (.two .n .n) .n)) (.two .n (.join [3] (.two .n (.one (.lp [(3,ty_uint8,1)] [3,14,15,16] [3] (.two .n (.two (.two .n .n) (.two (.one (.two .n (.two .n (.two .n (.two .n (.two .n .n)))))) .n)))))) (.two .n .n)))))
noncomputable def replies_Encode_env (m : Nat) : Env := [(30, .tell (replies_is_t m)),(46, .add (varint_Put_t m)),(27, .tell (txn_EncodeResult_t m))]
noncomputable abbrev replies_Encode_fin : KO (AV × List AObj) := tellFK Try.prog [.tmp 2]
noncomputable def replies_Encode_r1 (m : Nat) (s : ASt) : RO := joinW Try.prog GG (replies_Encode_env m) m ⟨46,[]⟩ (cdR (cdR (cdR (cdR replies_Encode_c)))) replies_Encode_h.r.r.r.r s (replies_Encode_fin)
noncomputable def replies_Encode_b1 (m : Nat) (s : ASt) (kc : ASt → RO) (kx : KO (AV × List AObj)) : RO := bodyW Try.prog GG (replies_Encode_env m) m ⟨46,[]⟩ (cdL (cdL (cdR (cdL (cdR (cdR (cdR replies_Encode_c))))))) replies_Encode_h.r.r.r.l.r.c.c [3,14,15,16] [3] s kc kx
noncomputable def replies_Encode (m : Nat) (t0 : AV) : RO := exec Try.prog GG (replies_Encode_env m) m ⟨46,[]⟩ replies_Encode_c replies_Encode_h ⟨[],argsT 0 [t0]⟩ (replies_Encode_fin)
theorem replies_Encode_r1_eq (m : Nat) (H : List AObj) (t3 : AV) : replies_Encode_r1 m ⟨H,[(3,t3)]⟩ =
 tellK H (ro H t3) := by
 refine (joinW_eq _ _ _ _ _ _ _ _ _).trans ?_
 kernel_rfl
theorem replies_Encode_b1_eq (m : Nat) (H : List AObj) (t3 t14 t15 t16 : AV) (kc : ASt → RO) (kx : KO (AV × List AObj)) : replies_Encode_b1 m ⟨H,[(3,t3),(14,t14),(15,t15),(16,t16)]⟩ kc kx =
 binE none false false .lss t16 t15 fun t17 =>
 condE t17 (
  idxSE 9 H t14 t16 fun t18 =>
  loadE 9 H t18 fun t19 =>
  allocE (some zc_api_Last) ty_api_Last H fun t5 H2 =>
  storeE 9 H2 t5 t19 fun H3 =>
  fieldE (some (2,7)) t5 fun t20 =>
  loadE 7 H3 t20 fun t21 =>
  tellE (txn_EncodeResult_t m [(ro H3 t21)]) [(ro H3 t21)] fun t22 =>
  fieldE (some (0,1)) t5 fun t24 =>
  loadE 1 H3 t24 fun t25 =>
  convE false (some .u64) true false false (ro H3 t25) fun t26 =>
  addE (varint_Put_t m [(ro H3 t26)] H3.length) H3 fun t27 H4 =>
  appE (some (ty_uint8,1)) H4 t3 t27 fun t28 H5 =>
  fieldE (some (1,1)) t5 fun t30 =>
  loadE 1 H5 t30 fun t31 =>
  convE false (some .u64) true false false (ro H5 t31) fun t32 =>
  addE (varint_Put_t m [(ro H5 t32)] H5.length) H5 fun t33 H6 =>
  appE (some (ty_uint8,1)) H6 t28 t33 fun t34 H7 =>
  lenE false true H7 t22 fun t37 =>
  convE false (some .u64) true false false (ro H7 t37) fun t38 =>
  addE (varint_Put_t m [(ro H7 t38)] H7.length) H7 fun t39 H8 =>
  appE (some (ty_uint8,1)) H8 t34 t39 fun t40 H9 =>
  appE (some (ty_uint8,1)) H9 t40 t22 fun t43 H10 =>
  binE none false false .add t16 (V (.int .i64 1)) fun t44 =>
  backE H.length H10 [(3,t43),(14,t14),(15,t15),(16,t44)] kc) (
  kx (.exit 0) ⟨H,[(3,t3)]⟩) := by
 refine (bodyW_eq _ _ _ _ _ _ _ _ _ _ _ _).trans ?_
 kernel_rfl
theorem replies_Encode_eq (m : Nat) (t0 : AV) : replies_Encode m t0 =
 tellE (replies_is m (ro [] t0)) [(ro [] t0)] fun t8 =>
 unE .not t8 fun t9 =>
 condE t9 (
  tellK [] (ro [] (V (.slice none 0 0)))) (
  lenE false true [] t0 fun t11 =>
  convE false (some .u64) true false false (ro [] t11) fun t12 =>
  addE (varint_Put_t m [(ro [] t12)] ([] : List AObj).length) [] fun t13 H1 =>
  lenE false true H1 t0 fun t15 =>
  rowE t13 ty_uint8 1 H1 fun t3 H2 =>
  iterC m (replies_Encode_b1 m) ⟨H2,[(3,t3),(14,t0),(15,t15),(16,(V (.int .i64 0)))]⟩ (blockX 0 (seqX (fun s=>replies_Encode_r1 m ⟨s.H,[(3,gt s.T 3)]⟩) (replies_Encode_fin)))) := by
 refine (tellX _ _ _ _ _ _ _ _ _).trans ?_
 kernel_rfl
noncomputable def replies_Encode_t (m : Nat) : List AV → RO|[t0]=>replies_Encode m t0|_=>none
theorem replies_Encode_ok (m : Nat) : ∀ args X H',replies_Encode_t m args = some (X,H') → ACp Try.prog GG 24 args X := by
 intro args X H' h
 unfold replies_Encode_t at h
 split at h
 ·exact tell_okK MIX (by
  intro f e h
  simp only [replies_Encode_env,Prod.mk.injEq,List.mem_cons,List.not_mem_nil,or_false] at h
  rcases h with ⟨rfl,rfl⟩|⟨rfl,rfl⟩|⟨rfl,rfl⟩
  ·exact replies_is_ok m
  ·exact varint_Put_ok m
  ·exact txn_EncodeResult_ok m) (f := 24) (c := replies_Encode_c) Try.func24 rfl (by kernel_rfl) _ rfl Try.ntmps24 (Nat.le_of_ble_eq_true rfl) replies_Encode_h h
 ·cases h
noncomputable def plenumref26_Could_c : Code := (Try.f28.body).getD .skip
def plenumref26_Could_h : Hint := (.two .n (.two .n .n))
noncomputable def plenumref26_Could_env (m : Nat) : Env := []
noncomputable abbrev plenumref26_Could_fin : KO (AV × List AObj) := tellFK Try.prog [.tmp 4]
noncomputable def plenumref26_Could (m : Nat) (t0 t1 : AV) : RO := exec Try.prog GG (plenumref26_Could_env m) m ⟨19,[]⟩ plenumref26_Could_c plenumref26_Could_h ⟨[],argsT 0 [t0,t1]⟩ (plenumref26_Could_fin)
theorem plenumref26_Could_eq (m : Nat) (t0 t1 : AV) : plenumref26_Could m t0 t1 =
 binE none false false .leq (V (.int .i64 0)) t0 fun t6 =>
 condE t6 (
  binE none false false .leq t0 (V (.int .i64 255)) fun t9 =>
  condE t9 (
  binE none false false .leq (V (.int .i64 1)) t1 fun t13 =>
  condE t13 (
  binE none false false .leq t1 (V (.int .i64 2147483647)) fun t17 =>
  tellK [] (ro [] t17)) (
  tellK [] (ro [] (V (.bool false))))) (
  tellK [] (ro [] (V (.bool false))))) (
  tellK [] (ro [] (V (.bool false)))) := by
 refine (tellX _ _ _ _ _ _ _ _ _).trans ?_
 kernel_rfl
noncomputable def plenumref26_Could_t (m : Nat) : List AV → RO|[t0,t1]=>plenumref26_Could m t0 t1|_=>none
theorem plenumref26_Could_ok (m : Nat) : ∀ args X H',plenumref26_Could_t m args = some (X,H') → ACp Try.prog GG 28 args X := by
 intro args X H' h
 unfold plenumref26_Could_t at h
 split at h
 ·exact tell_okK MIX (by intro f e h;cases h) (f := 28) (c := plenumref26_Could_c) Try.func28 rfl (by kernel_rfl) _ rfl Try.ntmps28 (Nat.le_of_ble_eq_true rfl) plenumref26_Could_h h
 ·cases h
noncomputable def plenumref22_MayResult_c : Code := (Try.f29.body).getD .skip
def plenumref22_MayResult_h : Hint := (.two .n (.two .n .n))
noncomputable def plenumref22_MayResult_env (m : Nat) : Env := [(53, .tell (plenumref07_May_t m))]
noncomputable abbrev plenumref22_MayResult_fin : KO (AV × List AObj) := tellFK Try.prog [.tmp 2]
noncomputable def plenumref22_MayResult (m : Nat) (t0 : AV) : RO := exec Try.prog GG (plenumref22_MayResult_env m) m ⟨26,[]⟩ plenumref22_MayResult_c plenumref22_MayResult_h ⟨[],argsT 0 [t0]⟩ (plenumref22_MayResult_fin)
theorem plenumref22_MayResult_eq (m : Nat) (t0 : AV) : plenumref22_MayResult m t0 =
 boxE ty_api_Result [] t0 fun t1 H1 =>
 fieldE (some (0,1)) t1 fun t3 =>
 loadE 1 H1 t3 fun t4 =>
 binE none false false .geq t4 (V (.int .i64 0)) fun t5 =>
 condE t5 (
  fieldE (some (0,1)) t1 fun t7 =>
  loadE 1 H1 t7 fun t8 =>
  binE none false false .leq t8 (V (.int .i64 23)) fun t9 =>
  condE t9 (
  fieldE (some (1,5)) t1 fun t12 =>
  loadE 5 H1 t12 fun t13 =>
  tellE (plenumref07_May_t m [(ro H1 t13)]) [(ro H1 t13)] fun t14 =>
  condE t14 (
  fieldE (some (4,1)) t1 fun t17 =>
  loadE 1 H1 t17 fun t18 =>
  binE none false false .geq t18 (V (.int .i64 0)) fun t19 =>
  condE t19 (
  fieldE (some (4,1)) t1 fun t22 =>
  loadE 1 H1 t22 fun t23 =>
  binE none false false .leq t23 (V (.int .i64 2147483647)) fun t24 =>
  tellK H1 (ro H1 t24)) (
  tellK H1 (ro H1 (V (.bool false))))) (
  tellK H1 (ro H1 (V (.bool false))))) (
  tellK H1 (ro H1 (V (.bool false))))) (
  tellK H1 (ro H1 (V (.bool false)))) := by
 refine (tellX _ _ _ _ _ _ _ _ _).trans ?_
 kernel_rfl
noncomputable def plenumref22_MayResult_t (m : Nat) : List AV → RO|[t0]=>plenumref22_MayResult m t0|_=>none
theorem plenumref22_MayResult_ok (m : Nat) : ∀ args X H',plenumref22_MayResult_t m args = some (X,H') → ACp Try.prog GG 29 args X := by
 intro args X H' h
 unfold plenumref22_MayResult_t at h
 split at h
 ·exact tell_okK MIX (by
  intro f e h
  simp only [plenumref22_MayResult_env,Prod.mk.injEq,List.mem_cons,List.not_mem_nil,or_false] at h
  obtain ⟨rfl,rfl⟩ := h
  ·exact plenumref07_May_ok m) (f := 29) (c := plenumref22_MayResult_c) Try.func29 rfl (by kernel_rfl) _ rfl Try.ntmps29 (Nat.le_of_ble_eq_true rfl) plenumref22_MayResult_h h
 ·cases h
noncomputable def plenumref26_Check_c : Code := (Try.f10.body).getD .skip
def plenumref26_Check_h : Hint := (.two .n (.join [] (.two .n (.one (.lp [] [0,4] [2,3] (.two (.two .n (.two .n .n)) (.join [0,4] (.one (.join [0,4] (.join [0,4,31] .n (.two (.two .n .n) .n)) (.join [0,4,48] .n (.two (.two .n .n) .n)))) .n))))) (.two .n .n)))
noncomputable def plenumref26_Check_env (m : Nat) : Env := [(28, .tell (plenumref26_Could_t m)),(29, .tell (plenumref22_MayResult_t m))]
noncomputable abbrev plenumref26_Check_fin : KO (AV × List AObj) := tellFK Try.prog [.tmp 2, .tmp 3]
noncomputable def plenumref26_Check_r7 (m : Nat) (n0 : Nat) (kc : ASt → RO) (kx : KO (AV × List AObj)) (s : ASt) : RO := joinW Try.prog GG (plenumref26_Check_env m) m ⟨50,[]⟩ (cdR (cdR (cdL (cdL (cdR (cdL (cdR plenumref26_Check_c))))))) plenumref26_Check_h.r.l.r.c.c.r.r s (backW n0 [0,4] [2,3] kc kx)
noncomputable def plenumref26_Check_r6 (m : Nat) (n0 : Nat) (kc : ASt → RO) (kx : KO (AV × List AObj)) (s : ASt) : RO := joinW Try.prog GG (plenumref26_Check_env m) m ⟨50,[]⟩ (cdR (cdR (cdL (cdL (cdR (cdL (cdR plenumref26_Check_c))))))) plenumref26_Check_h.r.l.r.c.c.r.r s (backW n0 [0,4] [2,3] kc kx)
noncomputable def plenumref26_Check_r5 (m : Nat) (n0 : Nat) (kc : ASt → RO) (kx : KO (AV × List AObj)) (s : ASt) : RO := joinW Try.prog GG (plenumref26_Check_env m) m ⟨50,[]⟩ (cdR (cdR (cdL (cdL (cdR (cdL (cdL (cdR (cdL (cdR plenumref26_Check_c)))))))))) plenumref26_Check_h.r.l.r.c.c.r.l.c.r.r s (blockX 1 (seqX (fun s=>plenumref26_Check_r7 m n0 kc kx ⟨s.H,[(0,gt s.T 0),(4,gt s.T 4)]⟩) (backW n0 [0,4] [2,3] kc kx)))
noncomputable def plenumref26_Check_r4 (m : Nat) (n0 : Nat) (kc : ASt → RO) (kx : KO (AV × List AObj)) (s : ASt) : RO := joinW Try.prog GG (plenumref26_Check_env m) m ⟨50,[]⟩ (cdR (cdR (cdL (cdL (cdR (cdL (cdR plenumref26_Check_c))))))) plenumref26_Check_h.r.l.r.c.c.r.r s (backW n0 [0,4] [2,3] kc kx)
noncomputable def plenumref26_Check_r3 (m : Nat) (n0 : Nat) (kc : ASt → RO) (kx : KO (AV × List AObj)) (s : ASt) : RO := joinW Try.prog GG (plenumref26_Check_env m) m ⟨50,[]⟩ (cdR (cdL (cdL (cdR (cdL (cdL (cdR (cdL (cdR plenumref26_Check_c))))))))) plenumref26_Check_h.r.l.r.c.c.r.l.c.r s (blockX 1 (seqX (fun s=>plenumref26_Check_r6 m n0 kc kx ⟨s.H,[(0,gt s.T 0),(4,gt s.T 4)]⟩) (backW n0 [0,4] [2,3] kc kx)))
noncomputable def plenumref26_Check_r2 (m : Nat) (n0 : Nat) (kc : ASt → RO) (kx : KO (AV × List AObj)) (s : ASt) : RO := joinW Try.prog GG (plenumref26_Check_env m) m ⟨50,[]⟩ (cdR (cdL (cdL (cdL (cdR (cdL (cdL (cdR (cdL (cdR plenumref26_Check_c)))))))))) plenumref26_Check_h.r.l.r.c.c.r.l.c.l.r s (seqX (fun s=>plenumref26_Check_r3 m n0 kc kx ⟨s.H,[(0,gt s.T 0),(4,gt s.T 4)]⟩) (blockX 1 (seqX (fun s=>plenumref26_Check_r4 m n0 kc kx ⟨s.H,[(0,gt s.T 0),(4,gt s.T 4)]⟩) (backW n0 [0,4] [2,3] kc kx))))
noncomputable def plenumref26_Check_r1 (m : Nat) (s : ASt) : RO := joinW Try.prog GG (plenumref26_Check_env m) m ⟨50,[]⟩ (cdR (cdR plenumref26_Check_c)) plenumref26_Check_h.r.r s (plenumref26_Check_fin)
noncomputable def plenumref26_Check_b1 (m : Nat) (s : ASt) (kc : ASt → RO) (kx : KO (AV × List AObj)) : RO := bodyW Try.prog GG (plenumref26_Check_env m) m ⟨50,[]⟩ (cdL (cdL (cdR (cdL (cdR plenumref26_Check_c))))) plenumref26_Check_h.r.l.r.c.c [0,4] [2,3] s kc kx
noncomputable def plenumref26_Check (m : Nat) (t0 : AV) : RO := exec Try.prog GG (plenumref26_Check_env m) m ⟨50,[]⟩ plenumref26_Check_c plenumref26_Check_h ⟨[],argsT 0 [t0]⟩ (plenumref26_Check_fin)
theorem plenumref26_Check_r7_eq (m : Nat) (n0 : Nat) (kc : ASt → RO) (kx : KO (AV × List AObj)) (H : List AObj) (t0 t4 : AV) : plenumref26_Check_r7 m n0 kc kx ⟨H,[(0,t0),(4,t4)]⟩ =
 binE none false false .add t4 (V (.int .i64 1)) fun t10 =>
 backE n0 H [(0,t0),(4,t10)] kc := by
 refine (joinW_eq _ _ _ _ _ _ _ _ _).trans ?_
 kernel_rfl
theorem plenumref26_Check_r6_eq (m : Nat) (n0 : Nat) (kc : ASt → RO) (kx : KO (AV × List AObj)) (H : List AObj) (t0 t4 : AV) : plenumref26_Check_r6 m n0 kc kx ⟨H,[(0,t0),(4,t4)]⟩ =
 binE none false false .add t4 (V (.int .i64 1)) fun t10 =>
 backE n0 H [(0,t0),(4,t10)] kc := by
 refine (joinW_eq _ _ _ _ _ _ _ _ _).trans ?_
 kernel_rfl
theorem plenumref26_Check_r5_eq (m : Nat) (n0 : Nat) (kc : ASt → RO) (kx : KO (AV × List AObj)) (H : List AObj) (t0 t4 t48 : AV) : plenumref26_Check_r5 m n0 kc kx ⟨H,[(0,t0),(4,t4),(48,t48)]⟩ =
 condE t48 (
  kx .ret ⟨H,[(2,(V (.int .i64 3))),(3,t4)]⟩) (
  plenumref26_Check_r7 m n0 kc kx ⟨H,[(0,t0),(4,t4)]⟩) := by
 refine (joinW_eq _ _ _ _ _ _ _ _ _).trans ?_
 kernel_rfl
theorem plenumref26_Check_r4_eq (m : Nat) (n0 : Nat) (kc : ASt → RO) (kx : KO (AV × List AObj)) (H : List AObj) (t0 t4 : AV) : plenumref26_Check_r4 m n0 kc kx ⟨H,[(0,t0),(4,t4)]⟩ =
 binE none false false .add t4 (V (.int .i64 1)) fun t10 =>
 backE n0 H [(0,t0),(4,t10)] kc := by
 refine (joinW_eq _ _ _ _ _ _ _ _ _).trans ?_
 kernel_rfl
theorem plenumref26_Check_r3_eq (m : Nat) (n0 : Nat) (kc : ASt → RO) (kx : KO (AV × List AObj)) (H : List AObj) (t0 t4 : AV) : plenumref26_Check_r3 m n0 kc kx ⟨H,[(0,t0),(4,t4)]⟩ =
 binE none false false .gtr t4 (V (.int .i64 0)) fun t34 =>
 condE t34 (
  binE none false false .sub t4 (V (.int .i64 1)) fun t38 =>
  idxSE 9 H t0 t38 fun t39 =>
  fieldE (some (0,1)) t39 fun t40 =>
  loadE 1 H t40 fun t41 =>
  idxSE 9 H t0 t4 fun t44 =>
  fieldE (some (0,1)) t44 fun t45 =>
  loadE 1 H t45 fun t46 =>
  binE none false false .geq t41 t46 fun t47 =>
  plenumref26_Check_r5 m n0 kc kx ⟨H,[(0,t0),(4,t4),(48,t47)]⟩) (
  plenumref26_Check_r5 m n0 kc kx ⟨H,[(0,t0),(4,t4),(48,(V (.bool false)))]⟩) := by
 refine (joinW_eq _ _ _ _ _ _ _ _ _).trans ?_
 kernel_rfl
theorem plenumref26_Check_r2_eq (m : Nat) (n0 : Nat) (kc : ASt → RO) (kx : KO (AV × List AObj)) (H : List AObj) (t0 t4 t31 : AV) : plenumref26_Check_r2 m n0 kc kx ⟨H,[(0,t0),(4,t4),(31,t31)]⟩ =
 condE t31 (
  kx .ret ⟨H,[(2,(V (.int .i64 1))),(3,t4)]⟩) (
  plenumref26_Check_r3 m n0 kc kx ⟨H,[(0,t0),(4,t4)]⟩) := by
 refine (joinW_eq _ _ _ _ _ _ _ _ _).trans ?_
 kernel_rfl
theorem plenumref26_Check_r1_eq (m : Nat) (H : List AObj) : plenumref26_Check_r1 m ⟨H,[]⟩ =
 tellK H (ro H (TU [noT (V (.int .i64 0)),noT (V (.int .i64 0))])) := by
 refine (joinW_eq _ _ _ _ _ _ _ _ _).trans ?_
 kernel_rfl
theorem plenumref26_Check_b1_eq (m : Nat) (H : List AObj) (t0 t4 : AV) (kc : ASt → RO) (kx : KO (AV × List AObj)) : plenumref26_Check_b1 m ⟨H,[(0,t0),(4,t4)]⟩ kc kx =
 lenE false true H t0 fun t7 =>
 binE none false false .lss t4 t7 fun t8 =>
 condE t8 (
  idxSE 9 H t0 t4 fun t13 =>
  fieldE (some (0,1)) t13 fun t14 =>
  loadE 1 H t14 fun t15 =>
  idxSE 9 H t0 t4 fun t18 =>
  fieldE (some (1,1)) t18 fun t19 =>
  loadE 1 H t19 fun t20 =>
  tellE (plenumref26_Could m (ro H t15) (ro H t20)) [(ro H t15),(ro H t20)] fun t21 =>
  unE .not t21 fun t22 =>
  condE t22 (
   plenumref26_Check_r2 m H.length kc kx ⟨H,[(0,t0),(4,t4),(31,(V (.bool true)))]⟩) (
   idxSE 9 H t0 t4 fun t26 =>
   fieldE (some (2,7)) t26 fun t27 =>
   loadE 7 H t27 fun t28 =>
   tellE (plenumref22_MayResult m (ro H t28)) [(ro H t28)] fun t29 =>
   unE .not t29 fun t30 =>
   plenumref26_Check_r2 m H.length kc kx ⟨H,[(0,t0),(4,t4),(31,t30)]⟩)) (
  kx (.exit 0) ⟨H,[(2, .nil),(3, .nil)]⟩) := by
 refine (bodyW_eq _ _ _ _ _ _ _ _ _ _ _ _).trans ?_
 kernel_rfl
theorem plenumref26_Check_eq (m : Nat) (t0 : AV) : plenumref26_Check m t0 =
 iterC m (plenumref26_Check_b1 m) ⟨[],[(0,t0),(4,(V (.int .i64 0)))]⟩ (blockX 0 (seqX (fun s=>plenumref26_Check_r1 m ⟨s.H,[]⟩) (plenumref26_Check_fin))) := by
 refine (tellX _ _ _ _ _ _ _ _ _).trans ?_
 kernel_rfl
noncomputable def plenumref26_Check_t (m : Nat) : List AV → RO|[t0]=>plenumref26_Check m t0|_=>none
theorem plenumref26_Check_ok (m : Nat) : ∀ args X H',plenumref26_Check_t m args = some (X,H') → ACp Try.prog GG 10 args X := by
 intro args X H' h
 unfold plenumref26_Check_t at h
 split at h
 ·exact tell_okK MIX (by
  intro f e h
  simp only [plenumref26_Check_env,Prod.mk.injEq,List.mem_cons,List.not_mem_nil,or_false] at h
  rcases h with ⟨rfl,rfl⟩|⟨rfl,rfl⟩
  ·exact plenumref26_Could_ok m
  ·exact plenumref22_MayResult_ok m) (f := 10) (c := plenumref26_Check_c) Try.func10 rfl (by kernel_rfl) _ rfl Try.ntmps10 (Nat.le_of_ble_eq_true rfl) plenumref26_Check_h h
 ·cases h
noncomputable def plenumref26_Is_c : Code := (Try.f21.body).getD .skip
def plenumref26_Is_h : Hint := (.two .n (.two .n (.two .n .n)))
noncomputable def plenumref26_Is_env (m : Nat) : Env := [(10, .tell (plenumref26_Check_t m))]
noncomputable abbrev plenumref26_Is_fin : KO (AV × List AObj) := tellFK Try.prog [.tmp 2]
noncomputable def plenumref26_Is (m : Nat) (t0 : AV) : RO := exec Try.prog GG (plenumref26_Is_env m) m ⟨12,[]⟩ plenumref26_Is_c plenumref26_Is_h ⟨[],argsT 0 [t0]⟩ (plenumref26_Is_fin)
theorem plenumref26_Is_eq (m : Nat) (t0 : AV) : plenumref26_Is m t0 =
 tellE (plenumref26_Check m (ro [] t0)) [(ro [] t0)] fun t7 =>
 extE t7 0 fun t8 =>
 extE t7 1 fun t9 =>
 binE none false false .eql t8 (V (.int .i64 0)) fun t11 =>
 tellK [] (ro [] t11) := by
 refine (tellX _ _ _ _ _ _ _ _ _).trans ?_
 kernel_rfl
noncomputable def plenumref26_Is_t (m : Nat) : List AV → RO|[t0]=>plenumref26_Is m t0|_=>none
theorem plenumref26_Is_ok (m : Nat) : ∀ args X H',plenumref26_Is_t m args = some (X,H') → ACp Try.prog GG 21 args X := by
 intro args X H' h
 unfold plenumref26_Is_t at h
 split at h
 ·exact tell_okK MIX (by
  intro f e h
  simp only [plenumref26_Is_env,Prod.mk.injEq,List.mem_cons,List.not_mem_nil,or_false] at h
  obtain ⟨rfl,rfl⟩ := h
  ·exact plenumref26_Check_ok m) (f := 21) (c := plenumref26_Is_c) Try.func21 rfl (by kernel_rfl) _ rfl Try.ntmps21 (Nat.le_of_ble_eq_true rfl) plenumref26_Is_h h
 ·cases h
noncomputable def plenumref26_Same_c : Code := (Try.f16.body).getD .skip
def plenumref26_Same_h : Hint := (.two .n (.two (.two .n (.two (.two .n .n) .n)) (.join [] (.two .n (.one (.lp [] [0,1,5] [4] (.two (.two .n (.two .n .n)) (.two (.one (.two .n (.two (.two .n .n) .n))) .n))))) (.two .n .n))))
noncomputable def plenumref26_Same_env (m : Nat) : Env := []
noncomputable abbrev plenumref26_Same_fin : KO (AV × List AObj) := tellFK Try.prog [.tmp 4]
noncomputable def plenumref26_Same_r1 (m : Nat) (s : ASt) : RO := joinW Try.prog GG (plenumref26_Same_env m) m ⟨26,[]⟩ (cdR (cdR (cdR plenumref26_Same_c))) plenumref26_Same_h.r.r.r s (plenumref26_Same_fin)
noncomputable def plenumref26_Same_b1 (m : Nat) (s : ASt) (kc : ASt → RO) (kx : KO (AV × List AObj)) : RO := bodyW Try.prog GG (plenumref26_Same_env m) m ⟨26,[]⟩ (cdL (cdL (cdR (cdL (cdR (cdR plenumref26_Same_c)))))) plenumref26_Same_h.r.r.l.r.c.c [0,1,5] [4] s kc kx
noncomputable def plenumref26_Same (m : Nat) (t0 t1 : AV) : RO := exec Try.prog GG (plenumref26_Same_env m) m ⟨26,[]⟩ plenumref26_Same_c plenumref26_Same_h ⟨[],argsT 0 [t0,t1]⟩ (plenumref26_Same_fin)
theorem plenumref26_Same_r1_eq (m : Nat) (H : List AObj) : plenumref26_Same_r1 m ⟨H,[]⟩ =
 tellK H (ro H (V (.bool true))) := by
 refine (joinW_eq _ _ _ _ _ _ _ _ _).trans ?_
 kernel_rfl
theorem plenumref26_Same_b1_eq (m : Nat) (H : List AObj) (t0 t1 t5 : AV) (kc : ASt → RO) (kx : KO (AV × List AObj)) : plenumref26_Same_b1 m ⟨H,[(0,t0),(1,t1),(5,t5)]⟩ kc kx =
 lenE false true H t0 fun t13 =>
 binE none false false .lss t5 t13 fun t14 =>
 condE t14 (
  idxSE 9 H t0 t5 fun t19 =>
  loadE 9 H t19 fun t20 =>
  idxSE 9 H t1 t5 fun t23 =>
  loadE 9 H t23 fun t24 =>
  binE (some [.i .i64, .i .i64, .i .i64, .i .i64, .i .i64, .s, .i .i64]) false false .neq t20 t24 fun t25 =>
  condE t25 (
   kx .ret ⟨H,[(4,(V (.bool false)))]⟩) (
   binE none false false .add t5 (V (.int .i64 1)) fun t16 =>
   backE H.length H [(0,t0),(1,t1),(5,t16)] kc)) (
  kx (.exit 0) ⟨H,[(4, .nil)]⟩) := by
 refine (bodyW_eq _ _ _ _ _ _ _ _ _ _ _ _).trans ?_
 kernel_rfl
theorem plenumref26_Same_eq (m : Nat) (t0 t1 : AV) : plenumref26_Same m t0 t1 =
 lenE false true [] t0 fun t7 =>
 lenE false true [] t1 fun t9 =>
 binE none false false .neq t7 t9 fun t10 =>
 condE t10 (
  tellK [] (ro [] (V (.bool false)))) (
  iterC m (plenumref26_Same_b1 m) ⟨[],[(0,t0),(1,t1),(5,(V (.int .i64 0)))]⟩ (blockX 0 (seqX (fun s=>plenumref26_Same_r1 m ⟨s.H,[]⟩) (plenumref26_Same_fin)))) := by
 refine (tellX _ _ _ _ _ _ _ _ _).trans ?_
 kernel_rfl
noncomputable def plenumref26_Same_t (m : Nat) : List AV → RO|[t0,t1]=>plenumref26_Same m t0 t1|_=>none
theorem plenumref26_Same_ok (m : Nat) : ∀ args X H',plenumref26_Same_t m args = some (X,H') → ACp Try.prog GG 16 args X := by
 intro args X H' h
 unfold plenumref26_Same_t at h
 split at h
 ·exact tell_okK MIX (by intro f e h;cases h) (f := 16) (c := plenumref26_Same_c) Try.func16 rfl (by kernel_rfl) _ rfl Try.ntmps16 (Nat.le_of_ble_eq_true rfl) plenumref26_Same_h h
 ·cases h
noncomputable def plenumlaw26_times_c : Code := (Try.f32.body).getD .skip
def plenumlaw26_times_h : Hint := (.two .n (.two .n (.join [3] (.two .n (.one (.lp [(3,ty_api_Txn,6)] [0,3,4] [3] (.two (.two .n (.two .n .n)) (.two (.one .n) .n))))) (.two .n .n))))
noncomputable def plenumlaw26_times_env (m : Nat) : Env := []
noncomputable abbrev plenumlaw26_times_fin : KO (AV × List AObj) := tellFK Try.prog [.tmp 2]
noncomputable def plenumlaw26_times_r1 (m : Nat) (s : ASt) : RO := joinW Try.prog GG (plenumlaw26_times_env m) m ⟨20,[]⟩ (cdR (cdR (cdR plenumlaw26_times_c))) plenumlaw26_times_h.r.r.r s (plenumlaw26_times_fin)
noncomputable def plenumlaw26_times_b1 (m : Nat) (s : ASt) (kc : ASt → RO) (kx : KO (AV × List AObj)) : RO := bodyW Try.prog GG (plenumlaw26_times_env m) m ⟨20,[]⟩ (cdL (cdL (cdR (cdL (cdR (cdR plenumlaw26_times_c)))))) plenumlaw26_times_h.r.r.l.r.c.c [0,3,4] [3] s kc kx
noncomputable def plenumlaw26_times (m : Nat) (t0 : AV) : RO := exec Try.prog GG (plenumlaw26_times_env m) m ⟨20,[]⟩ plenumlaw26_times_c plenumlaw26_times_h ⟨[],argsT 0 [t0]⟩ (plenumlaw26_times_fin)
theorem plenumlaw26_times_r1_eq (m : Nat) (H : List AObj) (t3 : AV) : plenumlaw26_times_r1 m ⟨H,[(3,t3)]⟩ =
 tellK H (ro H t3) := by
 refine (joinW_eq _ _ _ _ _ _ _ _ _).trans ?_
 kernel_rfl
theorem plenumlaw26_times_b1_eq (m : Nat) (H : List AObj) (t0 t3 t4 : AV) (kc : ASt → RO) (kx : KO (AV × List AObj)) : plenumlaw26_times_b1 m ⟨H,[(0,t0),(3,t3),(4,t4)]⟩ kc kx =
 lenE false true H t0 fun t7 =>
 binE none false false .lss t4 t7 fun t8 =>
 condE t8 (
  idxSE 1 H t0 t4 fun t14 =>
  loadE 1 H t14 fun t15 =>
  buildE (some pl_api_Txn) (some zc_api_Txn) [(0,(V (.int .i64 3))),(1,t15)] fun t16 =>
  buildSE (some (ty_api_Txn,6)) 1 [(0,t16)] fun t17 =>
  appE (some (ty_api_Txn,6)) H t3 t17 fun t18 H2 =>
  binE none false false .add t4 (V (.int .i64 1)) fun t10 =>
  backE H.length H2 [(0,t0),(3,t18),(4,t10)] kc) (
  kx (.exit 0) ⟨H,[(3,t3)]⟩) := by
 refine (bodyW_eq _ _ _ _ _ _ _ _ _ _ _ _).trans ?_
 kernel_rfl
theorem plenumlaw26_times_eq (m : Nat) (t0 : AV) : plenumlaw26_times m t0 =
 rowE (V (.slice none 0 0)) ty_api_Txn 6 [] fun t3 H1 =>
 iterC m (plenumlaw26_times_b1 m) ⟨H1,[(0,t0),(3,t3),(4,(V (.int .i64 0)))]⟩ (blockX 0 (seqX (fun s=>plenumlaw26_times_r1 m ⟨s.H,[(3,gt s.T 3)]⟩) (plenumlaw26_times_fin))) := by
 refine (tellX _ _ _ _ _ _ _ _ _).trans ?_
 kernel_rfl
noncomputable def plenumlaw26_times_t (m : Nat) : List AV → RO|[t0]=>plenumlaw26_times m t0|_=>none
theorem plenumlaw26_times_ok (m : Nat) : ∀ args X H',plenumlaw26_times_t m args = some (X,H') → ACp Try.prog GG 32 args X := by
 intro args X H' h
 unfold plenumlaw26_times_t at h
 split at h
 ·exact tell_okK MIX (by intro f e h;cases h) (f := 32) (c := plenumlaw26_times_c) Try.func32 rfl (by kernel_rfl) _ rfl Try.ntmps32 (Nat.le_of_ble_eq_true rfl) plenumlaw26_times_h h
 ·cases h
noncomputable def plenumlaw26_Few_c : Code := (Try.f8.body).getD .skip
def plenumlaw26_Few_h : Hint := (.two .n (.join [0] (.two .n (.two .n .n)) (.two .n (.join [3] (.two .n (.one (.lp [(3,ty_api_Last,7)] [0,3,4] [3] (.two (.two .n (.two .n .n)) (.join [0,3,4] (.one (.two .n (.join [0,3,4,5] (.two .n (.two .n .n)) .n))) .n))))) (.two .n .n)))))
noncomputable def plenumlaw26_Few_env (m : Nat) : Env := []
noncomputable abbrev plenumlaw26_Few_fin : KO (AV × List AObj) := tellFK Try.prog [.tmp 2]
noncomputable def plenumlaw26_Few_r4 (m : Nat) (n0 : Nat) (kc : ASt → RO) (kx : KO (AV × List AObj)) (s : ASt) : RO := joinW Try.prog GG (plenumlaw26_Few_env m) m ⟨40,[]⟩ (cdR (cdR (cdL (cdL (cdR (cdL (cdR (cdR (cdR plenumlaw26_Few_c))))))))) plenumlaw26_Few_h.r.r.r.l.r.c.c.r.r s (backW n0 [0,3,4] [3] kc kx)
noncomputable def plenumlaw26_Few_r3 (m : Nat) (n0 : Nat) (kc : ASt → RO) (kx : KO (AV × List AObj)) (s : ASt) : RO := joinW Try.prog GG (plenumlaw26_Few_env m) m ⟨40,[]⟩ (cdR (cdR (cdL (cdL (cdR (cdL (cdL (cdR (cdL (cdR (cdR (cdR plenumlaw26_Few_c)))))))))))) plenumlaw26_Few_h.r.r.r.l.r.c.c.r.l.c.r.r s (blockX 1 (seqX (fun s=>plenumlaw26_Few_r4 m n0 kc kx ⟨s.H,[(0,gt s.T 0),(3,gt s.T 3),(4,gt s.T 4)]⟩) (backW n0 [0,3,4] [3] kc kx)))
noncomputable def plenumlaw26_Few_r2 (m : Nat) (s : ASt) : RO := joinW Try.prog GG (plenumlaw26_Few_env m) m ⟨40,[]⟩ (cdR (cdR (cdR (cdR plenumlaw26_Few_c)))) plenumlaw26_Few_h.r.r.r.r s (plenumlaw26_Few_fin)
noncomputable def plenumlaw26_Few_b1 (m : Nat) (s : ASt) (kc : ASt → RO) (kx : KO (AV × List AObj)) : RO := bodyW Try.prog GG (plenumlaw26_Few_env m) m ⟨40,[]⟩ (cdL (cdL (cdR (cdL (cdR (cdR (cdR plenumlaw26_Few_c))))))) plenumlaw26_Few_h.r.r.r.l.r.c.c [0,3,4] [3] s kc kx
noncomputable def plenumlaw26_Few_r1 (m : Nat) (s : ASt) : RO := joinW Try.prog GG (plenumlaw26_Few_env m) m ⟨40,[]⟩ (cdR (cdR plenumlaw26_Few_c)) plenumlaw26_Few_h.r.r s (plenumlaw26_Few_fin)
noncomputable def plenumlaw26_Few (m : Nat) (t0 : AV) : RO := exec Try.prog GG (plenumlaw26_Few_env m) m ⟨40,[]⟩ plenumlaw26_Few_c plenumlaw26_Few_h ⟨[],argsT 0 [t0]⟩ (plenumlaw26_Few_fin)
theorem plenumlaw26_Few_r4_eq (m : Nat) (n0 : Nat) (kc : ASt → RO) (kx : KO (AV × List AObj)) (H : List AObj) (t0 t3 t4 : AV) : plenumlaw26_Few_r4 m n0 kc kx ⟨H,[(0,t0),(3,t3),(4,t4)]⟩ =
 binE none false false .add t4 (V (.int .i64 1)) fun t16 =>
 backE n0 H [(0,t0),(3,t3),(4,t16)] kc := by
 refine (joinW_eq _ _ _ _ _ _ _ _ _).trans ?_
 kernel_rfl
theorem plenumlaw26_Few_r3_eq (m : Nat) (n0 : Nat) (kc : ASt → RO) (kx : KO (AV × List AObj)) (H : List AObj) (t0 t3 t4 t5 : AV) : plenumlaw26_Few_r3 m n0 kc kx ⟨H,[(0,t0),(3,t3),(4,t4),(5,t5)]⟩ =
 loadE 9 H t5 fun t36 =>
 buildSE (some (ty_api_Last,7)) 1 [(0,t36)] fun t37 =>
 appE (some (ty_api_Last,7)) H t3 t37 fun t38 H2 =>
 plenumlaw26_Few_r4 m n0 kc kx ⟨H2,[(0,t0),(3,t38),(4,t4)]⟩ := by
 refine (joinW_eq _ _ _ _ _ _ _ _ _).trans ?_
 kernel_rfl
theorem plenumlaw26_Few_r2_eq (m : Nat) (H : List AObj) (t3 : AV) : plenumlaw26_Few_r2 m ⟨H,[(3,t3)]⟩ =
 tellK H (ro H t3) := by
 refine (joinW_eq _ _ _ _ _ _ _ _ _).trans ?_
 kernel_rfl
theorem plenumlaw26_Few_b1_eq (m : Nat) (H : List AObj) (t0 t3 t4 : AV) (kc : ASt → RO) (kx : KO (AV × List AObj)) : plenumlaw26_Few_b1 m ⟨H,[(0,t0),(3,t3),(4,t4)]⟩ kc kx =
 lenE false true H t0 fun t13 =>
 binE none false false .lss t4 t13 fun t14 =>
 condE t14 (
  idxSE 9 H t0 t4 fun t19 =>
  loadE 9 H t19 fun t20 =>
  allocE (some zc_api_Last) ty_api_Last H fun t5 H2 =>
  storeE 9 H2 t5 t20 fun H3 =>
  fieldE (some (2,7)) t5 fun t21 =>
  fieldE (some (1,5)) t21 fun t22 =>
  fieldE (some (2,1)) t22 fun t23 =>
  loadE 1 H3 t23 fun t24 =>
  lenE true false H3 t24 fun t25 =>
  binE none false false .gtr t25 (V (.int .i64 200)) fun t26 =>
  condE t26 (
   fieldE (some (2,7)) t5 fun t27 =>
   fieldE (some (1,5)) t27 fun t28 =>
   fieldE (some (2,1)) t28 fun t29 =>
   loadE 1 H3 t29 fun t30 =>
   sliceE true none H3 t30 none (some (V (.int .i64 200))) fun t31 =>
   fieldE (some (2,7)) t5 fun t32 =>
   fieldE (some (1,5)) t32 fun t33 =>
   fieldE (some (2,1)) t33 fun t34 =>
   storeE 1 H3 t34 t31 fun H4 =>
   plenumlaw26_Few_r3 m H.length kc kx ⟨H4,[(0,t0),(3,t3),(4,t4),(5,t5)]⟩) (
   plenumlaw26_Few_r3 m H.length kc kx ⟨H3,[(0,t0),(3,t3),(4,t4),(5,t5)]⟩)) (
  kx (.exit 0) ⟨H,[(3,t3)]⟩) := by
 refine (bodyW_eq _ _ _ _ _ _ _ _ _ _ _ _).trans ?_
 kernel_rfl
theorem plenumlaw26_Few_r1_eq (m : Nat) (H : List AObj) (t0 : AV) : plenumlaw26_Few_r1 m ⟨H,[(0,t0)]⟩ =
 rowE (V (.slice none 0 0)) ty_api_Last 7 H fun t3 H2 =>
 iterC m (plenumlaw26_Few_b1 m) ⟨H2,[(0,t0),(3,t3),(4,(V (.int .i64 0)))]⟩ (blockX 0 (seqX (fun s=>plenumlaw26_Few_r2 m ⟨s.H,[(3,gt s.T 3)]⟩) (plenumlaw26_Few_fin))) := by
 refine (joinW_eq _ _ _ _ _ _ _ _ _).trans ?_
 kernel_rfl
theorem plenumlaw26_Few_eq (m : Nat) (t0 : AV) : plenumlaw26_Few m t0 =
 lenE false true [] t0 fun t7 =>
 binE none false false .gtr t7 (V (.int .i64 260)) fun t8 =>
 condE t8 (
  sliceE false (some (ty_api_Last,9)) [] t0 none (some (V (.int .i64 260))) fun t10 =>
  plenumlaw26_Few_r1 m ⟨[],[(0,t10)]⟩) (
  plenumlaw26_Few_r1 m ⟨[],[(0,t0)]⟩) := by
 refine (tellX _ _ _ _ _ _ _ _ _).trans ?_
 kernel_rfl
noncomputable def plenumlaw26_Few_t (m : Nat) : List AV → RO|[t0]=>plenumlaw26_Few m t0|_=>none
theorem plenumlaw26_Few_ok (m : Nat) : ∀ args X H',plenumlaw26_Few_t m args = some (X,H') → ACp Try.prog GG 8 args X := by
 intro args X H' h
 unfold plenumlaw26_Few_t at h
 split at h
 ·exact tell_okK MIX (by intro f e h;cases h) (f := 8) (c := plenumlaw26_Few_c) Try.func8 rfl (by kernel_rfl) _ rfl Try.ntmps8 (Nat.le_of_ble_eq_true rfl) plenumlaw26_Few_h h
 ·cases h
end Go.Proofs.Ytchncgdjefbmfaa

namespace Go.Proofs.Ytchncgdjefbmfaa
open Go.RowKit
noncomputable def plenumlaw26_awake_c : Code := (Try.f13.body).getD .skip
def plenumlaw26_awake_h : Hint := (.two .n (.two .n (.two .n (.two .n (.two .n (.two .n (.two .n .n)))))))
noncomputable def plenumlaw26_awake_env (m : Nat) : Env := [(14, .tell (replies_Note_t m)),(11, .tell (replies_Ask_t m)),(32, .tell (plenumlaw26_times_t m)),(17, .tell (replies_Fresh_t m)),(24, .tell (replies_Encode_t m))]
noncomputable abbrev plenumlaw26_awake_fin : KO (AV × List AObj) := tellFK Try.prog [.tmp 0]
noncomputable def plenumlaw26_awake (m : Nat) : RO := exec Try.prog GG (plenumlaw26_awake_env m) m ⟨92,[]⟩ plenumlaw26_awake_c plenumlaw26_awake_h ⟨[],argsT 0 []⟩ (plenumlaw26_awake_fin)
theorem plenumlaw26_awake_eq (m : Nat) : plenumlaw26_awake m =
 buildE (some pl_api_Result) (some zc_api_Result) [] fun t12 =>
 tellE (replies_Note m (ro [] (V (.slice none 0 0))) (V (.int .i64 3)) (V (.int .i64 5)) (ro [] t12)) [(ro [] (V (.slice none 0 0))),(V (.int .i64 3)),(V (.int .i64 5)),(ro [] t12)] fun t13 =>
 extE t13 0 fun t14 =>
 extE t13 1 fun t15 =>
 tellE (replies_Ask m (ro [] t14) (V (.int .i64 3)) (V (.int .i64 5))) [(ro [] t14),(V (.int .i64 3)),(V (.int .i64 5))] fun t18 =>
 extE t18 0 fun t19 =>
 extE t18 1 fun t20 =>
 allocE (some zc_api_Result) ty_api_Result [] fun t3 H1 =>
 storeE 7 H1 t3 t19 fun H2 =>
 tellE (replies_Ask m (ro H2 t14) (V (.int .i64 3)) (V (.int .i64 6))) [(ro H2 t14),(V (.int .i64 3)),(V (.int .i64 6))] fun t23 =>
 extE t23 0 fun t24 =>
 extE t23 1 fun t25 =>
 allocE (some zc_api_Result) ty_api_Result H2 fun t5 H3 =>
 storeE 7 H3 t5 t24 fun H4 =>
 tellE (replies_Ask m (ro H4 t14) (V (.int .i64 3)) (V (.int .i64 4))) [(ro H4 t14),(V (.int .i64 3)),(V (.int .i64 4))] fun t28 =>
 extE t28 0 fun t29 =>
 extE t28 1 fun t30 =>
 allocE (some zc_api_Result) ty_api_Result H4 fun t7 H5 =>
 storeE 7 H5 t7 t29 fun H6 =>
 buildSE (some (ty_int,1)) 4 [(0,(V (.int .i64 5))),(1,(V (.int .i64 6))),(2,(V (.int .i64 6))),(3,(V (.int .i64 7)))] fun t33 =>
 tellE (plenumlaw26_times m (ro H6 t33)) [(ro H6 t33)] fun t34 =>
 tellE (replies_Fresh m (ro H6 t14) (ro H6 t34)) [(ro H6 t14),(ro H6 t34)] fun t35 =>
 extE t35 0 fun t36 =>
 extE t35 1 fun t37 =>
 lenE false true H6 t14 fun t39 =>
 binE none false false .eql t39 (V (.int .i64 1)) fun t40 =>
 condE t40 (
  binE none false false .eql t15 (V (.int .i64 0)) fun t43 =>
  condE t43 (
  loadE 7 H6 t3 fun t46 =>
  buildE (some pl_api_Result) (some zc_api_Result) [] fun t47 =>
  binE (some [.i .i64, .i .i64, .i .i64, .s, .i .i64]) false false .eql t46 t47 fun t48 =>
  condE t48 (
  binE none false false .eql t20 (V (.int .i64 0)) fun t52 =>
  condE t52 (
  binE none false false .eql t25 (V (.int .i64 6)) fun t56 =>
  condE t56 (
  binE none false false .eql t30 (V (.int .i64 18)) fun t60 =>
  condE t60 (
  tellE (replies_Encode m (ro H6 t14)) [(ro H6 t14)] fun t64 =>
  convE false none true true false (ro H6 t64) fun t65 =>
  binE none false false .eql t65 (V (.string ⟨#[1,3,5,3,0,0,0]⟩)) fun t66 =>
  condE t66 (
  lenE false true H6 t36 fun t70 =>
  binE none false false .eql t70 (V (.int .i64 2)) fun t71 =>
  condE t71 (
  lenE false true H6 t37 fun t75 =>
  binE none false false .eql t75 (V (.int .i64 2)) fun t76 =>
  condE t76 (
  idxSE 1 H6 t37 (V (.int .i64 0)) fun t80 =>
  loadE 1 H6 t80 fun t81 =>
  binE none false false .eql t81 (V (.int .i64 1)) fun t82 =>
  condE t82 (
  idxSE 1 H6 t37 (V (.int .i64 1)) fun t86 =>
  loadE 1 H6 t86 fun t87 =>
  binE none false false .eql t87 (V (.int .i64 3)) fun t88 =>
  pickE t88 (V (.bool true)) (V (.bool false)) fun t91 =>
 tellK H6 (ro H6 t91)) (
  tellK H6 (ro H6 (V (.bool false))))) (
  tellK H6 (ro H6 (V (.bool false))))) (
  tellK H6 (ro H6 (V (.bool false))))) (
  tellK H6 (ro H6 (V (.bool false))))) (
  tellK H6 (ro H6 (V (.bool false))))) (
  tellK H6 (ro H6 (V (.bool false))))) (
  tellK H6 (ro H6 (V (.bool false))))) (
  tellK H6 (ro H6 (V (.bool false))))) (
  tellK H6 (ro H6 (V (.bool false))))) (
  tellK H6 (ro H6 (V (.bool false)))) := by
 refine (tellX _ _ _ _ _ _ _ _ _).trans ?_
 kernel_rfl
noncomputable def plenumlaw26_awake_t (m : Nat) : List AV → RO|[]=>plenumlaw26_awake m|_=>none
theorem plenumlaw26_awake_ok (m : Nat) : ∀ args X H',plenumlaw26_awake_t m args = some (X,H') → ACp Try.prog GG 13 args X := by
 intro args X H' h
 unfold plenumlaw26_awake_t at h
 split at h
 ·exact tell_okK MIX (by
  intro f e h
  simp only [plenumlaw26_awake_env,Prod.mk.injEq,List.mem_cons,List.not_mem_nil,or_false] at h
  rcases h with ⟨rfl,rfl⟩|⟨rfl,rfl⟩|⟨rfl,rfl⟩|⟨rfl,rfl⟩|⟨rfl,rfl⟩
  ·exact replies_Note_ok m
  ·exact replies_Ask_ok m
  ·exact plenumlaw26_times_ok m
  ·exact replies_Fresh_ok m
  ·exact replies_Encode_ok m) (f := 13) (c := plenumlaw26_awake_c) Try.func13 rfl (by kernel_rfl) _ rfl Try.ntmps13 (Nat.le_of_ble_eq_true rfl) plenumlaw26_awake_h h
 ·cases h
end Go.Proofs.Ytchncgdjefbmfaa

namespace Go.Proofs.Ytchncgdjefbmfaa
open Go.RowKit
theorem natInt (k : Nat) : ((k : Int)).toNat = k := Int.toNat_natCast k
theorem u_addS {R : Type} {X : AV} {Y H : List AObj} {K : AV → List AObj → Option R} : addE (some (X,Y)) H K = K X (H ++ Y) := _root_.id rfl
structure Rs where
 code : Int
 kind : Int
 i : Int
 s : Bytes
 ver : Int
deriving DecidableEq
structure La where
 cl : Int
 tm : Int
 r : Rs
deriving DecidableEq
def Rs.zero : Rs := ⟨0,0,0,[],0⟩
def La.zero : La := ⟨0,0,Rs.zero⟩
def rC (r : Rs) : List AV := [nA r.code,nA r.kind,nA r.i,sA r.s,nA r.ver]
def laC (x : La) : List AV := nA x.cl :: nA x.tm :: rC x.r
def rA (r : Rs) : AV := .agg (rC r)
def laE (x : La) : AV := .agg (laC x)
def lL (l : List La) : AV := SL (l.map laE)
theorem lL_def (l : List La) : lL l = SL (l.map laE) := _root_.id rfl
theorem rA_def (r : Rs) : rA r = .agg (rC r) := _root_.id rfl
theorem la_it (x : La) : laE x = .agg (laC x) := _root_.id rfl
section
variable {R : Type} {x y : La} {r q : Rs} {n : Nat} {H : List AObj} {K1 : AV → Option R}
theorem rc_len : (rC r).length = 5 := _root_.id rfl
theorem rc_sure : (rC r).all sure = true := _root_.id rfl
theorem rc_ltA : (rC r).all (ltA n) = true := _root_.id rfl
theorem rc_lt1 : (rC r).all (lt1 n) = true := _root_.id rfl
theorem rc_all1 : ((rC r).all fun y=>lt1 n (ro1 H y)) = true := _root_.id rfl
theorem rc_ro : (rC r).map (ro1 H) = rC r := _root_.id rfl
theorem rc_take : (rC r).take 5 = rC r := _root_.id rfl
theorem rc_code : nthE (rC r) 0 K1 = K1 (nA r.code) := _root_.id rfl
theorem rc_ver : nthE (rC r) 4 K1 = K1 (nA r.ver) := _root_.id rfl
theorem rc_val : (List.drop 1 (rC r)).take 3 = [nA r.kind,nA r.i,sA r.s] := _root_.id rfl
theorem rc_set : setCells (rC q) 0 (rC r) = rC r := _root_.id rfl
theorem zcR_eq : zc_api_Result = rC Rs.zero := _root_.id rfl
theorem zcL_eq : zc_api_Last = laC La.zero := _root_.id rfl
theorem la_len : (laC x).length = 7 := _root_.id rfl
theorem la_sure : (laC x).all sure = true := _root_.id rfl
theorem la_ltA : (laC x).all (ltA n) = true := _root_.id rfl
theorem la_lt1 : (laC x).all (lt1 n) = true := _root_.id rfl
theorem la_all1 : ((laC x).all fun y=>lt1 n (ro1 H y)) = true := _root_.id rfl
theorem la_ro : (laC x).map (ro1 H) = laC x := _root_.id rfl
theorem la_take : (laC x).take 7 = laC x := _root_.id rfl
theorem la_cl : nthE (laC x) 0 K1 = K1 (nA x.cl) := _root_.id rfl
theorem la_tm : nthE (laC x) 1 K1 = K1 (nA x.tm) := _root_.id rfl
theorem la_s : nthE (laC x) 5 K1 = K1 (sA x.r.s) := _root_.id rfl
theorem la_r : (List.drop 2 (laC x)).take 5 = rC x.r := _root_.id rfl
theorem la_sl : ((laC x).all fun y=>sure y && lt1 n y) = true := _root_.id rfl
theorem rc_sl : ((rC r).all fun y=>sure y && lt1 n y) = true := _root_.id rfl
theorem la_set : setCells (laC x) 0 (laC y) = laC y := _root_.id rfl
theorem la_bL {c t : Int} : buildE (some pl_api_Last) (some (laC La.zero)) [(0,nA c),(1,nA t),(2, .agg (rC r))] K1 = K1 (.agg (laC ⟨c,t,r⟩)) := _root_.id rfl
theorem rc_b0 : buildE (some pl_api_Result) (some (rC Rs.zero)) [] K1 = K1 (.agg (rC Rs.zero)) := _root_.id rfl
end
theorem la_allA {l : List La} {n : Nat} : (l.all fun x=>ltA n (laE x)) = true := List.all_eq_true.2 fun _ _=>rfl
theorem la_len7 {l : List La} : (l.all fun x=>decide ((cellsOf (laE x)).length = 7)) = true := List.all_eq_true.2 fun _ _=>rfl
def could (c t : Int) : Bool := decide (0 ≤ c) && (decide (c < 256) && (decide (1 ≤ t) && decide (t ≤ 2147483647)))
def rB (r : Rs) : Bool := resB r.code r.kind r.i r.s r.ver
def Rs.In (r : Rs) : Prop := -9223372036854775808 ≤ r.i ∧ r.i < 9223372036854775808
def bad26 (w : Option La) (x : La) : Int := if could x.cl x.tm = true ∧ rB x.r = true then (match w with
 |none=>0
 |some w=>if x.cl ≤ w.cl then 3 else 0) else 1
def chkG : Option La → Nat → List La → Int × Int
 |_,_,[]=>(0,0)
 |w,k,x :: r=>if bad26 w x = 0 then chkG (some x) (k + 1) r else (bad26 w x,k)
def chkL (l : List La) : Int × Int := chkG none 0 l
def isL (l : List La) : Bool := decide ((chkL l).1 = 0)
def prevL (l : List La) (k : Nat) : Option La := if k = 0 then none else l[k - 1]?
theorem prevL_succ {l : List La} {k : Nat} (h : k < l.length) : prevL l (k + 1) = some l[k] := by
 unfold prevL
 rw [if_neg (by omega)]
 simp [h]
theorem chkG_at {l : List La} {k : Nat} {e a : Int} (hlt : k < l.length) (h : chkG (prevL l k) k (l.drop k) = (e,a)) : (bad26 (prevL l k) l[k] = 0 ∧ chkG (prevL l (k + 1)) (k + 1) (l.drop (k + 1)) = (e,a)) ∨ (bad26 (prevL l k) l[k] ≠ 0 ∧ e = bad26 (prevL l k) l[k] ∧ a = k) := by
 rw [List.drop_eq_getElem_cons hlt] at h
 unfold chkG at h
 split at h
 ·rename_i h0
  exact .inl ⟨h0,by rw [prevL_succ hlt];exact h⟩
 ·rename_i h0
  injection h with h1 h2
  exact .inr ⟨h0,h1.symm,h2.symm⟩
theorem chkG_end {l : List La} {w : Option La} {k : Nat} {e a : Int} (h : chkG w k (l.drop l.length) = (e,a)) : e = 0 ∧ a = 0 := by
 rw [List.drop_length] at h
 unfold chkG at h
 injection h with h1 h2
 exact ⟨h1.symm,h2.symm⟩
theorem could_s (m : Nat) (c t : Int) : replies_could m (nA c) (nA t) = some (bA (could c t),[]) := by
 rw [replies_could_eq]
 unfold could
 by_cases h1 : 0 ≤ c
 ·by_cases h2 : c < 256
  ·by_cases h3 : 1 ≤ t
   ·simp (config := {maxSteps := 4000000,implicitDefEqProofs := false}) (disch := omega) only [go_sem,↓reduceIte,Nat.reduceAdd,Nat.reduceSub,Nat.reduceMul,Nat.reduceLeDiff,Nat.reduceLT,Int.reduceEq,Int.reduceNe,Int.reduceLT,Int.reduceLE,Int.reduceAdd,Int.reduceSub,Int.reduceMul,Int.reduceNeg,Nat.zero_add,Nat.add_zero,Nat.mul_one,Int.toNat_natCast,Int.natCast_zero,Int.cast_ofNat_Int,or_false,false_or,or_true,true_or,Int.reduceToNat,Nat.sub_zero,Int.natCast_nonneg,Int.toNat_zero,Bool.true_and,Bool.and_true,Bool.false_and,Bool.and_false,Bool.true_or,Bool.or_true,Bool.false_or,Bool.or_false,Bool.not_true,Bool.not_false,Bool.not_not,true_and,and_true,false_and,and_false,not_true_eq_false,not_false_eq_true,eq_self,decide_true,decide_false,ne_eq,implies_true,forall_const,true_implies,false_implies,Bool.true_eq_false,Bool.false_eq_true,reduceCtorEq,List.map_cons,List.map_nil,List.all_cons,List.all_nil,List.length_cons,List.length_nil,List.length_map,List.length_append,List.nil_append,List.cons_append,List.set_cons_zero,List.set_cons_succ,List.set_nil,List.drop_zero,List.drop_succ_cons,List.drop_nil,List.take_zero,List.take_succ_cons,List.take_nil,Option.map_some,Option.map_none,Option.isSome_some,Nat.reduceEqDiff,Nat.reduceBEq,Nat.reduceGT,List.all_append,List.all_map,Function.comp_def,decide_eq_true_eq,Bool.and_eq_true,beq_self_eq_true,or_self,and_self,ite_true,ite_false,Nat.le_refl,Bool.not_eq_true,decide_not,Bool.not_eq_true',decide_eq_false_iff_not,Bool.not_eq_false,Bool.or_eq_true,if_true,if_false,ite_self,u_roF,u_cvF,u_cvC,u_ceT,u_ceK,u_appS,h1,h2,h3]
   ·simp (config := {maxSteps := 4000000,implicitDefEqProofs := false}) (disch := omega) only [go_sem,↓reduceIte,Nat.reduceAdd,Nat.reduceSub,Nat.reduceMul,Nat.reduceLeDiff,Nat.reduceLT,Int.reduceEq,Int.reduceNe,Int.reduceLT,Int.reduceLE,Int.reduceAdd,Int.reduceSub,Int.reduceMul,Int.reduceNeg,Nat.zero_add,Nat.add_zero,Nat.mul_one,Int.toNat_natCast,Int.natCast_zero,Int.cast_ofNat_Int,or_false,false_or,or_true,true_or,Int.reduceToNat,Nat.sub_zero,Int.natCast_nonneg,Int.toNat_zero,Bool.true_and,Bool.and_true,Bool.false_and,Bool.and_false,Bool.true_or,Bool.or_true,Bool.false_or,Bool.or_false,Bool.not_true,Bool.not_false,Bool.not_not,true_and,and_true,false_and,and_false,not_true_eq_false,not_false_eq_true,eq_self,decide_true,decide_false,ne_eq,implies_true,forall_const,true_implies,false_implies,Bool.true_eq_false,Bool.false_eq_true,reduceCtorEq,List.map_cons,List.map_nil,List.all_cons,List.all_nil,List.length_cons,List.length_nil,List.length_map,List.length_append,List.nil_append,List.cons_append,List.set_cons_zero,List.set_cons_succ,List.set_nil,List.drop_zero,List.drop_succ_cons,List.drop_nil,List.take_zero,List.take_succ_cons,List.take_nil,Option.map_some,Option.map_none,Option.isSome_some,Nat.reduceEqDiff,Nat.reduceBEq,Nat.reduceGT,List.all_append,List.all_map,Function.comp_def,decide_eq_true_eq,Bool.and_eq_true,beq_self_eq_true,or_self,and_self,ite_true,ite_false,Nat.le_refl,Bool.not_eq_true,decide_not,Bool.not_eq_true',decide_eq_false_iff_not,Bool.not_eq_false,Bool.or_eq_true,if_true,if_false,ite_self,u_roF,u_cvF,u_cvC,u_ceT,u_ceK,u_appS,h1,h2,h3]
  ·simp (config := {maxSteps := 4000000,implicitDefEqProofs := false}) (disch := omega) only [go_sem,↓reduceIte,Nat.reduceAdd,Nat.reduceSub,Nat.reduceMul,Nat.reduceLeDiff,Nat.reduceLT,Int.reduceEq,Int.reduceNe,Int.reduceLT,Int.reduceLE,Int.reduceAdd,Int.reduceSub,Int.reduceMul,Int.reduceNeg,Nat.zero_add,Nat.add_zero,Nat.mul_one,Int.toNat_natCast,Int.natCast_zero,Int.cast_ofNat_Int,or_false,false_or,or_true,true_or,Int.reduceToNat,Nat.sub_zero,Int.natCast_nonneg,Int.toNat_zero,Bool.true_and,Bool.and_true,Bool.false_and,Bool.and_false,Bool.true_or,Bool.or_true,Bool.false_or,Bool.or_false,Bool.not_true,Bool.not_false,Bool.not_not,true_and,and_true,false_and,and_false,not_true_eq_false,not_false_eq_true,eq_self,decide_true,decide_false,ne_eq,implies_true,forall_const,true_implies,false_implies,Bool.true_eq_false,Bool.false_eq_true,reduceCtorEq,List.map_cons,List.map_nil,List.all_cons,List.all_nil,List.length_cons,List.length_nil,List.length_map,List.length_append,List.nil_append,List.cons_append,List.set_cons_zero,List.set_cons_succ,List.set_nil,List.drop_zero,List.drop_succ_cons,List.drop_nil,List.take_zero,List.take_succ_cons,List.take_nil,Option.map_some,Option.map_none,Option.isSome_some,Nat.reduceEqDiff,Nat.reduceBEq,Nat.reduceGT,List.all_append,List.all_map,Function.comp_def,decide_eq_true_eq,Bool.and_eq_true,beq_self_eq_true,or_self,and_self,ite_true,ite_false,Nat.le_refl,Bool.not_eq_true,decide_not,Bool.not_eq_true',decide_eq_false_iff_not,Bool.not_eq_false,Bool.or_eq_true,if_true,if_false,ite_self,u_roF,u_cvF,u_cvC,u_ceT,u_ceK,u_appS,h1,h2]
 ·simp (config := {maxSteps := 4000000,implicitDefEqProofs := false}) (disch := omega) only [go_sem,↓reduceIte,Nat.reduceAdd,Nat.reduceSub,Nat.reduceMul,Nat.reduceLeDiff,Nat.reduceLT,Int.reduceEq,Int.reduceNe,Int.reduceLT,Int.reduceLE,Int.reduceAdd,Int.reduceSub,Int.reduceMul,Int.reduceNeg,Nat.zero_add,Nat.add_zero,Nat.mul_one,Int.toNat_natCast,Int.natCast_zero,Int.cast_ofNat_Int,or_false,false_or,or_true,true_or,Int.reduceToNat,Nat.sub_zero,Int.natCast_nonneg,Int.toNat_zero,Bool.true_and,Bool.and_true,Bool.false_and,Bool.and_false,Bool.true_or,Bool.or_true,Bool.false_or,Bool.or_false,Bool.not_true,Bool.not_false,Bool.not_not,true_and,and_true,false_and,and_false,not_true_eq_false,not_false_eq_true,eq_self,decide_true,decide_false,ne_eq,implies_true,forall_const,true_implies,false_implies,Bool.true_eq_false,Bool.false_eq_true,reduceCtorEq,List.map_cons,List.map_nil,List.all_cons,List.all_nil,List.length_cons,List.length_nil,List.length_map,List.length_append,List.nil_append,List.cons_append,List.set_cons_zero,List.set_cons_succ,List.set_nil,List.drop_zero,List.drop_succ_cons,List.drop_nil,List.take_zero,List.take_succ_cons,List.take_nil,Option.map_some,Option.map_none,Option.isSome_some,Nat.reduceEqDiff,Nat.reduceBEq,Nat.reduceGT,List.all_append,List.all_map,Function.comp_def,decide_eq_true_eq,Bool.and_eq_true,beq_self_eq_true,or_self,and_self,ite_true,ite_false,Nat.le_refl,Bool.not_eq_true,decide_not,Bool.not_eq_true',decide_eq_false_iff_not,Bool.not_eq_false,Bool.or_eq_true,if_true,if_false,ite_self,u_roF,u_cvF,u_cvC,u_ceT,u_ceK,u_appS,h1]
theorem rcould_s (m : Nat) (c t : Int) : plenumref26_Could m (nA c) (nA t) = some (bA (could c t),[]) := by
 have e : (c < 256) = (c ≤ 255) := propext ⟨fun h=>by omega,fun h=>by omega⟩
 rw [plenumref26_Could_eq]
 unfold could
 by_cases h1 : 0 ≤ c
 ·by_cases h2 : c ≤ 255
  ·by_cases h3 : 1 ≤ t
   ·simp (config := {maxSteps := 4000000,implicitDefEqProofs := false}) (disch := omega) only [go_sem,↓reduceIte,Nat.reduceAdd,Nat.reduceSub,Nat.reduceMul,Nat.reduceLeDiff,Nat.reduceLT,Int.reduceEq,Int.reduceNe,Int.reduceLT,Int.reduceLE,Int.reduceAdd,Int.reduceSub,Int.reduceMul,Int.reduceNeg,Nat.zero_add,Nat.add_zero,Nat.mul_one,Int.toNat_natCast,Int.natCast_zero,Int.cast_ofNat_Int,or_false,false_or,or_true,true_or,Int.reduceToNat,Nat.sub_zero,Int.natCast_nonneg,Int.toNat_zero,Bool.true_and,Bool.and_true,Bool.false_and,Bool.and_false,Bool.true_or,Bool.or_true,Bool.false_or,Bool.or_false,Bool.not_true,Bool.not_false,Bool.not_not,true_and,and_true,false_and,and_false,not_true_eq_false,not_false_eq_true,eq_self,decide_true,decide_false,ne_eq,implies_true,forall_const,true_implies,false_implies,Bool.true_eq_false,Bool.false_eq_true,reduceCtorEq,List.map_cons,List.map_nil,List.all_cons,List.all_nil,List.length_cons,List.length_nil,List.length_map,List.length_append,List.nil_append,List.cons_append,List.set_cons_zero,List.set_cons_succ,List.set_nil,List.drop_zero,List.drop_succ_cons,List.drop_nil,List.take_zero,List.take_succ_cons,List.take_nil,Option.map_some,Option.map_none,Option.isSome_some,Nat.reduceEqDiff,Nat.reduceBEq,Nat.reduceGT,List.all_append,List.all_map,Function.comp_def,decide_eq_true_eq,Bool.and_eq_true,beq_self_eq_true,or_self,and_self,ite_true,ite_false,Nat.le_refl,Bool.not_eq_true,decide_not,Bool.not_eq_true',decide_eq_false_iff_not,Bool.not_eq_false,Bool.or_eq_true,if_true,if_false,ite_self,u_roF,u_cvF,u_cvC,u_ceT,u_ceK,u_appS,h1,h2,h3,e]
   ·simp (config := {maxSteps := 4000000,implicitDefEqProofs := false}) (disch := omega) only [go_sem,↓reduceIte,Nat.reduceAdd,Nat.reduceSub,Nat.reduceMul,Nat.reduceLeDiff,Nat.reduceLT,Int.reduceEq,Int.reduceNe,Int.reduceLT,Int.reduceLE,Int.reduceAdd,Int.reduceSub,Int.reduceMul,Int.reduceNeg,Nat.zero_add,Nat.add_zero,Nat.mul_one,Int.toNat_natCast,Int.natCast_zero,Int.cast_ofNat_Int,or_false,false_or,or_true,true_or,Int.reduceToNat,Nat.sub_zero,Int.natCast_nonneg,Int.toNat_zero,Bool.true_and,Bool.and_true,Bool.false_and,Bool.and_false,Bool.true_or,Bool.or_true,Bool.false_or,Bool.or_false,Bool.not_true,Bool.not_false,Bool.not_not,true_and,and_true,false_and,and_false,not_true_eq_false,not_false_eq_true,eq_self,decide_true,decide_false,ne_eq,implies_true,forall_const,true_implies,false_implies,Bool.true_eq_false,Bool.false_eq_true,reduceCtorEq,List.map_cons,List.map_nil,List.all_cons,List.all_nil,List.length_cons,List.length_nil,List.length_map,List.length_append,List.nil_append,List.cons_append,List.set_cons_zero,List.set_cons_succ,List.set_nil,List.drop_zero,List.drop_succ_cons,List.drop_nil,List.take_zero,List.take_succ_cons,List.take_nil,Option.map_some,Option.map_none,Option.isSome_some,Nat.reduceEqDiff,Nat.reduceBEq,Nat.reduceGT,List.all_append,List.all_map,Function.comp_def,decide_eq_true_eq,Bool.and_eq_true,beq_self_eq_true,or_self,and_self,ite_true,ite_false,Nat.le_refl,Bool.not_eq_true,decide_not,Bool.not_eq_true',decide_eq_false_iff_not,Bool.not_eq_false,Bool.or_eq_true,if_true,if_false,ite_self,u_roF,u_cvF,u_cvC,u_ceT,u_ceK,u_appS,h1,h2,h3,e]
  ·simp (config := {maxSteps := 4000000,implicitDefEqProofs := false}) (disch := omega) only [go_sem,↓reduceIte,Nat.reduceAdd,Nat.reduceSub,Nat.reduceMul,Nat.reduceLeDiff,Nat.reduceLT,Int.reduceEq,Int.reduceNe,Int.reduceLT,Int.reduceLE,Int.reduceAdd,Int.reduceSub,Int.reduceMul,Int.reduceNeg,Nat.zero_add,Nat.add_zero,Nat.mul_one,Int.toNat_natCast,Int.natCast_zero,Int.cast_ofNat_Int,or_false,false_or,or_true,true_or,Int.reduceToNat,Nat.sub_zero,Int.natCast_nonneg,Int.toNat_zero,Bool.true_and,Bool.and_true,Bool.false_and,Bool.and_false,Bool.true_or,Bool.or_true,Bool.false_or,Bool.or_false,Bool.not_true,Bool.not_false,Bool.not_not,true_and,and_true,false_and,and_false,not_true_eq_false,not_false_eq_true,eq_self,decide_true,decide_false,ne_eq,implies_true,forall_const,true_implies,false_implies,Bool.true_eq_false,Bool.false_eq_true,reduceCtorEq,List.map_cons,List.map_nil,List.all_cons,List.all_nil,List.length_cons,List.length_nil,List.length_map,List.length_append,List.nil_append,List.cons_append,List.set_cons_zero,List.set_cons_succ,List.set_nil,List.drop_zero,List.drop_succ_cons,List.drop_nil,List.take_zero,List.take_succ_cons,List.take_nil,Option.map_some,Option.map_none,Option.isSome_some,Nat.reduceEqDiff,Nat.reduceBEq,Nat.reduceGT,List.all_append,List.all_map,Function.comp_def,decide_eq_true_eq,Bool.and_eq_true,beq_self_eq_true,or_self,and_self,ite_true,ite_false,Nat.le_refl,Bool.not_eq_true,decide_not,Bool.not_eq_true',decide_eq_false_iff_not,Bool.not_eq_false,Bool.or_eq_true,if_true,if_false,ite_self,u_roF,u_cvF,u_cvC,u_ceT,u_ceK,u_appS,h1,h2,e]
 ·simp (config := {maxSteps := 4000000,implicitDefEqProofs := false}) (disch := omega) only [go_sem,↓reduceIte,Nat.reduceAdd,Nat.reduceSub,Nat.reduceMul,Nat.reduceLeDiff,Nat.reduceLT,Int.reduceEq,Int.reduceNe,Int.reduceLT,Int.reduceLE,Int.reduceAdd,Int.reduceSub,Int.reduceMul,Int.reduceNeg,Nat.zero_add,Nat.add_zero,Nat.mul_one,Int.toNat_natCast,Int.natCast_zero,Int.cast_ofNat_Int,or_false,false_or,or_true,true_or,Int.reduceToNat,Nat.sub_zero,Int.natCast_nonneg,Int.toNat_zero,Bool.true_and,Bool.and_true,Bool.false_and,Bool.and_false,Bool.true_or,Bool.or_true,Bool.false_or,Bool.or_false,Bool.not_true,Bool.not_false,Bool.not_not,true_and,and_true,false_and,and_false,not_true_eq_false,not_false_eq_true,eq_self,decide_true,decide_false,ne_eq,implies_true,forall_const,true_implies,false_implies,Bool.true_eq_false,Bool.false_eq_true,reduceCtorEq,List.map_cons,List.map_nil,List.all_cons,List.all_nil,List.length_cons,List.length_nil,List.length_map,List.length_append,List.nil_append,List.cons_append,List.set_cons_zero,List.set_cons_succ,List.set_nil,List.drop_zero,List.drop_succ_cons,List.drop_nil,List.take_zero,List.take_succ_cons,List.take_nil,Option.map_some,Option.map_none,Option.isSome_some,Nat.reduceEqDiff,Nat.reduceBEq,Nat.reduceGT,List.all_append,List.all_map,Function.comp_def,decide_eq_true_eq,Bool.and_eq_true,beq_self_eq_true,or_self,and_self,ite_true,ite_false,Nat.le_refl,Bool.not_eq_true,decide_not,Bool.not_eq_true',decide_eq_false_iff_not,Bool.not_eq_false,Bool.or_eq_true,if_true,if_false,ite_self,u_roF,u_cvF,u_cvC,u_ceT,u_ceK,u_appS,h1]
theorem encR_len (r : Rs) : ((encRes r.code r.kind r.i r.s r.ver).length = 0) = (rB r = false) := by
 unfold encRes rB
 cases resB r.code r.kind r.i r.s r.ver <;> simp
theorem rmay_s (m : Nat) (r : Rs) : plenumref22_MayResult m (rA r) = some (bA (rB r),[]) := by
 have hV := plenumref07_May_e m r.kind r.i r.s
 rw [plenumref22_MayResult_eq,rA_def]
 unfold rB resB
 by_cases h1 : 0 ≤ r.code
 ·by_cases h2 : r.code ≤ 23
  ·cases hv : valB r.kind r.i r.s with
   |false =>
    rw [hv] at hV
    simp (config := {maxSteps := 4000000,implicitDefEqProofs := false}) (disch := omega) only [go_sem,↓reduceIte,Nat.reduceAdd,Nat.reduceSub,Nat.reduceMul,Nat.reduceLeDiff,Nat.reduceLT,Int.reduceEq,Int.reduceNe,Int.reduceLT,Int.reduceLE,Int.reduceAdd,Int.reduceSub,Int.reduceMul,Int.reduceNeg,Nat.zero_add,Nat.add_zero,Nat.mul_one,Int.toNat_natCast,Int.natCast_zero,Int.cast_ofNat_Int,or_false,false_or,or_true,true_or,Int.reduceToNat,Nat.sub_zero,Int.natCast_nonneg,Int.toNat_zero,Bool.true_and,Bool.and_true,Bool.false_and,Bool.and_false,Bool.true_or,Bool.or_true,Bool.false_or,Bool.or_false,Bool.not_true,Bool.not_false,Bool.not_not,true_and,and_true,false_and,and_false,not_true_eq_false,not_false_eq_true,eq_self,decide_true,decide_false,ne_eq,implies_true,forall_const,true_implies,false_implies,Bool.true_eq_false,Bool.false_eq_true,reduceCtorEq,List.map_cons,List.map_nil,List.all_cons,List.all_nil,List.length_cons,List.length_nil,List.length_map,List.length_append,List.nil_append,List.cons_append,List.set_cons_zero,List.set_cons_succ,List.set_nil,List.drop_zero,List.drop_succ_cons,List.drop_nil,List.take_zero,List.take_succ_cons,List.take_nil,Option.map_some,Option.map_none,Option.isSome_some,Nat.reduceEqDiff,Nat.reduceBEq,Nat.reduceGT,List.all_append,List.all_map,Function.comp_def,decide_eq_true_eq,Bool.and_eq_true,beq_self_eq_true,or_self,and_self,ite_true,ite_false,Nat.le_refl,Bool.not_eq_true,decide_not,Bool.not_eq_true',decide_eq_false_iff_not,Bool.not_eq_false,Bool.or_eq_true,if_true,if_false,ite_self,u_roF,u_cvF,u_cvC,u_ceT,u_ceK,u_appS,rc_len,rc_sure,rc_ltA,rc_lt1,rc_all1,rc_ro,rc_take,rc_code,rc_ver,rc_val,h1,h2,hV]
   |true =>
    rw [hv] at hV
    by_cases h3 : 0 ≤ r.ver
    ·simp (config := {maxSteps := 4000000,implicitDefEqProofs := false}) (disch := omega) only [go_sem,↓reduceIte,Nat.reduceAdd,Nat.reduceSub,Nat.reduceMul,Nat.reduceLeDiff,Nat.reduceLT,Int.reduceEq,Int.reduceNe,Int.reduceLT,Int.reduceLE,Int.reduceAdd,Int.reduceSub,Int.reduceMul,Int.reduceNeg,Nat.zero_add,Nat.add_zero,Nat.mul_one,Int.toNat_natCast,Int.natCast_zero,Int.cast_ofNat_Int,or_false,false_or,or_true,true_or,Int.reduceToNat,Nat.sub_zero,Int.natCast_nonneg,Int.toNat_zero,Bool.true_and,Bool.and_true,Bool.false_and,Bool.and_false,Bool.true_or,Bool.or_true,Bool.false_or,Bool.or_false,Bool.not_true,Bool.not_false,Bool.not_not,true_and,and_true,false_and,and_false,not_true_eq_false,not_false_eq_true,eq_self,decide_true,decide_false,ne_eq,implies_true,forall_const,true_implies,false_implies,Bool.true_eq_false,Bool.false_eq_true,reduceCtorEq,List.map_cons,List.map_nil,List.all_cons,List.all_nil,List.length_cons,List.length_nil,List.length_map,List.length_append,List.nil_append,List.cons_append,List.set_cons_zero,List.set_cons_succ,List.set_nil,List.drop_zero,List.drop_succ_cons,List.drop_nil,List.take_zero,List.take_succ_cons,List.take_nil,Option.map_some,Option.map_none,Option.isSome_some,Nat.reduceEqDiff,Nat.reduceBEq,Nat.reduceGT,List.all_append,List.all_map,Function.comp_def,decide_eq_true_eq,Bool.and_eq_true,beq_self_eq_true,or_self,and_self,ite_true,ite_false,Nat.le_refl,Bool.not_eq_true,decide_not,Bool.not_eq_true',decide_eq_false_iff_not,Bool.not_eq_false,Bool.or_eq_true,if_true,if_false,ite_self,u_roF,u_cvF,u_cvC,u_ceT,u_ceK,u_appS,rc_len,rc_sure,rc_ltA,rc_lt1,rc_all1,rc_ro,rc_take,rc_code,rc_ver,rc_val,h1,h2,h3,hV]
    ·simp (config := {maxSteps := 4000000,implicitDefEqProofs := false}) (disch := omega) only [go_sem,↓reduceIte,Nat.reduceAdd,Nat.reduceSub,Nat.reduceMul,Nat.reduceLeDiff,Nat.reduceLT,Int.reduceEq,Int.reduceNe,Int.reduceLT,Int.reduceLE,Int.reduceAdd,Int.reduceSub,Int.reduceMul,Int.reduceNeg,Nat.zero_add,Nat.add_zero,Nat.mul_one,Int.toNat_natCast,Int.natCast_zero,Int.cast_ofNat_Int,or_false,false_or,or_true,true_or,Int.reduceToNat,Nat.sub_zero,Int.natCast_nonneg,Int.toNat_zero,Bool.true_and,Bool.and_true,Bool.false_and,Bool.and_false,Bool.true_or,Bool.or_true,Bool.false_or,Bool.or_false,Bool.not_true,Bool.not_false,Bool.not_not,true_and,and_true,false_and,and_false,not_true_eq_false,not_false_eq_true,eq_self,decide_true,decide_false,ne_eq,implies_true,forall_const,true_implies,false_implies,Bool.true_eq_false,Bool.false_eq_true,reduceCtorEq,List.map_cons,List.map_nil,List.all_cons,List.all_nil,List.length_cons,List.length_nil,List.length_map,List.length_append,List.nil_append,List.cons_append,List.set_cons_zero,List.set_cons_succ,List.set_nil,List.drop_zero,List.drop_succ_cons,List.drop_nil,List.take_zero,List.take_succ_cons,List.take_nil,Option.map_some,Option.map_none,Option.isSome_some,Nat.reduceEqDiff,Nat.reduceBEq,Nat.reduceGT,List.all_append,List.all_map,Function.comp_def,decide_eq_true_eq,Bool.and_eq_true,beq_self_eq_true,or_self,and_self,ite_true,ite_false,Nat.le_refl,Bool.not_eq_true,decide_not,Bool.not_eq_true',decide_eq_false_iff_not,Bool.not_eq_false,Bool.or_eq_true,if_true,if_false,ite_self,u_roF,u_cvF,u_cvC,u_ceT,u_ceK,u_appS,rc_len,rc_sure,rc_ltA,rc_lt1,rc_all1,rc_ro,rc_take,rc_code,rc_ver,rc_val,h1,h2,h3,hV]
  ·simp (config := {maxSteps := 4000000,implicitDefEqProofs := false}) (disch := omega) only [go_sem,↓reduceIte,Nat.reduceAdd,Nat.reduceSub,Nat.reduceMul,Nat.reduceLeDiff,Nat.reduceLT,Int.reduceEq,Int.reduceNe,Int.reduceLT,Int.reduceLE,Int.reduceAdd,Int.reduceSub,Int.reduceMul,Int.reduceNeg,Nat.zero_add,Nat.add_zero,Nat.mul_one,Int.toNat_natCast,Int.natCast_zero,Int.cast_ofNat_Int,or_false,false_or,or_true,true_or,Int.reduceToNat,Nat.sub_zero,Int.natCast_nonneg,Int.toNat_zero,Bool.true_and,Bool.and_true,Bool.false_and,Bool.and_false,Bool.true_or,Bool.or_true,Bool.false_or,Bool.or_false,Bool.not_true,Bool.not_false,Bool.not_not,true_and,and_true,false_and,and_false,not_true_eq_false,not_false_eq_true,eq_self,decide_true,decide_false,ne_eq,implies_true,forall_const,true_implies,false_implies,Bool.true_eq_false,Bool.false_eq_true,reduceCtorEq,List.map_cons,List.map_nil,List.all_cons,List.all_nil,List.length_cons,List.length_nil,List.length_map,List.length_append,List.nil_append,List.cons_append,List.set_cons_zero,List.set_cons_succ,List.set_nil,List.drop_zero,List.drop_succ_cons,List.drop_nil,List.take_zero,List.take_succ_cons,List.take_nil,Option.map_some,Option.map_none,Option.isSome_some,Nat.reduceEqDiff,Nat.reduceBEq,Nat.reduceGT,List.all_append,List.all_map,Function.comp_def,decide_eq_true_eq,Bool.and_eq_true,beq_self_eq_true,or_self,and_self,ite_true,ite_false,Nat.le_refl,Bool.not_eq_true,decide_not,Bool.not_eq_true',decide_eq_false_iff_not,Bool.not_eq_false,Bool.or_eq_true,if_true,if_false,ite_self,u_roF,u_cvF,u_cvC,u_ceT,u_ceK,u_appS,rc_len,rc_sure,rc_ltA,rc_lt1,rc_all1,rc_ro,rc_take,rc_code,rc_ver,rc_val,h1,h2]
 ·simp (config := {maxSteps := 4000000,implicitDefEqProofs := false}) (disch := omega) only [go_sem,↓reduceIte,Nat.reduceAdd,Nat.reduceSub,Nat.reduceMul,Nat.reduceLeDiff,Nat.reduceLT,Int.reduceEq,Int.reduceNe,Int.reduceLT,Int.reduceLE,Int.reduceAdd,Int.reduceSub,Int.reduceMul,Int.reduceNeg,Nat.zero_add,Nat.add_zero,Nat.mul_one,Int.toNat_natCast,Int.natCast_zero,Int.cast_ofNat_Int,or_false,false_or,or_true,true_or,Int.reduceToNat,Nat.sub_zero,Int.natCast_nonneg,Int.toNat_zero,Bool.true_and,Bool.and_true,Bool.false_and,Bool.and_false,Bool.true_or,Bool.or_true,Bool.false_or,Bool.or_false,Bool.not_true,Bool.not_false,Bool.not_not,true_and,and_true,false_and,and_false,not_true_eq_false,not_false_eq_true,eq_self,decide_true,decide_false,ne_eq,implies_true,forall_const,true_implies,false_implies,Bool.true_eq_false,Bool.false_eq_true,reduceCtorEq,List.map_cons,List.map_nil,List.all_cons,List.all_nil,List.length_cons,List.length_nil,List.length_map,List.length_append,List.nil_append,List.cons_append,List.set_cons_zero,List.set_cons_succ,List.set_nil,List.drop_zero,List.drop_succ_cons,List.drop_nil,List.take_zero,List.take_succ_cons,List.take_nil,Option.map_some,Option.map_none,Option.isSome_some,Nat.reduceEqDiff,Nat.reduceBEq,Nat.reduceGT,List.all_append,List.all_map,Function.comp_def,decide_eq_true_eq,Bool.and_eq_true,beq_self_eq_true,or_self,and_self,ite_true,ite_false,Nat.le_refl,Bool.not_eq_true,decide_not,Bool.not_eq_true',decide_eq_false_iff_not,Bool.not_eq_false,Bool.or_eq_true,if_true,if_false,ite_self,u_roF,u_cvF,u_cvC,u_ceT,u_ceK,u_appS,rc_len,rc_sure,rc_ltA,rc_lt1,rc_all1,rc_ro,rc_take,rc_code,rc_ver,rc_val,h1]
theorem enc_s (m : Nat) (r : Rs) (h : r.In) : txn_EncodeResult_t m [.agg (rC r)] = some (SL ((encRes r.code r.kind r.i r.s r.ver).map fun b=>V (cB b)),[]) := txn_EncodeResult_e m r.code r.kind r.i r.s r.ver h
theorem check_s (m : Nat) (l : List La) (hm : l.length < m) (hl : l.length ≤ 34359738367) (h : ∀ x ∈ l,x.r.In) : replies_Check m (lL l) = some (TU [nA (chkL l).1,nA (chkL l).2],[]) := by
 rw [replies_Check_eq,lL_def]
 unfold chkL
 simp (config := {maxSteps := 4000000,implicitDefEqProofs := false}) (disch := omega) only [go_sem,↓reduceIte,Nat.reduceAdd,Nat.reduceSub,Nat.reduceMul,Nat.reduceLeDiff,Nat.reduceLT,Int.reduceEq,Int.reduceNe,Int.reduceLT,Int.reduceLE,Int.reduceAdd,Int.reduceSub,Int.reduceMul,Int.reduceNeg,Nat.zero_add,Nat.add_zero,Nat.mul_one,Int.toNat_natCast,Int.natCast_zero,Int.cast_ofNat_Int,or_false,false_or,or_true,true_or,Int.reduceToNat,Nat.sub_zero,Int.natCast_nonneg,Int.toNat_zero,Bool.true_and,Bool.and_true,Bool.false_and,Bool.and_false,Bool.true_or,Bool.or_true,Bool.false_or,Bool.or_false,Bool.not_true,Bool.not_false,Bool.not_not,true_and,and_true,false_and,and_false,not_true_eq_false,not_false_eq_true,eq_self,decide_true,decide_false,ne_eq,implies_true,forall_const,true_implies,false_implies,Bool.true_eq_false,Bool.false_eq_true,reduceCtorEq,List.map_cons,List.map_nil,List.all_cons,List.all_nil,List.length_cons,List.length_nil,List.length_map,List.length_append,List.nil_append,List.cons_append,List.set_cons_zero,List.set_cons_succ,List.set_nil,List.drop_zero,List.drop_succ_cons,List.drop_nil,List.take_zero,List.take_succ_cons,List.take_nil,Option.map_some,Option.map_none,Option.isSome_some,Nat.reduceEqDiff,Nat.reduceBEq,Nat.reduceGT,List.all_append,List.all_map,Function.comp_def,decide_eq_true_eq,Bool.and_eq_true,beq_self_eq_true,or_self,and_self,ite_true,ite_false,Nat.le_refl,Bool.not_eq_true,decide_not,Bool.not_eq_true',decide_eq_false_iff_not,Bool.not_eq_false,Bool.or_eq_true,if_true,if_false,ite_self,u_roF,u_cvF,u_cvC,u_ceT,u_ceK,u_appS,hl]
 generalize hR : chkG none 0 l = R
 obtain ⟨e,a⟩ := R
 refine iter_go (ι := {k : Nat // k ≤ l.length ∧ chkG (prevL l k) k (l.drop k) = (e,a)}) (fun k=>⟨[],[(0,SL (l.map laE)),(6,SL (l.map laE)),(7,nA l.length),(8,nA k.1)]⟩) (fun k=>l.length - k.1) (fun _=>some (TU [nA e,nA a],[])) ?_ ⟨0,Nat.zero_le _,hR⟩ (by dsimp only;omega)
 rintro kx hkx ⟨k,hk,hinv⟩ kc hkc
 dsimp only at hkc ⊢
 rw [replies_Check_b1_eq]
 by_cases hlt : k < l.length
 ·have hlt' : (k : Int) < (l.length : Int) := by omega
  have hC := could_s m l[k].cl l[k].tm
  have hE := enc_s m l[k].r (h _ (List.getElem_mem hlt))
  have hen := encR_len l[k].r
  have hcase := chkG_at hlt hinv
  have step : bad26 (prevL l k) l[k] = 0 → kc ⟨[],[(0,SL (l.map laE)),(6,SL (l.map laE)),(7,nA l.length),(8,nA ((k : Int) + 1))]⟩ = some (TU [nA e,nA a],[]) := fun h0=>by
   rcases hcase with ⟨_,h2⟩|⟨h1,_⟩
   ·exact hkc ⟨k + 1,by omega,h2⟩ (by dsimp only;omega)
   ·exact absurd h0 h1
  have stop : bad26 (prevL l k) l[k] ≠ 0 → e = bad26 (prevL l k) l[k] ∧ a = k := fun h0=>by
   rcases hcase with ⟨h1,_⟩|⟨_,h2⟩
   ·exact absurd h1 h0
   ·exact h2
  cases hc : could l[k].cl l[k].tm with
  |false =>
   rw [hc] at hC
   have hb : bad26 (prevL l k) l[k] = 1 := by unfold bad26;rw [hc];simp
   obtain ⟨rfl,rfl⟩ := stop (by rw [hb];omega)
   rw [hb]
   simp (config := {maxSteps := 4000000,implicitDefEqProofs := false}) (disch := omega) only [go_sem,↓reduceIte,Nat.reduceAdd,Nat.reduceSub,Nat.reduceMul,Nat.reduceLeDiff,Nat.reduceLT,Int.reduceEq,Int.reduceNe,Int.reduceLT,Int.reduceLE,Int.reduceAdd,Int.reduceSub,Int.reduceMul,Int.reduceNeg,Nat.zero_add,Nat.add_zero,Nat.mul_one,Int.toNat_natCast,Int.natCast_zero,Int.cast_ofNat_Int,or_false,false_or,or_true,true_or,Int.reduceToNat,Nat.sub_zero,Int.natCast_nonneg,Int.toNat_zero,Bool.true_and,Bool.and_true,Bool.false_and,Bool.and_false,Bool.true_or,Bool.or_true,Bool.false_or,Bool.or_false,Bool.not_true,Bool.not_false,Bool.not_not,true_and,and_true,false_and,and_false,not_true_eq_false,not_false_eq_true,eq_self,decide_true,decide_false,ne_eq,implies_true,forall_const,true_implies,false_implies,Bool.true_eq_false,Bool.false_eq_true,reduceCtorEq,List.map_cons,List.map_nil,List.all_cons,List.all_nil,List.length_cons,List.length_nil,List.length_map,List.length_append,List.nil_append,List.cons_append,List.set_cons_zero,List.set_cons_succ,List.set_nil,List.drop_zero,List.drop_succ_cons,List.drop_nil,List.take_zero,List.take_succ_cons,List.take_nil,Option.map_some,Option.map_none,Option.isSome_some,Nat.reduceEqDiff,Nat.reduceBEq,Nat.reduceGT,List.all_append,List.all_map,Function.comp_def,decide_eq_true_eq,Bool.and_eq_true,beq_self_eq_true,or_self,and_self,ite_true,ite_false,Nat.le_refl,Bool.not_eq_true,decide_not,Bool.not_eq_true',decide_eq_false_iff_not,Bool.not_eq_false,Bool.or_eq_true,if_true,if_false,ite_self,u_roF,u_cvF,u_cvC,u_ceT,u_ceK,u_appS,la_it,la_len,la_sure,la_ltA,la_lt1,la_all1,la_ro,la_take,la_cl,la_tm,la_r,la_sl,rc_len,rc_sure,rc_ltA,rc_lt1,rc_all1,rc_ro,rc_take,rc_sl,la_set,rc_set,zcL_eq,zcR_eq,la_allA,la_len7,all_tt,natInt,u_nthM,hlt',w_i64,replies_Check_r5_eq,replies_Check_r4_eq,replies_Check_r3_eq,replies_Check_r2_eq,replies_Check_r1_eq,hC,hkx]
  |true =>
  rw [hc] at hC
  cases hr : rB l[k].r with
  |false =>
   have hb : bad26 (prevL l k) l[k] = 1 := by unfold bad26;rw [hc,hr];simp
   obtain ⟨rfl,rfl⟩ := stop (by rw [hb];omega)
   rw [hr] at hen
   have hen' : (encRes l[k].r.code l[k].r.kind l[k].r.i l[k].r.s l[k].r.ver).length = 0 := by rw [hen]
   rw [hb]
   simp (config := {maxSteps := 4000000,implicitDefEqProofs := false}) (disch := omega) only [go_sem,↓reduceIte,Nat.reduceAdd,Nat.reduceSub,Nat.reduceMul,Nat.reduceLeDiff,Nat.reduceLT,Int.reduceEq,Int.reduceNe,Int.reduceLT,Int.reduceLE,Int.reduceAdd,Int.reduceSub,Int.reduceMul,Int.reduceNeg,Nat.zero_add,Nat.add_zero,Nat.mul_one,Int.toNat_natCast,Int.natCast_zero,Int.cast_ofNat_Int,or_false,false_or,or_true,true_or,Int.reduceToNat,Nat.sub_zero,Int.natCast_nonneg,Int.toNat_zero,Bool.true_and,Bool.and_true,Bool.false_and,Bool.and_false,Bool.true_or,Bool.or_true,Bool.false_or,Bool.or_false,Bool.not_true,Bool.not_false,Bool.not_not,true_and,and_true,false_and,and_false,not_true_eq_false,not_false_eq_true,eq_self,decide_true,decide_false,ne_eq,implies_true,forall_const,true_implies,false_implies,Bool.true_eq_false,Bool.false_eq_true,reduceCtorEq,List.map_cons,List.map_nil,List.all_cons,List.all_nil,List.length_cons,List.length_nil,List.length_map,List.length_append,List.nil_append,List.cons_append,List.set_cons_zero,List.set_cons_succ,List.set_nil,List.drop_zero,List.drop_succ_cons,List.drop_nil,List.take_zero,List.take_succ_cons,List.take_nil,Option.map_some,Option.map_none,Option.isSome_some,Nat.reduceEqDiff,Nat.reduceBEq,Nat.reduceGT,List.all_append,List.all_map,Function.comp_def,decide_eq_true_eq,Bool.and_eq_true,beq_self_eq_true,or_self,and_self,ite_true,ite_false,Nat.le_refl,Bool.not_eq_true,decide_not,Bool.not_eq_true',decide_eq_false_iff_not,Bool.not_eq_false,Bool.or_eq_true,if_true,if_false,ite_self,u_roF,u_cvF,u_cvC,u_ceT,u_ceK,u_appS,la_it,la_len,la_sure,la_ltA,la_lt1,la_all1,la_ro,la_take,la_cl,la_tm,la_r,la_sl,rc_len,rc_sure,rc_ltA,rc_lt1,rc_all1,rc_ro,rc_take,rc_sl,la_set,rc_set,zcL_eq,zcR_eq,la_allA,la_len7,all_tt,natInt,u_nthM,hlt',w_i64,replies_Check_r5_eq,replies_Check_r4_eq,replies_Check_r3_eq,replies_Check_r2_eq,replies_Check_r1_eq,hC,hE,hen',hkx]
  |true =>
   rw [hr] at hen
   have hen' : ¬ ((encRes l[k].r.code l[k].r.kind l[k].r.i l[k].r.s l[k].r.ver).length : Int) = 0 := by
    intro q
    have q : (encRes l[k].r.code l[k].r.kind l[k].r.i l[k].r.s l[k].r.ver).length = 0 := by omega
    rw [hen] at q;cases q
   by_cases h0 : k = 0
   ·have hk0 : ¬ (0 : Int) < (k : Int) := by omega
    have hb : bad26 (prevL l k) l[k] = 0 := by unfold bad26;rw [if_pos ⟨hc,hr⟩];unfold prevL;rw [if_pos h0]
    have step := step hb
    simp (config := {maxSteps := 4000000,implicitDefEqProofs := false}) (disch := omega) only [go_sem,↓reduceIte,Nat.reduceAdd,Nat.reduceSub,Nat.reduceMul,Nat.reduceLeDiff,Nat.reduceLT,Int.reduceEq,Int.reduceNe,Int.reduceLT,Int.reduceLE,Int.reduceAdd,Int.reduceSub,Int.reduceMul,Int.reduceNeg,Nat.zero_add,Nat.add_zero,Nat.mul_one,Int.toNat_natCast,Int.natCast_zero,Int.cast_ofNat_Int,or_false,false_or,or_true,true_or,Int.reduceToNat,Nat.sub_zero,Int.natCast_nonneg,Int.toNat_zero,Bool.true_and,Bool.and_true,Bool.false_and,Bool.and_false,Bool.true_or,Bool.or_true,Bool.false_or,Bool.or_false,Bool.not_true,Bool.not_false,Bool.not_not,true_and,and_true,false_and,and_false,not_true_eq_false,not_false_eq_true,eq_self,decide_true,decide_false,ne_eq,implies_true,forall_const,true_implies,false_implies,Bool.true_eq_false,Bool.false_eq_true,reduceCtorEq,List.map_cons,List.map_nil,List.all_cons,List.all_nil,List.length_cons,List.length_nil,List.length_map,List.length_append,List.nil_append,List.cons_append,List.set_cons_zero,List.set_cons_succ,List.set_nil,List.drop_zero,List.drop_succ_cons,List.drop_nil,List.take_zero,List.take_succ_cons,List.take_nil,Option.map_some,Option.map_none,Option.isSome_some,Nat.reduceEqDiff,Nat.reduceBEq,Nat.reduceGT,List.all_append,List.all_map,Function.comp_def,decide_eq_true_eq,Bool.and_eq_true,beq_self_eq_true,or_self,and_self,ite_true,ite_false,Nat.le_refl,Bool.not_eq_true,decide_not,Bool.not_eq_true',decide_eq_false_iff_not,Bool.not_eq_false,Bool.or_eq_true,if_true,if_false,ite_self,u_roF,u_cvF,u_cvC,u_ceT,u_ceK,u_appS,la_it,la_len,la_sure,la_ltA,la_lt1,la_all1,la_ro,la_take,la_cl,la_tm,la_r,la_sl,rc_len,rc_sure,rc_ltA,rc_lt1,rc_all1,rc_ro,rc_take,rc_sl,la_set,rc_set,zcL_eq,zcR_eq,la_allA,la_len7,all_tt,natInt,u_nthM,hlt',w_i64,replies_Check_r5_eq,replies_Check_r4_eq,replies_Check_r3_eq,replies_Check_r2_eq,replies_Check_r1_eq,hC,hE,hen',hk0]
    exact step
   ·have hk0 : (0 : Int) < (k : Int) := by omega
    have hk1 : (k : Int) - 1 = ((k - 1 : Nat) : Int) := by omega
    have hlt1 : k - 1 < l.length := by omega
    have hlt1' : ((k - 1 : Nat) : Int) < (l.length : Int) := by omega
    have hp : prevL l k = some l[k - 1] := by unfold prevL;rw [if_neg h0,List.getElem?_eq_getElem hlt1]
    by_cases hq : l[k].cl ≤ l[k - 1].cl
    ·have hb : bad26 (prevL l k) l[k] = 3 := by unfold bad26;rw [if_pos ⟨hc,hr⟩,hp];dsimp only;rw [if_pos hq]
     obtain ⟨rfl,rfl⟩ := stop (by rw [hb];omega)
     rw [hb]
     simp (config := {maxSteps := 4000000,implicitDefEqProofs := false}) (disch := omega) only [go_sem,↓reduceIte,Nat.reduceAdd,Nat.reduceSub,Nat.reduceMul,Nat.reduceLeDiff,Nat.reduceLT,Int.reduceEq,Int.reduceNe,Int.reduceLT,Int.reduceLE,Int.reduceAdd,Int.reduceSub,Int.reduceMul,Int.reduceNeg,Nat.zero_add,Nat.add_zero,Nat.mul_one,Int.toNat_natCast,Int.natCast_zero,Int.cast_ofNat_Int,or_false,false_or,or_true,true_or,Int.reduceToNat,Nat.sub_zero,Int.natCast_nonneg,Int.toNat_zero,Bool.true_and,Bool.and_true,Bool.false_and,Bool.and_false,Bool.true_or,Bool.or_true,Bool.false_or,Bool.or_false,Bool.not_true,Bool.not_false,Bool.not_not,true_and,and_true,false_and,and_false,not_true_eq_false,not_false_eq_true,eq_self,decide_true,decide_false,ne_eq,implies_true,forall_const,true_implies,false_implies,Bool.true_eq_false,Bool.false_eq_true,reduceCtorEq,List.map_cons,List.map_nil,List.all_cons,List.all_nil,List.length_cons,List.length_nil,List.length_map,List.length_append,List.nil_append,List.cons_append,List.set_cons_zero,List.set_cons_succ,List.set_nil,List.drop_zero,List.drop_succ_cons,List.drop_nil,List.take_zero,List.take_succ_cons,List.take_nil,Option.map_some,Option.map_none,Option.isSome_some,Nat.reduceEqDiff,Nat.reduceBEq,Nat.reduceGT,List.all_append,List.all_map,Function.comp_def,decide_eq_true_eq,Bool.and_eq_true,beq_self_eq_true,or_self,and_self,ite_true,ite_false,Nat.le_refl,Bool.not_eq_true,decide_not,Bool.not_eq_true',decide_eq_false_iff_not,Bool.not_eq_false,Bool.or_eq_true,if_true,if_false,ite_self,u_roF,u_cvF,u_cvC,u_ceT,u_ceK,u_appS,la_it,la_len,la_sure,la_ltA,la_lt1,la_all1,la_ro,la_take,la_cl,la_tm,la_r,la_sl,rc_len,rc_sure,rc_ltA,rc_lt1,rc_all1,rc_ro,rc_take,rc_sl,la_set,rc_set,zcL_eq,zcR_eq,la_allA,la_len7,all_tt,natInt,u_nthM,hlt',w_i64,replies_Check_r5_eq,replies_Check_r4_eq,replies_Check_r3_eq,replies_Check_r2_eq,replies_Check_r1_eq,hC,hE,hen',hk0,hk1,hlt1',hq,hkx]
    ·have hb : bad26 (prevL l k) l[k] = 0 := by unfold bad26;rw [if_pos ⟨hc,hr⟩,hp];dsimp only;rw [if_neg hq]
     have step := step hb
     simp (config := {maxSteps := 4000000,implicitDefEqProofs := false}) (disch := omega) only [go_sem,↓reduceIte,Nat.reduceAdd,Nat.reduceSub,Nat.reduceMul,Nat.reduceLeDiff,Nat.reduceLT,Int.reduceEq,Int.reduceNe,Int.reduceLT,Int.reduceLE,Int.reduceAdd,Int.reduceSub,Int.reduceMul,Int.reduceNeg,Nat.zero_add,Nat.add_zero,Nat.mul_one,Int.toNat_natCast,Int.natCast_zero,Int.cast_ofNat_Int,or_false,false_or,or_true,true_or,Int.reduceToNat,Nat.sub_zero,Int.natCast_nonneg,Int.toNat_zero,Bool.true_and,Bool.and_true,Bool.false_and,Bool.and_false,Bool.true_or,Bool.or_true,Bool.false_or,Bool.or_false,Bool.not_true,Bool.not_false,Bool.not_not,true_and,and_true,false_and,and_false,not_true_eq_false,not_false_eq_true,eq_self,decide_true,decide_false,ne_eq,implies_true,forall_const,true_implies,false_implies,Bool.true_eq_false,Bool.false_eq_true,reduceCtorEq,List.map_cons,List.map_nil,List.all_cons,List.all_nil,List.length_cons,List.length_nil,List.length_map,List.length_append,List.nil_append,List.cons_append,List.set_cons_zero,List.set_cons_succ,List.set_nil,List.drop_zero,List.drop_succ_cons,List.drop_nil,List.take_zero,List.take_succ_cons,List.take_nil,Option.map_some,Option.map_none,Option.isSome_some,Nat.reduceEqDiff,Nat.reduceBEq,Nat.reduceGT,List.all_append,List.all_map,Function.comp_def,decide_eq_true_eq,Bool.and_eq_true,beq_self_eq_true,or_self,and_self,ite_true,ite_false,Nat.le_refl,Bool.not_eq_true,decide_not,Bool.not_eq_true',decide_eq_false_iff_not,Bool.not_eq_false,Bool.or_eq_true,if_true,if_false,ite_self,u_roF,u_cvF,u_cvC,u_ceT,u_ceK,u_appS,la_it,la_len,la_sure,la_ltA,la_lt1,la_all1,la_ro,la_take,la_cl,la_tm,la_r,la_sl,rc_len,rc_sure,rc_ltA,rc_lt1,rc_all1,rc_ro,rc_take,rc_sl,la_set,rc_set,zcL_eq,zcR_eq,la_allA,la_len7,all_tt,natInt,u_nthM,hlt',w_i64,replies_Check_r5_eq,replies_Check_r4_eq,replies_Check_r3_eq,replies_Check_r2_eq,replies_Check_r1_eq,hC,hE,hen',hk0,hk1,hlt1',hq]
     exact step
 ·have hlt' : ¬ (k : Int) < (l.length : Int) := by omega
  have : k = l.length := by omega
  subst this
  obtain ⟨rfl,rfl⟩ := chkG_end hinv
  simp (config := {maxSteps := 4000000,implicitDefEqProofs := false}) (disch := omega) only [go_sem,↓reduceIte,Nat.reduceAdd,Nat.reduceSub,Nat.reduceMul,Nat.reduceLeDiff,Nat.reduceLT,Int.reduceEq,Int.reduceNe,Int.reduceLT,Int.reduceLE,Int.reduceAdd,Int.reduceSub,Int.reduceMul,Int.reduceNeg,Nat.zero_add,Nat.add_zero,Nat.mul_one,Int.toNat_natCast,Int.natCast_zero,Int.cast_ofNat_Int,or_false,false_or,or_true,true_or,Int.reduceToNat,Nat.sub_zero,Int.natCast_nonneg,Int.toNat_zero,Bool.true_and,Bool.and_true,Bool.false_and,Bool.and_false,Bool.true_or,Bool.or_true,Bool.false_or,Bool.or_false,Bool.not_true,Bool.not_false,Bool.not_not,true_and,and_true,false_and,and_false,not_true_eq_false,not_false_eq_true,eq_self,decide_true,decide_false,ne_eq,implies_true,forall_const,true_implies,false_implies,Bool.true_eq_false,Bool.false_eq_true,reduceCtorEq,List.map_cons,List.map_nil,List.all_cons,List.all_nil,List.length_cons,List.length_nil,List.length_map,List.length_append,List.nil_append,List.cons_append,List.set_cons_zero,List.set_cons_succ,List.set_nil,List.drop_zero,List.drop_succ_cons,List.drop_nil,List.take_zero,List.take_succ_cons,List.take_nil,Option.map_some,Option.map_none,Option.isSome_some,Nat.reduceEqDiff,Nat.reduceBEq,Nat.reduceGT,List.all_append,List.all_map,Function.comp_def,decide_eq_true_eq,Bool.and_eq_true,beq_self_eq_true,or_self,and_self,ite_true,ite_false,Nat.le_refl,Bool.not_eq_true,decide_not,Bool.not_eq_true',decide_eq_false_iff_not,Bool.not_eq_false,Bool.or_eq_true,if_true,if_false,ite_self,u_roF,u_cvF,u_cvC,u_ceT,u_ceK,u_appS,hkx,hlt',replies_Check_r5_eq,replies_Check_r4_eq,replies_Check_r3_eq,replies_Check_r2_eq,replies_Check_r1_eq]
theorem rcheck_s (m : Nat) (l : List La) (hm : l.length < m) (hl : l.length ≤ 34359738367) : plenumref26_Check m (lL l) = some (TU [nA (chkL l).1,nA (chkL l).2],[]) := by
 rw [plenumref26_Check_eq,lL_def]
 unfold chkL
 generalize hR : chkG none 0 l = R
 obtain ⟨e,a⟩ := R
 refine iter_go (ι := {k : Nat // k ≤ l.length ∧ chkG (prevL l k) k (l.drop k) = (e,a)}) (fun k=>⟨[],[(0,SL (l.map laE)),(4,nA k.1)]⟩) (fun k=>l.length - k.1) (fun _=>some (TU [nA e,nA a],[])) ?_ ⟨0,Nat.zero_le _,hR⟩ (by dsimp only;omega)
 rintro kx hkx ⟨k,hk,hinv⟩ kc hkc
 dsimp only at hkc ⊢
 rw [plenumref26_Check_b1_eq]
 by_cases hlt : k < l.length
 ·have hlt' : (k : Int) < (l.length : Int) := by omega
  have hC := rcould_s m l[k].cl l[k].tm
  have hE := rmay_s m l[k].r
  rw [rA_def] at hE
  have hcase := chkG_at hlt hinv
  have step : bad26 (prevL l k) l[k] = 0 → kc ⟨[],[(0,SL (l.map laE)),(4,nA ((k : Int) + 1))]⟩ = some (TU [nA e,nA a],[]) := fun h0=>by
   rcases hcase with ⟨_,h2⟩|⟨h1,_⟩
   ·exact hkc ⟨k + 1,by omega,h2⟩ (by dsimp only;omega)
   ·exact absurd h0 h1
  have stop : bad26 (prevL l k) l[k] ≠ 0 → e = bad26 (prevL l k) l[k] ∧ a = k := fun h0=>by
   rcases hcase with ⟨h1,_⟩|⟨_,h2⟩
   ·exact absurd h1 h0
   ·exact h2
  cases hc : could l[k].cl l[k].tm with
  |false =>
   rw [hc] at hC
   have hb : bad26 (prevL l k) l[k] = 1 := by unfold bad26;rw [hc];simp
   obtain ⟨rfl,rfl⟩ := stop (by rw [hb];omega)
   rw [hb]
   simp (config := {maxSteps := 4000000,implicitDefEqProofs := false}) (disch := omega) only [go_sem,↓reduceIte,Nat.reduceAdd,Nat.reduceSub,Nat.reduceMul,Nat.reduceLeDiff,Nat.reduceLT,Int.reduceEq,Int.reduceNe,Int.reduceLT,Int.reduceLE,Int.reduceAdd,Int.reduceSub,Int.reduceMul,Int.reduceNeg,Nat.zero_add,Nat.add_zero,Nat.mul_one,Int.toNat_natCast,Int.natCast_zero,Int.cast_ofNat_Int,or_false,false_or,or_true,true_or,Int.reduceToNat,Nat.sub_zero,Int.natCast_nonneg,Int.toNat_zero,Bool.true_and,Bool.and_true,Bool.false_and,Bool.and_false,Bool.true_or,Bool.or_true,Bool.false_or,Bool.or_false,Bool.not_true,Bool.not_false,Bool.not_not,true_and,and_true,false_and,and_false,not_true_eq_false,not_false_eq_true,eq_self,decide_true,decide_false,ne_eq,implies_true,forall_const,true_implies,false_implies,Bool.true_eq_false,Bool.false_eq_true,reduceCtorEq,List.map_cons,List.map_nil,List.all_cons,List.all_nil,List.length_cons,List.length_nil,List.length_map,List.length_append,List.nil_append,List.cons_append,List.set_cons_zero,List.set_cons_succ,List.set_nil,List.drop_zero,List.drop_succ_cons,List.drop_nil,List.take_zero,List.take_succ_cons,List.take_nil,Option.map_some,Option.map_none,Option.isSome_some,Nat.reduceEqDiff,Nat.reduceBEq,Nat.reduceGT,List.all_append,List.all_map,Function.comp_def,decide_eq_true_eq,Bool.and_eq_true,beq_self_eq_true,or_self,and_self,ite_true,ite_false,Nat.le_refl,Bool.not_eq_true,decide_not,Bool.not_eq_true',decide_eq_false_iff_not,Bool.not_eq_false,Bool.or_eq_true,if_true,if_false,ite_self,u_roF,u_cvF,u_cvC,u_ceT,u_ceK,u_appS,la_it,la_len,la_sure,la_ltA,la_lt1,la_all1,la_ro,la_take,la_cl,la_tm,la_r,la_sl,rc_len,rc_sure,rc_ltA,rc_lt1,rc_all1,rc_ro,rc_take,rc_sl,la_set,rc_set,zcL_eq,zcR_eq,la_allA,la_len7,all_tt,natInt,u_nthM,hlt',w_i64,plenumref26_Check_r7_eq,plenumref26_Check_r6_eq,plenumref26_Check_r5_eq,plenumref26_Check_r4_eq,plenumref26_Check_r3_eq,plenumref26_Check_r2_eq,plenumref26_Check_r1_eq,hC,hkx]
  |true =>
  rw [hc] at hC
  cases hr : rB l[k].r with
  |false =>
   have hb : bad26 (prevL l k) l[k] = 1 := by unfold bad26;rw [hc,hr];simp
   obtain ⟨rfl,rfl⟩ := stop (by rw [hb];omega)
   rw [hr] at hE
   rw [hb]
   simp (config := {maxSteps := 4000000,implicitDefEqProofs := false}) (disch := omega) only [go_sem,↓reduceIte,Nat.reduceAdd,Nat.reduceSub,Nat.reduceMul,Nat.reduceLeDiff,Nat.reduceLT,Int.reduceEq,Int.reduceNe,Int.reduceLT,Int.reduceLE,Int.reduceAdd,Int.reduceSub,Int.reduceMul,Int.reduceNeg,Nat.zero_add,Nat.add_zero,Nat.mul_one,Int.toNat_natCast,Int.natCast_zero,Int.cast_ofNat_Int,or_false,false_or,or_true,true_or,Int.reduceToNat,Nat.sub_zero,Int.natCast_nonneg,Int.toNat_zero,Bool.true_and,Bool.and_true,Bool.false_and,Bool.and_false,Bool.true_or,Bool.or_true,Bool.false_or,Bool.or_false,Bool.not_true,Bool.not_false,Bool.not_not,true_and,and_true,false_and,and_false,not_true_eq_false,not_false_eq_true,eq_self,decide_true,decide_false,ne_eq,implies_true,forall_const,true_implies,false_implies,Bool.true_eq_false,Bool.false_eq_true,reduceCtorEq,List.map_cons,List.map_nil,List.all_cons,List.all_nil,List.length_cons,List.length_nil,List.length_map,List.length_append,List.nil_append,List.cons_append,List.set_cons_zero,List.set_cons_succ,List.set_nil,List.drop_zero,List.drop_succ_cons,List.drop_nil,List.take_zero,List.take_succ_cons,List.take_nil,Option.map_some,Option.map_none,Option.isSome_some,Nat.reduceEqDiff,Nat.reduceBEq,Nat.reduceGT,List.all_append,List.all_map,Function.comp_def,decide_eq_true_eq,Bool.and_eq_true,beq_self_eq_true,or_self,and_self,ite_true,ite_false,Nat.le_refl,Bool.not_eq_true,decide_not,Bool.not_eq_true',decide_eq_false_iff_not,Bool.not_eq_false,Bool.or_eq_true,if_true,if_false,ite_self,u_roF,u_cvF,u_cvC,u_ceT,u_ceK,u_appS,la_it,la_len,la_sure,la_ltA,la_lt1,la_all1,la_ro,la_take,la_cl,la_tm,la_r,la_sl,rc_len,rc_sure,rc_ltA,rc_lt1,rc_all1,rc_ro,rc_take,rc_sl,la_set,rc_set,zcL_eq,zcR_eq,la_allA,la_len7,all_tt,natInt,u_nthM,hlt',w_i64,plenumref26_Check_r7_eq,plenumref26_Check_r6_eq,plenumref26_Check_r5_eq,plenumref26_Check_r4_eq,plenumref26_Check_r3_eq,plenumref26_Check_r2_eq,plenumref26_Check_r1_eq,hC,hE,hkx]
  |true =>
   rw [hr] at hE
   by_cases h0 : k = 0
   ·have hk0 : ¬ (0 : Int) < (k : Int) := by omega
    have hb : bad26 (prevL l k) l[k] = 0 := by unfold bad26;rw [if_pos ⟨hc,hr⟩];unfold prevL;rw [if_pos h0]
    have step := step hb
    simp (config := {maxSteps := 4000000,implicitDefEqProofs := false}) (disch := omega) only [go_sem,↓reduceIte,Nat.reduceAdd,Nat.reduceSub,Nat.reduceMul,Nat.reduceLeDiff,Nat.reduceLT,Int.reduceEq,Int.reduceNe,Int.reduceLT,Int.reduceLE,Int.reduceAdd,Int.reduceSub,Int.reduceMul,Int.reduceNeg,Nat.zero_add,Nat.add_zero,Nat.mul_one,Int.toNat_natCast,Int.natCast_zero,Int.cast_ofNat_Int,or_false,false_or,or_true,true_or,Int.reduceToNat,Nat.sub_zero,Int.natCast_nonneg,Int.toNat_zero,Bool.true_and,Bool.and_true,Bool.false_and,Bool.and_false,Bool.true_or,Bool.or_true,Bool.false_or,Bool.or_false,Bool.not_true,Bool.not_false,Bool.not_not,true_and,and_true,false_and,and_false,not_true_eq_false,not_false_eq_true,eq_self,decide_true,decide_false,ne_eq,implies_true,forall_const,true_implies,false_implies,Bool.true_eq_false,Bool.false_eq_true,reduceCtorEq,List.map_cons,List.map_nil,List.all_cons,List.all_nil,List.length_cons,List.length_nil,List.length_map,List.length_append,List.nil_append,List.cons_append,List.set_cons_zero,List.set_cons_succ,List.set_nil,List.drop_zero,List.drop_succ_cons,List.drop_nil,List.take_zero,List.take_succ_cons,List.take_nil,Option.map_some,Option.map_none,Option.isSome_some,Nat.reduceEqDiff,Nat.reduceBEq,Nat.reduceGT,List.all_append,List.all_map,Function.comp_def,decide_eq_true_eq,Bool.and_eq_true,beq_self_eq_true,or_self,and_self,ite_true,ite_false,Nat.le_refl,Bool.not_eq_true,decide_not,Bool.not_eq_true',decide_eq_false_iff_not,Bool.not_eq_false,Bool.or_eq_true,if_true,if_false,ite_self,u_roF,u_cvF,u_cvC,u_ceT,u_ceK,u_appS,la_it,la_len,la_sure,la_ltA,la_lt1,la_all1,la_ro,la_take,la_cl,la_tm,la_r,la_sl,rc_len,rc_sure,rc_ltA,rc_lt1,rc_all1,rc_ro,rc_take,rc_sl,la_set,rc_set,zcL_eq,zcR_eq,la_allA,la_len7,all_tt,natInt,u_nthM,hlt',w_i64,plenumref26_Check_r7_eq,plenumref26_Check_r6_eq,plenumref26_Check_r5_eq,plenumref26_Check_r4_eq,plenumref26_Check_r3_eq,plenumref26_Check_r2_eq,plenumref26_Check_r1_eq,hC,hE,hk0]
    exact step
   ·have hk0 : (0 : Int) < (k : Int) := by omega
    have hk1 : (k : Int) - 1 = ((k - 1 : Nat) : Int) := by omega
    have hlt1 : k - 1 < l.length := by omega
    have hlt1' : ((k - 1 : Nat) : Int) < (l.length : Int) := by omega
    have hp : prevL l k = some l[k - 1] := by unfold prevL;rw [if_neg h0,List.getElem?_eq_getElem hlt1]
    by_cases hq : l[k].cl ≤ l[k - 1].cl
    ·have hb : bad26 (prevL l k) l[k] = 3 := by unfold bad26;rw [if_pos ⟨hc,hr⟩,hp];dsimp only;rw [if_pos hq]
     obtain ⟨rfl,rfl⟩ := stop (by rw [hb];omega)
     rw [hb]
     simp (config := {maxSteps := 4000000,implicitDefEqProofs := false}) (disch := omega) only [go_sem,↓reduceIte,Nat.reduceAdd,Nat.reduceSub,Nat.reduceMul,Nat.reduceLeDiff,Nat.reduceLT,Int.reduceEq,Int.reduceNe,Int.reduceLT,Int.reduceLE,Int.reduceAdd,Int.reduceSub,Int.reduceMul,Int.reduceNeg,Nat.zero_add,Nat.add_zero,Nat.mul_one,Int.toNat_natCast,Int.natCast_zero,Int.cast_ofNat_Int,or_false,false_or,or_true,true_or,Int.reduceToNat,Nat.sub_zero,Int.natCast_nonneg,Int.toNat_zero,Bool.true_and,Bool.and_true,Bool.false_and,Bool.and_false,Bool.true_or,Bool.or_true,Bool.false_or,Bool.or_false,Bool.not_true,Bool.not_false,Bool.not_not,true_and,and_true,false_and,and_false,not_true_eq_false,not_false_eq_true,eq_self,decide_true,decide_false,ne_eq,implies_true,forall_const,true_implies,false_implies,Bool.true_eq_false,Bool.false_eq_true,reduceCtorEq,List.map_cons,List.map_nil,List.all_cons,List.all_nil,List.length_cons,List.length_nil,List.length_map,List.length_append,List.nil_append,List.cons_append,List.set_cons_zero,List.set_cons_succ,List.set_nil,List.drop_zero,List.drop_succ_cons,List.drop_nil,List.take_zero,List.take_succ_cons,List.take_nil,Option.map_some,Option.map_none,Option.isSome_some,Nat.reduceEqDiff,Nat.reduceBEq,Nat.reduceGT,List.all_append,List.all_map,Function.comp_def,decide_eq_true_eq,Bool.and_eq_true,beq_self_eq_true,or_self,and_self,ite_true,ite_false,Nat.le_refl,Bool.not_eq_true,decide_not,Bool.not_eq_true',decide_eq_false_iff_not,Bool.not_eq_false,Bool.or_eq_true,if_true,if_false,ite_self,u_roF,u_cvF,u_cvC,u_ceT,u_ceK,u_appS,la_it,la_len,la_sure,la_ltA,la_lt1,la_all1,la_ro,la_take,la_cl,la_tm,la_r,la_sl,rc_len,rc_sure,rc_ltA,rc_lt1,rc_all1,rc_ro,rc_take,rc_sl,la_set,rc_set,zcL_eq,zcR_eq,la_allA,la_len7,all_tt,natInt,u_nthM,hlt',w_i64,plenumref26_Check_r7_eq,plenumref26_Check_r6_eq,plenumref26_Check_r5_eq,plenumref26_Check_r4_eq,plenumref26_Check_r3_eq,plenumref26_Check_r2_eq,plenumref26_Check_r1_eq,hC,hE,hk0,hk1,hlt1',hq,hkx]
    ·have hb : bad26 (prevL l k) l[k] = 0 := by unfold bad26;rw [if_pos ⟨hc,hr⟩,hp];dsimp only;rw [if_neg hq]
     have step := step hb
     simp (config := {maxSteps := 4000000,implicitDefEqProofs := false}) (disch := omega) only [go_sem,↓reduceIte,Nat.reduceAdd,Nat.reduceSub,Nat.reduceMul,Nat.reduceLeDiff,Nat.reduceLT,Int.reduceEq,Int.reduceNe,Int.reduceLT,Int.reduceLE,Int.reduceAdd,Int.reduceSub,Int.reduceMul,Int.reduceNeg,Nat.zero_add,Nat.add_zero,Nat.mul_one,Int.toNat_natCast,Int.natCast_zero,Int.cast_ofNat_Int,or_false,false_or,or_true,true_or,Int.reduceToNat,Nat.sub_zero,Int.natCast_nonneg,Int.toNat_zero,Bool.true_and,Bool.and_true,Bool.false_and,Bool.and_false,Bool.true_or,Bool.or_true,Bool.false_or,Bool.or_false,Bool.not_true,Bool.not_false,Bool.not_not,true_and,and_true,false_and,and_false,not_true_eq_false,not_false_eq_true,eq_self,decide_true,decide_false,ne_eq,implies_true,forall_const,true_implies,false_implies,Bool.true_eq_false,Bool.false_eq_true,reduceCtorEq,List.map_cons,List.map_nil,List.all_cons,List.all_nil,List.length_cons,List.length_nil,List.length_map,List.length_append,List.nil_append,List.cons_append,List.set_cons_zero,List.set_cons_succ,List.set_nil,List.drop_zero,List.drop_succ_cons,List.drop_nil,List.take_zero,List.take_succ_cons,List.take_nil,Option.map_some,Option.map_none,Option.isSome_some,Nat.reduceEqDiff,Nat.reduceBEq,Nat.reduceGT,List.all_append,List.all_map,Function.comp_def,decide_eq_true_eq,Bool.and_eq_true,beq_self_eq_true,or_self,and_self,ite_true,ite_false,Nat.le_refl,Bool.not_eq_true,decide_not,Bool.not_eq_true',decide_eq_false_iff_not,Bool.not_eq_false,Bool.or_eq_true,if_true,if_false,ite_self,u_roF,u_cvF,u_cvC,u_ceT,u_ceK,u_appS,la_it,la_len,la_sure,la_ltA,la_lt1,la_all1,la_ro,la_take,la_cl,la_tm,la_r,la_sl,rc_len,rc_sure,rc_ltA,rc_lt1,rc_all1,rc_ro,rc_take,rc_sl,la_set,rc_set,zcL_eq,zcR_eq,la_allA,la_len7,all_tt,natInt,u_nthM,hlt',w_i64,plenumref26_Check_r7_eq,plenumref26_Check_r6_eq,plenumref26_Check_r5_eq,plenumref26_Check_r4_eq,plenumref26_Check_r3_eq,plenumref26_Check_r2_eq,plenumref26_Check_r1_eq,hC,hE,hk0,hk1,hlt1',hq]
     exact step
 ·have hlt' : ¬ (k : Int) < (l.length : Int) := by omega
  have : k = l.length := by omega
  subst this
  obtain ⟨rfl,rfl⟩ := chkG_end hinv
  simp (config := {maxSteps := 4000000,implicitDefEqProofs := false}) (disch := omega) only [go_sem,↓reduceIte,Nat.reduceAdd,Nat.reduceSub,Nat.reduceMul,Nat.reduceLeDiff,Nat.reduceLT,Int.reduceEq,Int.reduceNe,Int.reduceLT,Int.reduceLE,Int.reduceAdd,Int.reduceSub,Int.reduceMul,Int.reduceNeg,Nat.zero_add,Nat.add_zero,Nat.mul_one,Int.toNat_natCast,Int.natCast_zero,Int.cast_ofNat_Int,or_false,false_or,or_true,true_or,Int.reduceToNat,Nat.sub_zero,Int.natCast_nonneg,Int.toNat_zero,Bool.true_and,Bool.and_true,Bool.false_and,Bool.and_false,Bool.true_or,Bool.or_true,Bool.false_or,Bool.or_false,Bool.not_true,Bool.not_false,Bool.not_not,true_and,and_true,false_and,and_false,not_true_eq_false,not_false_eq_true,eq_self,decide_true,decide_false,ne_eq,implies_true,forall_const,true_implies,false_implies,Bool.true_eq_false,Bool.false_eq_true,reduceCtorEq,List.map_cons,List.map_nil,List.all_cons,List.all_nil,List.length_cons,List.length_nil,List.length_map,List.length_append,List.nil_append,List.cons_append,List.set_cons_zero,List.set_cons_succ,List.set_nil,List.drop_zero,List.drop_succ_cons,List.drop_nil,List.take_zero,List.take_succ_cons,List.take_nil,Option.map_some,Option.map_none,Option.isSome_some,Nat.reduceEqDiff,Nat.reduceBEq,Nat.reduceGT,List.all_append,List.all_map,Function.comp_def,decide_eq_true_eq,Bool.and_eq_true,beq_self_eq_true,or_self,and_self,ite_true,ite_false,Nat.le_refl,Bool.not_eq_true,decide_not,Bool.not_eq_true',decide_eq_false_iff_not,Bool.not_eq_false,Bool.or_eq_true,if_true,if_false,ite_self,u_roF,u_cvF,u_cvC,u_ceT,u_ceK,u_appS,hkx,hlt',plenumref26_Check_r7_eq,plenumref26_Check_r6_eq,plenumref26_Check_r5_eq,plenumref26_Check_r4_eq,plenumref26_Check_r3_eq,plenumref26_Check_r2_eq,plenumref26_Check_r1_eq]
theorem is_s (m : Nat) (l : List La) (hm : l.length < m) (hl : l.length ≤ 34359738367) (h : ∀ x ∈ l,x.r.In) : replies_is m (lL l) = some (bA (isL l),[]) := by
 have hC := check_s m l hm hl h
 rw [lL_def] at hC
 rw [replies_is_eq,lL_def]
 unfold isL
 simp (config := {maxSteps := 4000000,implicitDefEqProofs := false}) (disch := omega) only [go_sem,↓reduceIte,Nat.reduceAdd,Nat.reduceSub,Nat.reduceMul,Nat.reduceLeDiff,Nat.reduceLT,Int.reduceEq,Int.reduceNe,Int.reduceLT,Int.reduceLE,Int.reduceAdd,Int.reduceSub,Int.reduceMul,Int.reduceNeg,Nat.zero_add,Nat.add_zero,Nat.mul_one,Int.toNat_natCast,Int.natCast_zero,Int.cast_ofNat_Int,or_false,false_or,or_true,true_or,Int.reduceToNat,Nat.sub_zero,Int.natCast_nonneg,Int.toNat_zero,Bool.true_and,Bool.and_true,Bool.false_and,Bool.and_false,Bool.true_or,Bool.or_true,Bool.false_or,Bool.or_false,Bool.not_true,Bool.not_false,Bool.not_not,true_and,and_true,false_and,and_false,not_true_eq_false,not_false_eq_true,eq_self,decide_true,decide_false,ne_eq,implies_true,forall_const,true_implies,false_implies,Bool.true_eq_false,Bool.false_eq_true,reduceCtorEq,List.map_cons,List.map_nil,List.all_cons,List.all_nil,List.length_cons,List.length_nil,List.length_map,List.length_append,List.nil_append,List.cons_append,List.set_cons_zero,List.set_cons_succ,List.set_nil,List.drop_zero,List.drop_succ_cons,List.drop_nil,List.take_zero,List.take_succ_cons,List.take_nil,Option.map_some,Option.map_none,Option.isSome_some,Nat.reduceEqDiff,Nat.reduceBEq,Nat.reduceGT,List.all_append,List.all_map,Function.comp_def,decide_eq_true_eq,Bool.and_eq_true,beq_self_eq_true,or_self,and_self,ite_true,ite_false,Nat.le_refl,Bool.not_eq_true,decide_not,Bool.not_eq_true',decide_eq_false_iff_not,Bool.not_eq_false,Bool.or_eq_true,if_true,if_false,ite_self,u_roF,u_cvF,u_cvC,u_ceT,u_ceK,u_appS,la_it,la_len,la_sure,la_ltA,la_lt1,la_all1,la_ro,la_take,la_cl,la_tm,la_r,la_sl,rc_len,rc_sure,rc_ltA,rc_lt1,rc_all1,rc_ro,rc_take,rc_sl,la_set,rc_set,zcL_eq,zcR_eq,la_allA,la_len7,all_tt,natInt,u_nthM,hC]
theorem ris_s (m : Nat) (l : List La) (hm : l.length < m) (hl : l.length ≤ 34359738367) : plenumref26_Is m (lL l) = some (bA (isL l),[]) := by
 have hC := rcheck_s m l hm hl
 rw [lL_def] at hC
 rw [plenumref26_Is_eq,lL_def]
 unfold isL
 simp (config := {maxSteps := 4000000,implicitDefEqProofs := false}) (disch := omega) only [go_sem,↓reduceIte,Nat.reduceAdd,Nat.reduceSub,Nat.reduceMul,Nat.reduceLeDiff,Nat.reduceLT,Int.reduceEq,Int.reduceNe,Int.reduceLT,Int.reduceLE,Int.reduceAdd,Int.reduceSub,Int.reduceMul,Int.reduceNeg,Nat.zero_add,Nat.add_zero,Nat.mul_one,Int.toNat_natCast,Int.natCast_zero,Int.cast_ofNat_Int,or_false,false_or,or_true,true_or,Int.reduceToNat,Nat.sub_zero,Int.natCast_nonneg,Int.toNat_zero,Bool.true_and,Bool.and_true,Bool.false_and,Bool.and_false,Bool.true_or,Bool.or_true,Bool.false_or,Bool.or_false,Bool.not_true,Bool.not_false,Bool.not_not,true_and,and_true,false_and,and_false,not_true_eq_false,not_false_eq_true,eq_self,decide_true,decide_false,ne_eq,implies_true,forall_const,true_implies,false_implies,Bool.true_eq_false,Bool.false_eq_true,reduceCtorEq,List.map_cons,List.map_nil,List.all_cons,List.all_nil,List.length_cons,List.length_nil,List.length_map,List.length_append,List.nil_append,List.cons_append,List.set_cons_zero,List.set_cons_succ,List.set_nil,List.drop_zero,List.drop_succ_cons,List.drop_nil,List.take_zero,List.take_succ_cons,List.take_nil,Option.map_some,Option.map_none,Option.isSome_some,Nat.reduceEqDiff,Nat.reduceBEq,Nat.reduceGT,List.all_append,List.all_map,Function.comp_def,decide_eq_true_eq,Bool.and_eq_true,beq_self_eq_true,or_self,and_self,ite_true,ite_false,Nat.le_refl,Bool.not_eq_true,decide_not,Bool.not_eq_true',decide_eq_false_iff_not,Bool.not_eq_false,Bool.or_eq_true,if_true,if_false,ite_self,u_roF,u_cvF,u_cvC,u_ceT,u_ceK,u_appS,la_it,la_len,la_sure,la_ltA,la_lt1,la_all1,la_ro,la_take,la_cl,la_tm,la_r,la_sl,rc_len,rc_sure,rc_ltA,rc_lt1,rc_all1,rc_ro,rc_take,rc_sl,la_set,rc_set,zcL_eq,zcR_eq,la_allA,la_len7,all_tt,natInt,u_nthM,hC]
end Go.Proofs.Ytchncgdjefbmfaa

namespace Go.Proofs.Ytchncgdjefbmfaa
open Go.RowKit
def Inc (l : List La) : Prop := ∀ (i j : Nat) (hj : j < l.length) (hi : i < j),(l[i]'(Nat.lt_trans hi hj)).cl < l[j].cl
def fndN (l : List La) (q : Int) : Nat := l.findIdx fun x=>decide (q ≤ x.cl)
theorem fndN_le (l : List La) (q : Int) : fndN l q ≤ l.length := List.findIdx_le_length
theorem fndN_at {l : List La} {q : Int} {k : Nat} (hk : k ≤ l.length) (h1 : ∀ (i : Nat) (h : i < k),(l[i]'(Nat.lt_of_lt_of_le h hk)).cl < q) (h2 : ∀ h : k < l.length,q ≤ l[k].cl) : fndN l q = k := by
 unfold fndN
 rcases Nat.lt_or_ge k l.length with hlt|hge
 ·rw [List.findIdx_eq hlt]
  refine ⟨by simpa using h2 hlt,fun j hj=>?_⟩
  have := h1 j hj
  simp
  omega
 ·have : k = l.length := by omega
  subst this
  rw [List.findIdx_eq_length]
  intro x hx
  obtain ⟨i,hi,rfl⟩ := List.getElem_of_mem hx
  have := h1 i hi
  simp
  omega
theorem fnd_lo {l : List La} {q : Int} {i : Nat} (hi : i < l.length) (h : i < fndN l q) : l[i].cl < q := by
 have := List.not_of_lt_findIdx h
 simp at this
 omega
theorem fnd_hi {l : List La} {q : Int} (h : fndN l q < l.length) : q ≤ l[fndN l q].cl := by
 have := List.findIdx_getElem (p := fun x : La=>decide (q ≤ x.cl)) (xs := l) (w := h)
 exact of_decide_eq_true this
theorem bad_0 {w : Option La} {x : La} (h : bad26 w x = 0) : could x.cl x.tm = true ∧ rB x.r = true ∧ ∀ y,w = some y → y.cl < x.cl := by
 unfold bad26 at h
 split at h
 ·rename_i hn
  refine ⟨hn.1,hn.2,fun y hy=>?_⟩
  subst hy
  dsimp only at h
  split at h
  ·simp at h
  ·omega
 ·simp at h
theorem chkG_ok : ∀ (l : List La) (w : Option La) (k : Nat),(chkG w k l).1 = 0 → (∀ x ∈ l,could x.cl x.tm = true ∧ rB x.r = true) ∧ l.Pairwise (fun a b=>a.cl < b.cl) ∧ ∀ y,w = some y → ∀ x ∈ l,y.cl < x.cl
 |[],w,k,h=>⟨fun x hx=>absurd hx List.not_mem_nil,List.Pairwise.nil,fun y _ x hx=>absurd hx List.not_mem_nil⟩
 |x :: r,w,k,h=>by
  unfold chkG at h
  split at h
  ·rename_i hb
   obtain ⟨b1,b2,b3⟩ := bad_0 hb
   obtain ⟨i1,i2,i3⟩ := chkG_ok r (some x) (k + 1) h
   refine ⟨fun y hy=>?_,List.Pairwise.cons (fun y hy=>i3 x rfl y hy) i2,fun y hy z hz=>?_⟩
   ·rcases List.mem_cons.1 hy with e|e
    ·subst e;exact ⟨b1,b2⟩
    ·exact i1 y e
   ·rcases List.mem_cons.1 hz with e|e
    ·subst e;exact b3 y hy
    ·have := i3 x rfl z e;have := b3 y hy;omega
  ·rename_i hb
   exact absurd h hb
theorem chkG_of : ∀ (l : List La) (w : Option La) (k : Nat),(∀ x ∈ l,could x.cl x.tm = true ∧ rB x.r = true) → l.Pairwise (fun a b=>a.cl < b.cl) → (∀ y,w = some y → ∀ x ∈ l,y.cl < x.cl) → (chkG w k l).1 = 0
 |[],w,k,_,_,_=>rfl
 |x :: r,w,k,h1,h2,h3=>by
  have hb : bad26 w x = 0 := by
   unfold bad26
   rw [if_pos (h1 x (List.mem_cons_self ..))]
   cases w with
   |none=>rfl
   |some y =>
    have := h3 y rfl x (List.mem_cons_self ..)
    dsimp only
    rw [if_neg (by omega)]
  unfold chkG
  rw [if_pos hb]
  rw [List.pairwise_cons] at h2
  exact chkG_of r (some x) (k + 1) (fun y hy=>h1 y (List.mem_cons_of_mem _ hy)) h2.2 fun y hy z hz=>by
   injection hy with hy;subst hy
   exact h2.1 z hz
theorem isL_iff {l : List La} : isL l = true ↔ (∀ x ∈ l,could x.cl x.tm = true ∧ rB x.r = true) ∧ l.Pairwise (fun a b=>a.cl < b.cl) := by
 unfold isL chkL
 rw [decide_eq_true_eq]
 exact ⟨fun h=>⟨(chkG_ok l none 0 h).1,(chkG_ok l none 0 h).2.1⟩,fun h=>chkG_of l none 0 h.1 h.2 fun y hy=>by cases hy⟩
theorem isL_inc {l : List La} (h : isL l = true) : Inc l := fun i j hj hi=>List.pairwise_iff_getElem.1 (isL_iff.1 h).2 i j (by omega) hj hi
theorem could_cl {c t : Int} (h : could c t = true) : 0 ≤ c ∧ c < 256 ∧ 1 ≤ t ∧ t ≤ 2147483647 := by
 unfold could at h
 simp only [Bool.and_eq_true,decide_eq_true_eq] at h
 exact ⟨h.1,h.2.1,h.2.2.1,h.2.2.2⟩
theorem inc_ge {l : List La} (hinc : Inc l) (h0 : ∀ x ∈ l,0 ≤ x.cl) : ∀ (i : Nat) (hi : i < l.length),(i : Int) ≤ l[i].cl
 |0,hi=>h0 _ (List.getElem_mem hi)
 |i + 1,hi=>by
  have := inc_ge hinc h0 i (by omega)
  have := hinc i (i + 1) hi (by omega)
  omega
theorem isL_len {l : List La} (h : isL l = true) : l.length ≤ 256 := by
 rcases Nat.lt_or_ge 256 l.length with q|q
 ·exfalso
  have h1 := inc_ge (isL_inc h) (fun x hx=>(could_cl ((isL_iff.1 h).1 x hx).1).1) 256 q
  have h2 := could_cl ((isL_iff.1 h).1 _ (List.getElem_mem q)).1
  omega
 ·exact q
def thereB (l : List La) (q : Int) : Bool := match l[fndN l q]? with|some x=>decide (x.cl = q)|none=>false
theorem callV_1 {m : Nat} : findE (sort_Search_env m) 55 = some (.keep (replies_find_1_t m)) := _root_.id rfl
theorem find_s (m : Nat) (l : List La) (q : Int) (hm : 300 < m) (hl : l.length ≤ 256) (hinc : Inc l) : replies_find m (lL l) (nA q) = some (TU [nA (fndN l q),bA (thereB l q)],[]) := by
 rw [replies_find_eq,lL_def]
 have hS : sort_Search m (nA l.length) (CL (.func 55) 0 [OP 0 0,OP 1 0]) [⟨1,ty_sl_api_Last,0,[SL (l.map laE)]⟩,⟨1,ty_int,0,[nA q]⟩] = some (nA (fndN l q),[⟨1,ty_sl_api_Last,0,[SL (l.map laE)]⟩,⟨1,ty_int,0,[nA q]⟩]) := by
  rw [sort_Search_eq]
  refine iter_go (ι := {p : Nat × Nat // p.1 ≤ p.2 ∧ p.2 ≤ l.length ∧ (∀ (i : Nat) (h : i < l.length),i < p.1 → l[i].cl < q) ∧ (∀ (i : Nat) (h : i < l.length),p.2 ≤ i → q ≤ l[i].cl)}) (fun p=>⟨[⟨1,ty_sl_api_Last,0,[SL (l.map laE)]⟩,⟨1,ty_int,0,[nA q]⟩],[(1,CL (.func 55) 0 [OP 0 0,OP 1 0]),(5,nA p.1.1),(6,nA p.1.2)]⟩) (fun p=>p.1.2 - p.1.1) (fun _=>some (nA (fndN l q),([⟨1,ty_sl_api_Last,0,[SL (l.map laE)]⟩,⟨1,ty_int,0,[nA q]⟩] : List AObj))) ?_ ⟨(0,l.length),Nat.zero_le _,Nat.le_refl _,(by intro i h h2;omega),(by intro i h h2;dsimp only at h2;omega)⟩ (by dsimp only;omega)
  rintro kx hkx ⟨⟨lo,hi⟩,h1,h2,h3,h4⟩ kc hkc
  dsimp only at hkc h1 h2 h3 h4 ⊢
  rw [sort_Search_b1_eq]
  by_cases hlt : lo < hi
  ·have hlt' : (lo : Int) < (hi : Int) := by omega
   obtain ⟨d,hd⟩ : ∃ d : Nat,d = (lo + hi) / 2 := ⟨_,rfl⟩
   have hdl : d < l.length := by omega
   have hdl' : (d : Int) < (l.length : Int) := by omega
   have hdd : ((lo : Int) + (hi : Int)) / 2 = (d : Int) := by omega
   have hw : IntKind.i64.wrap ((IntKind.u64.wrap ((lo : Int) + (hi : Int))).fdiv (2 ^ min 1 64)) = (d : Int) := by
    rw [w_u64 (by omega) (by omega),Int.fdiv_eq_ediv_of_nonneg _ (by decide)]
    show IntKind.i64.wrap (((lo : Int) + (hi : Int)) / 2) = _
    rw [hdd,w_i64 (by omega) (by omega)]
   have hF : replies_find_1_t m [nA d,OP 0 0,OP 1 0] [⟨1,ty_sl_api_Last,0,[SL (l.map laE)]⟩,⟨1,ty_int,0,[nA q]⟩] = some (bA (decide (q ≤ l[d].cl)),[⟨1,ty_sl_api_Last,0,[SL (l.map laE)]⟩,⟨1,ty_int,0,[nA q]⟩]) := by
    show replies_find_1 m _ _ _ _ = _
    rw [replies_find_1_eq]
    simp (config := {maxSteps := 4000000,implicitDefEqProofs := false}) (disch := omega) only [go_sem,↓reduceIte,Nat.reduceAdd,Nat.reduceSub,Nat.reduceMul,Nat.reduceLeDiff,Nat.reduceLT,Int.reduceEq,Int.reduceNe,Int.reduceLT,Int.reduceLE,Int.reduceAdd,Int.reduceSub,Int.reduceMul,Int.reduceNeg,Nat.zero_add,Nat.add_zero,Nat.mul_one,Int.toNat_natCast,Int.natCast_zero,Int.cast_ofNat_Int,or_false,false_or,or_true,true_or,Int.reduceToNat,Nat.sub_zero,Int.natCast_nonneg,Int.toNat_zero,Bool.true_and,Bool.and_true,Bool.false_and,Bool.and_false,Bool.true_or,Bool.or_true,Bool.false_or,Bool.or_false,Bool.not_true,Bool.not_false,Bool.not_not,true_and,and_true,false_and,and_false,not_true_eq_false,not_false_eq_true,eq_self,decide_true,decide_false,ne_eq,implies_true,forall_const,true_implies,false_implies,Bool.true_eq_false,Bool.false_eq_true,reduceCtorEq,List.map_cons,List.map_nil,List.all_cons,List.all_nil,List.length_cons,List.length_nil,List.length_map,List.length_append,List.nil_append,List.cons_append,List.set_cons_zero,List.set_cons_succ,List.set_nil,List.drop_zero,List.drop_succ_cons,List.drop_nil,List.take_zero,List.take_succ_cons,List.take_nil,Option.map_some,Option.map_none,Option.isSome_some,Nat.reduceEqDiff,Nat.reduceBEq,Nat.reduceGT,List.all_append,List.all_map,Function.comp_def,decide_eq_true_eq,Bool.and_eq_true,beq_self_eq_true,or_self,and_self,ite_true,ite_false,Nat.le_refl,Bool.not_eq_true,decide_not,Bool.not_eq_true',decide_eq_false_iff_not,Bool.not_eq_false,Bool.or_eq_true,if_true,if_false,ite_self,u_roF,u_cvF,u_cvC,u_ceT,u_ceK,u_appS,natInt,u_nthM,la_it,hdl',la_len,la_cl]
   by_cases hq : q ≤ l[d].cl
   ·have step := hkc ⟨(lo,d),by omega,by omega,h3,fun i h hi'=>by
     rcases Nat.lt_or_ge d i with e|e
     ·have := hinc d i h e;omega
     ·have : i = d := by omega
      subst this;exact hq⟩ (by dsimp only;omega)
    simp (config := {maxSteps := 4000000,implicitDefEqProofs := false}) (disch := omega) only [go_sem,↓reduceIte,Nat.reduceAdd,Nat.reduceSub,Nat.reduceMul,Nat.reduceLeDiff,Nat.reduceLT,Int.reduceEq,Int.reduceNe,Int.reduceLT,Int.reduceLE,Int.reduceAdd,Int.reduceSub,Int.reduceMul,Int.reduceNeg,Nat.zero_add,Nat.add_zero,Nat.mul_one,Int.toNat_natCast,Int.natCast_zero,Int.cast_ofNat_Int,or_false,false_or,or_true,true_or,Int.reduceToNat,Nat.sub_zero,Int.natCast_nonneg,Int.toNat_zero,Bool.true_and,Bool.and_true,Bool.false_and,Bool.and_false,Bool.true_or,Bool.or_true,Bool.false_or,Bool.or_false,Bool.not_true,Bool.not_false,Bool.not_not,true_and,and_true,false_and,and_false,not_true_eq_false,not_false_eq_true,eq_self,decide_true,decide_false,ne_eq,implies_true,forall_const,true_implies,false_implies,Bool.true_eq_false,Bool.false_eq_true,reduceCtorEq,List.map_cons,List.map_nil,List.all_cons,List.all_nil,List.length_cons,List.length_nil,List.length_map,List.length_append,List.nil_append,List.cons_append,List.set_cons_zero,List.set_cons_succ,List.set_nil,List.drop_zero,List.drop_succ_cons,List.drop_nil,List.take_zero,List.take_succ_cons,List.take_nil,Option.map_some,Option.map_none,Option.isSome_some,Nat.reduceEqDiff,Nat.reduceBEq,Nat.reduceGT,List.all_append,List.all_map,Function.comp_def,decide_eq_true_eq,Bool.and_eq_true,beq_self_eq_true,or_self,and_self,ite_true,ite_false,Nat.le_refl,Bool.not_eq_true,decide_not,Bool.not_eq_true',decide_eq_false_iff_not,Bool.not_eq_false,Bool.or_eq_true,if_true,if_false,ite_self,u_roF,u_cvF,u_cvC,u_ceT,u_ceK,u_appS,hlt',hw,w_i64,callV_1,hF,hq]
    exact step
   ·have step := hkc ⟨(d + 1,hi),by omega,h2,(fun i h hi'=>by
     rcases Nat.lt_or_ge i d with e|e
     ·have := hinc i d hdl e;omega
     ·have : i = d := by omega
      subst this;omega),h4⟩ (by dsimp only;omega)
    simp (config := {maxSteps := 4000000,implicitDefEqProofs := false}) (disch := omega) only [go_sem,↓reduceIte,Nat.reduceAdd,Nat.reduceSub,Nat.reduceMul,Nat.reduceLeDiff,Nat.reduceLT,Int.reduceEq,Int.reduceNe,Int.reduceLT,Int.reduceLE,Int.reduceAdd,Int.reduceSub,Int.reduceMul,Int.reduceNeg,Nat.zero_add,Nat.add_zero,Nat.mul_one,Int.toNat_natCast,Int.natCast_zero,Int.cast_ofNat_Int,or_false,false_or,or_true,true_or,Int.reduceToNat,Nat.sub_zero,Int.natCast_nonneg,Int.toNat_zero,Bool.true_and,Bool.and_true,Bool.false_and,Bool.and_false,Bool.true_or,Bool.or_true,Bool.false_or,Bool.or_false,Bool.not_true,Bool.not_false,Bool.not_not,true_and,and_true,false_and,and_false,not_true_eq_false,not_false_eq_true,eq_self,decide_true,decide_false,ne_eq,implies_true,forall_const,true_implies,false_implies,Bool.true_eq_false,Bool.false_eq_true,reduceCtorEq,List.map_cons,List.map_nil,List.all_cons,List.all_nil,List.length_cons,List.length_nil,List.length_map,List.length_append,List.nil_append,List.cons_append,List.set_cons_zero,List.set_cons_succ,List.set_nil,List.drop_zero,List.drop_succ_cons,List.drop_nil,List.take_zero,List.take_succ_cons,List.take_nil,Option.map_some,Option.map_none,Option.isSome_some,Nat.reduceEqDiff,Nat.reduceBEq,Nat.reduceGT,List.all_append,List.all_map,Function.comp_def,decide_eq_true_eq,Bool.and_eq_true,beq_self_eq_true,or_self,and_self,ite_true,ite_false,Nat.le_refl,Bool.not_eq_true,decide_not,Bool.not_eq_true',decide_eq_false_iff_not,Bool.not_eq_false,Bool.or_eq_true,if_true,if_false,ite_self,u_roF,u_cvF,u_cvC,u_ceT,u_ceK,u_appS,hlt',hw,w_i64,callV_1,hF,hq]
    exact step
  ·have hlt' : ¬ (lo : Int) < (hi : Int) := by omega
   have : lo = hi := by omega
   subst this
   have hf := fndN_at (q := q) h2 (fun i h=>h3 i (by omega) h) (fun h=>h4 lo h (Nat.le_refl _))
   rw [hf]
   simp (config := {maxSteps := 4000000,implicitDefEqProofs := false}) (disch := omega) only [go_sem,↓reduceIte,Nat.reduceAdd,Nat.reduceSub,Nat.reduceMul,Nat.reduceLeDiff,Nat.reduceLT,Int.reduceEq,Int.reduceNe,Int.reduceLT,Int.reduceLE,Int.reduceAdd,Int.reduceSub,Int.reduceMul,Int.reduceNeg,Nat.zero_add,Nat.add_zero,Nat.mul_one,Int.toNat_natCast,Int.natCast_zero,Int.cast_ofNat_Int,or_false,false_or,or_true,true_or,Int.reduceToNat,Nat.sub_zero,Int.natCast_nonneg,Int.toNat_zero,Bool.true_and,Bool.and_true,Bool.false_and,Bool.and_false,Bool.true_or,Bool.or_true,Bool.false_or,Bool.or_false,Bool.not_true,Bool.not_false,Bool.not_not,true_and,and_true,false_and,and_false,not_true_eq_false,not_false_eq_true,eq_self,decide_true,decide_false,ne_eq,implies_true,forall_const,true_implies,false_implies,Bool.true_eq_false,Bool.false_eq_true,reduceCtorEq,List.map_cons,List.map_nil,List.all_cons,List.all_nil,List.length_cons,List.length_nil,List.length_map,List.length_append,List.nil_append,List.cons_append,List.set_cons_zero,List.set_cons_succ,List.set_nil,List.drop_zero,List.drop_succ_cons,List.drop_nil,List.take_zero,List.take_succ_cons,List.take_nil,Option.map_some,Option.map_none,Option.isSome_some,Nat.reduceEqDiff,Nat.reduceBEq,Nat.reduceGT,List.all_append,List.all_map,Function.comp_def,decide_eq_true_eq,Bool.and_eq_true,beq_self_eq_true,or_self,and_self,ite_true,ite_false,Nat.le_refl,Bool.not_eq_true,decide_not,Bool.not_eq_true',decide_eq_false_iff_not,Bool.not_eq_false,Bool.or_eq_true,if_true,if_false,ite_self,u_roF,u_cvF,u_cvC,u_ceT,u_ceK,u_appS,hlt',hkx,sort_Search_r1_eq]
 have hfl := fndN_le l q
 unfold thereB
 generalize fndN l q = p at hS hfl
 by_cases hp : p < l.length
 ·have hp' : (p : Int) < (l.length : Int) := by omega
  rw [List.getElem?_eq_getElem hp]
  simp (config := {maxSteps := 4000000,implicitDefEqProofs := false}) (disch := omega) only [go_sem,↓reduceIte,Nat.reduceAdd,Nat.reduceSub,Nat.reduceMul,Nat.reduceLeDiff,Nat.reduceLT,Int.reduceEq,Int.reduceNe,Int.reduceLT,Int.reduceLE,Int.reduceAdd,Int.reduceSub,Int.reduceMul,Int.reduceNeg,Nat.zero_add,Nat.add_zero,Nat.mul_one,Int.toNat_natCast,Int.natCast_zero,Int.cast_ofNat_Int,or_false,false_or,or_true,true_or,Int.reduceToNat,Nat.sub_zero,Int.natCast_nonneg,Int.toNat_zero,Bool.true_and,Bool.and_true,Bool.false_and,Bool.and_false,Bool.true_or,Bool.or_true,Bool.false_or,Bool.or_false,Bool.not_true,Bool.not_false,Bool.not_not,true_and,and_true,false_and,and_false,not_true_eq_false,not_false_eq_true,eq_self,decide_true,decide_false,ne_eq,implies_true,forall_const,true_implies,false_implies,Bool.true_eq_false,Bool.false_eq_true,reduceCtorEq,List.map_cons,List.map_nil,List.all_cons,List.all_nil,List.length_cons,List.length_nil,List.length_map,List.length_append,List.nil_append,List.cons_append,List.set_cons_zero,List.set_cons_succ,List.set_nil,List.drop_zero,List.drop_succ_cons,List.drop_nil,List.take_zero,List.take_succ_cons,List.take_nil,Option.map_some,Option.map_none,Option.isSome_some,Nat.reduceEqDiff,Nat.reduceBEq,Nat.reduceGT,List.all_append,List.all_map,Function.comp_def,decide_eq_true_eq,Bool.and_eq_true,beq_self_eq_true,or_self,and_self,ite_true,ite_false,Nat.le_refl,Bool.not_eq_true,decide_not,Bool.not_eq_true',decide_eq_false_iff_not,Bool.not_eq_false,Bool.or_eq_true,if_true,if_false,ite_self,u_roF,u_cvF,u_cvC,u_ceT,u_ceK,u_appS,la_it,la_len,la_sure,la_ltA,la_lt1,la_all1,la_ro,la_take,la_cl,la_tm,la_r,la_sl,rc_len,rc_sure,rc_ltA,rc_lt1,rc_all1,rc_ro,rc_take,rc_sl,la_set,rc_set,zcL_eq,zcR_eq,la_allA,la_len7,all_tt,natInt,u_nthM,hS,hp']
 ·have hp' : ¬ (p : Int) < (l.length : Int) := by omega
  rw [List.getElem?_eq_none (by omega)]
  simp (config := {maxSteps := 4000000,implicitDefEqProofs := false}) (disch := omega) only [go_sem,↓reduceIte,Nat.reduceAdd,Nat.reduceSub,Nat.reduceMul,Nat.reduceLeDiff,Nat.reduceLT,Int.reduceEq,Int.reduceNe,Int.reduceLT,Int.reduceLE,Int.reduceAdd,Int.reduceSub,Int.reduceMul,Int.reduceNeg,Nat.zero_add,Nat.add_zero,Nat.mul_one,Int.toNat_natCast,Int.natCast_zero,Int.cast_ofNat_Int,or_false,false_or,or_true,true_or,Int.reduceToNat,Nat.sub_zero,Int.natCast_nonneg,Int.toNat_zero,Bool.true_and,Bool.and_true,Bool.false_and,Bool.and_false,Bool.true_or,Bool.or_true,Bool.false_or,Bool.or_false,Bool.not_true,Bool.not_false,Bool.not_not,true_and,and_true,false_and,and_false,not_true_eq_false,not_false_eq_true,eq_self,decide_true,decide_false,ne_eq,implies_true,forall_const,true_implies,false_implies,Bool.true_eq_false,Bool.false_eq_true,reduceCtorEq,List.map_cons,List.map_nil,List.all_cons,List.all_nil,List.length_cons,List.length_nil,List.length_map,List.length_append,List.nil_append,List.cons_append,List.set_cons_zero,List.set_cons_succ,List.set_nil,List.drop_zero,List.drop_succ_cons,List.drop_nil,List.take_zero,List.take_succ_cons,List.take_nil,Option.map_some,Option.map_none,Option.isSome_some,Nat.reduceEqDiff,Nat.reduceBEq,Nat.reduceGT,List.all_append,List.all_map,Function.comp_def,decide_eq_true_eq,Bool.and_eq_true,beq_self_eq_true,or_self,and_self,ite_true,ite_false,Nat.le_refl,Bool.not_eq_true,decide_not,Bool.not_eq_true',decide_eq_false_iff_not,Bool.not_eq_false,Bool.or_eq_true,if_true,if_false,ite_self,u_roF,u_cvF,u_cvC,u_ceT,u_ceK,u_appS,la_it,la_len,la_sure,la_ltA,la_lt1,la_all1,la_ro,la_take,la_cl,la_tm,la_r,la_sl,rc_len,rc_sure,rc_ltA,rc_lt1,rc_all1,rc_ro,rc_take,rc_sl,la_set,rc_set,zcL_eq,zcR_eq,la_allA,la_len7,all_tt,natInt,u_nthM,hS,hp']
def askA (l : List La) (c t : Int) : Rs × Int := if isL l = true ∧ could c t = true then (match l[fndN l c]? with
 |some x=>if x.cl = c then (if x.tm < t then (Rs.zero,6) else if t < x.tm then (Rs.zero,18) else (x.r,0)) else (Rs.zero,6)
 |none=>(Rs.zero,6)) else (Rs.zero,1)
theorem ask_s (m : Nat) (l : List La) (c t : Int) (hm : 300 < m) (hlm : l.length < m) (hl : l.length ≤ 34359738367) (h : ∀ x ∈ l,x.r.In) : replies_Ask m (lL l) (nA c) (nA t) = some (TU [rA (askA l c t).1,nA (askA l c t).2],[]) := by
 have hI := is_s m l hlm hl h
 have hC := could_s m c t
 rw [lL_def] at hI
 rw [replies_Ask_eq,lL_def]
 unfold askA
 cases hi : isL l with
 |false =>
  rw [hi] at hI
  simp (config := {maxSteps := 4000000,implicitDefEqProofs := false}) (disch := omega) only [go_sem,↓reduceIte,Nat.reduceAdd,Nat.reduceSub,Nat.reduceMul,Nat.reduceLeDiff,Nat.reduceLT,Int.reduceEq,Int.reduceNe,Int.reduceLT,Int.reduceLE,Int.reduceAdd,Int.reduceSub,Int.reduceMul,Int.reduceNeg,Nat.zero_add,Nat.add_zero,Nat.mul_one,Int.toNat_natCast,Int.natCast_zero,Int.cast_ofNat_Int,or_false,false_or,or_true,true_or,Int.reduceToNat,Nat.sub_zero,Int.natCast_nonneg,Int.toNat_zero,Bool.true_and,Bool.and_true,Bool.false_and,Bool.and_false,Bool.true_or,Bool.or_true,Bool.false_or,Bool.or_false,Bool.not_true,Bool.not_false,Bool.not_not,true_and,and_true,false_and,and_false,not_true_eq_false,not_false_eq_true,eq_self,decide_true,decide_false,ne_eq,implies_true,forall_const,true_implies,false_implies,Bool.true_eq_false,Bool.false_eq_true,reduceCtorEq,List.map_cons,List.map_nil,List.all_cons,List.all_nil,List.length_cons,List.length_nil,List.length_map,List.length_append,List.nil_append,List.cons_append,List.set_cons_zero,List.set_cons_succ,List.set_nil,List.drop_zero,List.drop_succ_cons,List.drop_nil,List.take_zero,List.take_succ_cons,List.take_nil,Option.map_some,Option.map_none,Option.isSome_some,Nat.reduceEqDiff,Nat.reduceBEq,Nat.reduceGT,List.all_append,List.all_map,Function.comp_def,decide_eq_true_eq,Bool.and_eq_true,beq_self_eq_true,or_self,and_self,ite_true,ite_false,Nat.le_refl,Bool.not_eq_true,decide_not,Bool.not_eq_true',decide_eq_false_iff_not,Bool.not_eq_false,Bool.or_eq_true,if_true,if_false,ite_self,u_roF,u_cvF,u_cvC,u_ceT,u_ceK,u_appS,la_it,la_len,la_sure,la_ltA,la_lt1,la_all1,la_ro,la_take,la_cl,la_tm,la_r,la_sl,rc_len,rc_sure,rc_ltA,rc_lt1,rc_all1,rc_ro,rc_take,rc_sl,la_set,rc_set,zcL_eq,zcR_eq,la_allA,la_len7,all_tt,natInt,u_nthM,hI,rA_def,rc_b0,replies_Ask_r1_eq]
 |true =>
 rw [hi] at hI
 cases hc : could c t with
 |false =>
  rw [hc] at hC
  simp (config := {maxSteps := 4000000,implicitDefEqProofs := false}) (disch := omega) only [go_sem,↓reduceIte,Nat.reduceAdd,Nat.reduceSub,Nat.reduceMul,Nat.reduceLeDiff,Nat.reduceLT,Int.reduceEq,Int.reduceNe,Int.reduceLT,Int.reduceLE,Int.reduceAdd,Int.reduceSub,Int.reduceMul,Int.reduceNeg,Nat.zero_add,Nat.add_zero,Nat.mul_one,Int.toNat_natCast,Int.natCast_zero,Int.cast_ofNat_Int,or_false,false_or,or_true,true_or,Int.reduceToNat,Nat.sub_zero,Int.natCast_nonneg,Int.toNat_zero,Bool.true_and,Bool.and_true,Bool.false_and,Bool.and_false,Bool.true_or,Bool.or_true,Bool.false_or,Bool.or_false,Bool.not_true,Bool.not_false,Bool.not_not,true_and,and_true,false_and,and_false,not_true_eq_false,not_false_eq_true,eq_self,decide_true,decide_false,ne_eq,implies_true,forall_const,true_implies,false_implies,Bool.true_eq_false,Bool.false_eq_true,reduceCtorEq,List.map_cons,List.map_nil,List.all_cons,List.all_nil,List.length_cons,List.length_nil,List.length_map,List.length_append,List.nil_append,List.cons_append,List.set_cons_zero,List.set_cons_succ,List.set_nil,List.drop_zero,List.drop_succ_cons,List.drop_nil,List.take_zero,List.take_succ_cons,List.take_nil,Option.map_some,Option.map_none,Option.isSome_some,Nat.reduceEqDiff,Nat.reduceBEq,Nat.reduceGT,List.all_append,List.all_map,Function.comp_def,decide_eq_true_eq,Bool.and_eq_true,beq_self_eq_true,or_self,and_self,ite_true,ite_false,Nat.le_refl,Bool.not_eq_true,decide_not,Bool.not_eq_true',decide_eq_false_iff_not,Bool.not_eq_false,Bool.or_eq_true,if_true,if_false,ite_self,u_roF,u_cvF,u_cvC,u_ceT,u_ceK,u_appS,la_it,la_len,la_sure,la_ltA,la_lt1,la_all1,la_ro,la_take,la_cl,la_tm,la_r,la_sl,rc_len,rc_sure,rc_ltA,rc_lt1,rc_all1,rc_ro,rc_take,rc_sl,la_set,rc_set,zcL_eq,zcR_eq,la_allA,la_len7,all_tt,natInt,u_nthM,hI,hC,rA_def,rc_b0,replies_Ask_r1_eq]
 |true =>
 rw [hc] at hC
 have h8 := isL_len hi
 have hF := find_s m l c hm h8 (isL_inc hi)
 rw [lL_def] at hF
 have hfl := fndN_le l c
 unfold thereB at hF
 generalize fndN l c = p at hF hfl
 by_cases hp : p < l.length
 ·have hp' : (p : Int) < (l.length : Int) := by omega
  rw [List.getElem?_eq_getElem hp] at hF ⊢
  dsimp only at hF ⊢
  by_cases hx : l[p].cl = c
  ·by_cases h1 : l[p].tm < t
   ·simp (config := {maxSteps := 4000000,implicitDefEqProofs := false}) (disch := omega) only [go_sem,↓reduceIte,Nat.reduceAdd,Nat.reduceSub,Nat.reduceMul,Nat.reduceLeDiff,Nat.reduceLT,Int.reduceEq,Int.reduceNe,Int.reduceLT,Int.reduceLE,Int.reduceAdd,Int.reduceSub,Int.reduceMul,Int.reduceNeg,Nat.zero_add,Nat.add_zero,Nat.mul_one,Int.toNat_natCast,Int.natCast_zero,Int.cast_ofNat_Int,or_false,false_or,or_true,true_or,Int.reduceToNat,Nat.sub_zero,Int.natCast_nonneg,Int.toNat_zero,Bool.true_and,Bool.and_true,Bool.false_and,Bool.and_false,Bool.true_or,Bool.or_true,Bool.false_or,Bool.or_false,Bool.not_true,Bool.not_false,Bool.not_not,true_and,and_true,false_and,and_false,not_true_eq_false,not_false_eq_true,eq_self,decide_true,decide_false,ne_eq,implies_true,forall_const,true_implies,false_implies,Bool.true_eq_false,Bool.false_eq_true,reduceCtorEq,List.map_cons,List.map_nil,List.all_cons,List.all_nil,List.length_cons,List.length_nil,List.length_map,List.length_append,List.nil_append,List.cons_append,List.set_cons_zero,List.set_cons_succ,List.set_nil,List.drop_zero,List.drop_succ_cons,List.drop_nil,List.take_zero,List.take_succ_cons,List.take_nil,Option.map_some,Option.map_none,Option.isSome_some,Nat.reduceEqDiff,Nat.reduceBEq,Nat.reduceGT,List.all_append,List.all_map,Function.comp_def,decide_eq_true_eq,Bool.and_eq_true,beq_self_eq_true,or_self,and_self,ite_true,ite_false,Nat.le_refl,Bool.not_eq_true,decide_not,Bool.not_eq_true',decide_eq_false_iff_not,Bool.not_eq_false,Bool.or_eq_true,if_true,if_false,ite_self,u_roF,u_cvF,u_cvC,u_ceT,u_ceK,u_appS,la_it,la_len,la_sure,la_ltA,la_lt1,la_all1,la_ro,la_take,la_cl,la_tm,la_r,la_sl,rc_len,rc_sure,rc_ltA,rc_lt1,rc_all1,rc_ro,rc_take,rc_sl,la_set,rc_set,zcL_eq,zcR_eq,la_allA,la_len7,all_tt,natInt,u_nthM,hI,hC,hF,hp',hx,h1,rA_def,rc_b0,replies_Ask_r4_eq,replies_Ask_r3_eq,replies_Ask_r2_eq,replies_Ask_r1_eq]
   ·by_cases h2 : t < l[p].tm
    ·simp (config := {maxSteps := 4000000,implicitDefEqProofs := false}) (disch := omega) only [go_sem,↓reduceIte,Nat.reduceAdd,Nat.reduceSub,Nat.reduceMul,Nat.reduceLeDiff,Nat.reduceLT,Int.reduceEq,Int.reduceNe,Int.reduceLT,Int.reduceLE,Int.reduceAdd,Int.reduceSub,Int.reduceMul,Int.reduceNeg,Nat.zero_add,Nat.add_zero,Nat.mul_one,Int.toNat_natCast,Int.natCast_zero,Int.cast_ofNat_Int,or_false,false_or,or_true,true_or,Int.reduceToNat,Nat.sub_zero,Int.natCast_nonneg,Int.toNat_zero,Bool.true_and,Bool.and_true,Bool.false_and,Bool.and_false,Bool.true_or,Bool.or_true,Bool.false_or,Bool.or_false,Bool.not_true,Bool.not_false,Bool.not_not,true_and,and_true,false_and,and_false,not_true_eq_false,not_false_eq_true,eq_self,decide_true,decide_false,ne_eq,implies_true,forall_const,true_implies,false_implies,Bool.true_eq_false,Bool.false_eq_true,reduceCtorEq,List.map_cons,List.map_nil,List.all_cons,List.all_nil,List.length_cons,List.length_nil,List.length_map,List.length_append,List.nil_append,List.cons_append,List.set_cons_zero,List.set_cons_succ,List.set_nil,List.drop_zero,List.drop_succ_cons,List.drop_nil,List.take_zero,List.take_succ_cons,List.take_nil,Option.map_some,Option.map_none,Option.isSome_some,Nat.reduceEqDiff,Nat.reduceBEq,Nat.reduceGT,List.all_append,List.all_map,Function.comp_def,decide_eq_true_eq,Bool.and_eq_true,beq_self_eq_true,or_self,and_self,ite_true,ite_false,Nat.le_refl,Bool.not_eq_true,decide_not,Bool.not_eq_true',decide_eq_false_iff_not,Bool.not_eq_false,Bool.or_eq_true,if_true,if_false,ite_self,u_roF,u_cvF,u_cvC,u_ceT,u_ceK,u_appS,la_it,la_len,la_sure,la_ltA,la_lt1,la_all1,la_ro,la_take,la_cl,la_tm,la_r,la_sl,rc_len,rc_sure,rc_ltA,rc_lt1,rc_all1,rc_ro,rc_take,rc_sl,la_set,rc_set,zcL_eq,zcR_eq,la_allA,la_len7,all_tt,natInt,u_nthM,hI,hC,hF,hp',hx,h1,h2,rA_def,rc_b0,replies_Ask_r4_eq,replies_Ask_r3_eq,replies_Ask_r2_eq,replies_Ask_r1_eq]
    ·simp (config := {maxSteps := 4000000,implicitDefEqProofs := false}) (disch := omega) only [go_sem,↓reduceIte,Nat.reduceAdd,Nat.reduceSub,Nat.reduceMul,Nat.reduceLeDiff,Nat.reduceLT,Int.reduceEq,Int.reduceNe,Int.reduceLT,Int.reduceLE,Int.reduceAdd,Int.reduceSub,Int.reduceMul,Int.reduceNeg,Nat.zero_add,Nat.add_zero,Nat.mul_one,Int.toNat_natCast,Int.natCast_zero,Int.cast_ofNat_Int,or_false,false_or,or_true,true_or,Int.reduceToNat,Nat.sub_zero,Int.natCast_nonneg,Int.toNat_zero,Bool.true_and,Bool.and_true,Bool.false_and,Bool.and_false,Bool.true_or,Bool.or_true,Bool.false_or,Bool.or_false,Bool.not_true,Bool.not_false,Bool.not_not,true_and,and_true,false_and,and_false,not_true_eq_false,not_false_eq_true,eq_self,decide_true,decide_false,ne_eq,implies_true,forall_const,true_implies,false_implies,Bool.true_eq_false,Bool.false_eq_true,reduceCtorEq,List.map_cons,List.map_nil,List.all_cons,List.all_nil,List.length_cons,List.length_nil,List.length_map,List.length_append,List.nil_append,List.cons_append,List.set_cons_zero,List.set_cons_succ,List.set_nil,List.drop_zero,List.drop_succ_cons,List.drop_nil,List.take_zero,List.take_succ_cons,List.take_nil,Option.map_some,Option.map_none,Option.isSome_some,Nat.reduceEqDiff,Nat.reduceBEq,Nat.reduceGT,List.all_append,List.all_map,Function.comp_def,decide_eq_true_eq,Bool.and_eq_true,beq_self_eq_true,or_self,and_self,ite_true,ite_false,Nat.le_refl,Bool.not_eq_true,decide_not,Bool.not_eq_true',decide_eq_false_iff_not,Bool.not_eq_false,Bool.or_eq_true,if_true,if_false,ite_self,u_roF,u_cvF,u_cvC,u_ceT,u_ceK,u_appS,la_it,la_len,la_sure,la_ltA,la_lt1,la_all1,la_ro,la_take,la_cl,la_tm,la_r,la_sl,rc_len,rc_sure,rc_ltA,rc_lt1,rc_all1,rc_ro,rc_take,rc_sl,la_set,rc_set,zcL_eq,zcR_eq,la_allA,la_len7,all_tt,natInt,u_nthM,hI,hC,hF,hp',hx,h1,h2,rA_def,rc_b0,replies_Ask_r4_eq,replies_Ask_r3_eq,replies_Ask_r2_eq,replies_Ask_r1_eq]
  ·simp (config := {maxSteps := 4000000,implicitDefEqProofs := false}) (disch := omega) only [go_sem,↓reduceIte,Nat.reduceAdd,Nat.reduceSub,Nat.reduceMul,Nat.reduceLeDiff,Nat.reduceLT,Int.reduceEq,Int.reduceNe,Int.reduceLT,Int.reduceLE,Int.reduceAdd,Int.reduceSub,Int.reduceMul,Int.reduceNeg,Nat.zero_add,Nat.add_zero,Nat.mul_one,Int.toNat_natCast,Int.natCast_zero,Int.cast_ofNat_Int,or_false,false_or,or_true,true_or,Int.reduceToNat,Nat.sub_zero,Int.natCast_nonneg,Int.toNat_zero,Bool.true_and,Bool.and_true,Bool.false_and,Bool.and_false,Bool.true_or,Bool.or_true,Bool.false_or,Bool.or_false,Bool.not_true,Bool.not_false,Bool.not_not,true_and,and_true,false_and,and_false,not_true_eq_false,not_false_eq_true,eq_self,decide_true,decide_false,ne_eq,implies_true,forall_const,true_implies,false_implies,Bool.true_eq_false,Bool.false_eq_true,reduceCtorEq,List.map_cons,List.map_nil,List.all_cons,List.all_nil,List.length_cons,List.length_nil,List.length_map,List.length_append,List.nil_append,List.cons_append,List.set_cons_zero,List.set_cons_succ,List.set_nil,List.drop_zero,List.drop_succ_cons,List.drop_nil,List.take_zero,List.take_succ_cons,List.take_nil,Option.map_some,Option.map_none,Option.isSome_some,Nat.reduceEqDiff,Nat.reduceBEq,Nat.reduceGT,List.all_append,List.all_map,Function.comp_def,decide_eq_true_eq,Bool.and_eq_true,beq_self_eq_true,or_self,and_self,ite_true,ite_false,Nat.le_refl,Bool.not_eq_true,decide_not,Bool.not_eq_true',decide_eq_false_iff_not,Bool.not_eq_false,Bool.or_eq_true,if_true,if_false,ite_self,u_roF,u_cvF,u_cvC,u_ceT,u_ceK,u_appS,la_it,la_len,la_sure,la_ltA,la_lt1,la_all1,la_ro,la_take,la_cl,la_tm,la_r,la_sl,rc_len,rc_sure,rc_ltA,rc_lt1,rc_all1,rc_ro,rc_take,rc_sl,la_set,rc_set,zcL_eq,zcR_eq,la_allA,la_len7,all_tt,natInt,u_nthM,hI,hC,hF,hp',hx,rA_def,rc_b0,replies_Ask_r4_eq,replies_Ask_r3_eq,replies_Ask_r2_eq,replies_Ask_r1_eq]
 ·have hp' : ¬ (p : Int) < (l.length : Int) := by omega
  rw [List.getElem?_eq_none (by omega)] at hF ⊢
  dsimp only at hF ⊢
  simp (config := {maxSteps := 4000000,implicitDefEqProofs := false}) (disch := omega) only [go_sem,↓reduceIte,Nat.reduceAdd,Nat.reduceSub,Nat.reduceMul,Nat.reduceLeDiff,Nat.reduceLT,Int.reduceEq,Int.reduceNe,Int.reduceLT,Int.reduceLE,Int.reduceAdd,Int.reduceSub,Int.reduceMul,Int.reduceNeg,Nat.zero_add,Nat.add_zero,Nat.mul_one,Int.toNat_natCast,Int.natCast_zero,Int.cast_ofNat_Int,or_false,false_or,or_true,true_or,Int.reduceToNat,Nat.sub_zero,Int.natCast_nonneg,Int.toNat_zero,Bool.true_and,Bool.and_true,Bool.false_and,Bool.and_false,Bool.true_or,Bool.or_true,Bool.false_or,Bool.or_false,Bool.not_true,Bool.not_false,Bool.not_not,true_and,and_true,false_and,and_false,not_true_eq_false,not_false_eq_true,eq_self,decide_true,decide_false,ne_eq,implies_true,forall_const,true_implies,false_implies,Bool.true_eq_false,Bool.false_eq_true,reduceCtorEq,List.map_cons,List.map_nil,List.all_cons,List.all_nil,List.length_cons,List.length_nil,List.length_map,List.length_append,List.nil_append,List.cons_append,List.set_cons_zero,List.set_cons_succ,List.set_nil,List.drop_zero,List.drop_succ_cons,List.drop_nil,List.take_zero,List.take_succ_cons,List.take_nil,Option.map_some,Option.map_none,Option.isSome_some,Nat.reduceEqDiff,Nat.reduceBEq,Nat.reduceGT,List.all_append,List.all_map,Function.comp_def,decide_eq_true_eq,Bool.and_eq_true,beq_self_eq_true,or_self,and_self,ite_true,ite_false,Nat.le_refl,Bool.not_eq_true,decide_not,Bool.not_eq_true',decide_eq_false_iff_not,Bool.not_eq_false,Bool.or_eq_true,if_true,if_false,ite_self,u_roF,u_cvF,u_cvC,u_ceT,u_ceK,u_appS,la_it,la_len,la_sure,la_ltA,la_lt1,la_all1,la_ro,la_take,la_cl,la_tm,la_r,la_sl,rc_len,rc_sure,rc_ltA,rc_lt1,rc_all1,rc_ro,rc_take,rc_sl,la_set,rc_set,zcL_eq,zcR_eq,la_allA,la_len7,all_tt,natInt,u_nthM,hI,hC,hF,rA_def,rc_b0,replies_Ask_r4_eq,replies_Ask_r3_eq,replies_Ask_r2_eq,replies_Ask_r1_eq]
end Go.Proofs.Ytchncgdjefbmfaa

