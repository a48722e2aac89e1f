/-
  Texts laid together, part 1 of 7: laws of a walk over data, contracts of functions, each whole by itself.
-/
import Derived.WalkKit
import Derived.Deep.AppendLies
import Derived.Deep.Draws
import Derived.Lib.AppendStr
import Derived.Lib.Zigzag
import Derived.WalkSmall
import Derived.Sort.Walk0
import Derived.Test.YtaplemeamcgpkaaDoorRows
import Derived.WalkLawsBesides
import Derived.WalkSpells
import Derived.BigQuiet
import Derived.Deep.QuietTactic
import Derived.Shelf.Strings.Builder1
import Derived.Shelf.LaysM
import Derived.Shelf.Strconv.Itoa3
import Derived.Lib.AppendIntMem
import Derived.KernelRfl
import Derived.Test.YtaplemeamcgpkaaDoorProg
import Derived.Stop.LaidErr
import Derived.Lib.LaidTab
import Derived.Test.YtaplemeamcgpkaaDoorTie
import Derived.ProofKit
import Derived.LaidMore
import Derived.OpenShut
import Derived.Stop.Joined
import Derived.Deep.LoopGhost
import Derived.Maps.Own
import Derived.Maps.OwnSet
import Derived.Maps.Views
import Derived.Laws.Cover3
import Derived.Laws.Pointers
import Derived.Laws.IdiomStrings
import Derived.Laws.BytesArg
import Derived.Deep.Upon
set_option maxRecDepth 100000
noncomputable section
set_option linter.unusedVariables false
set_option linter.unusedSimpArgs false
namespace Go.Proofs.YtaplemeamcgpkaaDoor
open Go.RowKit
theorem zCC {p : Prop} (h : p) : Hid p := h
theorem z0F {B : Nat} {a w : World} (h : Below B a w) (n : Nat) : Below B a (w.drewN n) := ⟨h.os,h.tape,h.output,h.size,h.block⟩
def lenOf : Value → Nat|.slice _ n _=>n|_=>0
theorem zDk {k : IntKind} {a b : Int} (h : a = b) : Ending.returned (.int k a) = .returned (.int k b) := by rw [h]
theorem zDy {k1 k2 k3 : IntKind} {a b c a' b' c' : Int} (h1 : a = a') (h2 : b = b') (h3 : c = c') :
 Ending.returned (.tuple #[.int k1 a, .int k2 b, .int k3 c]) = .returned (.tuple #[.int k1 a', .int k2 b', .int k3 c']) := by rw [h1,h2,h3]
theorem zFt {a b : Bool} (h : a = b) : Ending.returned (.bool a) = .returned (.bool b) := by rw [h]
def cB (b : UInt8) : Value := .int .u8 (b.toNat : Int)
theorem ziO (l : List UInt8) : ∀ u ∈ l.map cB,u.oneCell' = true := by
 intro u hu;simp only [List.mem_map] at hu;obtain ⟨b,_,rfl⟩ := hu;rfl
theorem zAZ (n : Nat) (h : n < 256) : cB (UInt8.ofNat n) = .int .u8 (n : Int) := by
 simp [cB];omega
def Rd (w : World) (A : Option Addr) (size n : Nat) (xs : List Value) : Prop :=
 xs.length = n * size ∧ (0 < n → ∃ b off,A = some ⟨b,off,none⟩ ∧ b < w.heap.size ∧ ∀ j u,xs[j]? = some u → w.cell? ⟨b,off + j,none⟩ = some u)
section
variable {w w' : World} {A : Option Addr} {size n : Nat} {xs : List Value}
theorem Rd.empty (w : World) (A : Option Addr) (size : Nat) : Rd w A size 0 [] := ⟨by simp,fun h=>by omega⟩
theorem Rd.keep (h : Rd w A size n xs) (hs : w.heap.size ≤ w'.heap.size) (hk : ∀ b o,b < w.heap.size → w'.cell? ⟨b,o,none⟩ = w.cell? ⟨b,o,none⟩) : Rd w' A size n xs :=
 ⟨h.1,fun hn=>by
  obtain ⟨b,off,e,hb,hc⟩ := h.2 hn
  exact ⟨b,off,e,by omega,fun j u hu=>(hk _ _ hb).trans (hc j u hu)⟩⟩
theorem Rd.below (h : Rd w A size n xs) (hb : Below w.heap.size w w') : Rd w' A size n xs := h.keep hb.size fun b o hlt=>hb.cell (p := ⟨b,o,none⟩) hlt
theorem Rd.drew (h : Rd w A size n xs) : Rd w.drew A size n xs := h
theorem Rd.drewN (h : Rd w A size n xs) (k : Nat) : Rd (w.drewN k) A size n xs := h
theorem Rd.alloc (h : Rd w A size n xs) (o : Obj) : Rd (w.alloc o) A size n xs := h.below ((Below.refl _ _).alloc (Nat.le_refl _) o)
theorem Rd.at_ (h : Rd w A size n xs) (hn : 0 < n) : ∃ b off,A = some ⟨b,off,none⟩ ∧ b < w.heap.size ∧ ∀ j u,xs[j]? = some u → w.cell? ⟨b,off + j,none⟩ = some u := h.2 hn
theorem Rd.of_own {base : Nat} {e : TypeId} {c : Nat} (h : w.ownsRow base e size (.slice A n c) n xs) : Rd w A size n xs := by
 refine ⟨h.1,fun hn=>?_⟩
 obtain ⟨g,cap,hv,_,hlt⟩ := h.form hn
 have hA : A = some ⟨g,0,none⟩ := by injection hv
 subst hA
 exact ⟨g,0,rfl,hlt,fun j u hu=>by
  have := h.cells (g := g) rfl j u hu
  rw [show (⟨g,0,none⟩ : Addr).add j = ⟨g,0 + j,none⟩ from by unfold Addr.add;split <;> simp_all] at this
  exact this⟩
theorem Rd.cut (h : Rd w A size n xs) {k cap : Nat} (hk : k ≤ n) (hc : n ≤ cap) :
  Rd w (if cap = k then A else A.map (·.add (k * size))) size (n - k) (xs.drop (k * size)) := by
 refine ⟨by rw [List.length_drop,h.1,Nat.sub_mul],fun hn=>?_⟩
 obtain ⟨b,off,rfl,hb,hcell⟩ := h.2 (by omega)
 rw [if_neg (by omega)]
 refine ⟨b,off + k * size,?_,hb,fun j u hu=>?_⟩
 ·simp only [Option.map_some,Addr.add];split <;> simp_all
 ·rw [Nat.add_assoc];exact hcell _ u (by rw [← hu,List.getElem?_drop])
theorem Rd.less (h : Rd w A size n xs) {k : Nat} (hk : k ≤ n) : Rd w A size k (xs.take (k * size)) := by
 refine ⟨by rw [List.length_take,h.1];exact Nat.min_eq_left (Nat.mul_le_mul_right _ hk),fun hn=>?_⟩
 obtain ⟨b,off,e,hb,hcell⟩ := h.2 (by omega)
 refine ⟨b,off,e,hb,fun j u hu=>hcell j u ?_⟩
 rw [List.getElem?_take] at hu
 split at hu
 ·exact hu
 ·cases hu
end
def cutA (A : Option Addr) (c lo size : Nat) : Option Addr := if c = lo then A else A.map (·.add (lo * size))
theorem Rd.cutA {w : World} {A : Option Addr} {size n : Nat} {xs : List Value} (h : Rd w A size n xs) {lo hi c : Nat} (h1 : lo ≤ hi) (h2 : hi ≤ n) (hc : n ≤ c) :
 Rd w (cutA A c lo size) size (hi - lo) ((xs.drop (lo * size)).take ((hi - lo) * size)) := (h.cut (by omega) hc).less (by omega)
theorem zu9 {P : Program} {t e : TypeId} {size : Nat} (ht : P.underlying t = some (.slice e)) (hs : (P.info? e).map (·.size) = some size) (A : Option Addr) (n c lo hi : Nat) (h1 : lo ≤ hi) (h2 : hi ≤ c) (a b : Int) (ha : a = lo) (hb : b = hi) (w : World) :
  (Instr.slice t (.slice A n c) (some (.int .i64 a)) (some (.int .i64 b)) none).run P w = .ok (.slice (cutA A c lo size) (hi - lo) (c - lo)) w := by
 subst ha hb
 have he : P.elem t = e := by simp [Program.elem,ht]
 have hz : (sizeOf e).run P w = .ok size w := by
  cases hi : P.info? e with
  |none=>rw [hi] at hs;cases hs
  |some i=>rw [hi] at hs;injection hs with hs;subst hs;simp [sizeOf,typeInfo,hi]
 rw [run_slice_lh w t A n c (by rw [he];exact ht) .i64 .i64 lo hi (by omega) (by omega) (by omega),he,hz]
 simp [sliced,_root_.Go.Proofs.YtaplemeamcgpkaaDoor.cutA]
theorem z2e {P : Program} {t e : TypeId} {size : Nat} (ht : P.underlying t = some (.slice e)) (hs : (P.info? e).map (·.size) = some size) (A : Option Addr) (n c lo : Nat) (h1 : lo ≤ n) (a : Int) (ha : a = lo) (w : World) :
  (Instr.slice t (.slice A n c) (some (.int .i64 a)) none none).run P w = .ok (.slice (cutA A c lo size) (n - lo) (c - lo)) w := by
 subst ha
 have he : P.elem t = e := by simp [Program.elem,ht]
 have hz : (sizeOf e).run P w = .ok size w := by
  cases hi : P.info? e with
  |none=>rw [hi] at hs;cases hs
  |some i=>rw [hi] at hs;injection hs with hs;subst hs;simp [sizeOf,typeInfo,hi]
 rw [run_slice_l w t A n c (by rw [he];exact ht) .i64 lo (by omega) (by omega),he,hz]
 simp [sliced,_root_.Go.Proofs.YtaplemeamcgpkaaDoor.cutA]
theorem zlH {P : Program} {t : TypeId} (ht : P.underlying t = some .string) (l : List UInt8) (k : Nat) (hk : k < l.length) (d : Nat) (hd : d = l[k].toNat) (i : Int) (hi : i = k) (w : World) :
  (Instr.index t (.string ⟨l.toArray⟩) (.int .i64 i)).run P w = .ok (.int .u8 (d : Int)) w := by
 subst hi hd
 rw [run_index_string w t _ .i64 k ht,dif_pos (by simp [ByteArray.size];omega)]
 simp;rfl
def Bs (w : World) (A : Option Addr) (l : List UInt8) : Prop := Rd w A 1 l.length (l.map cB)
theorem Bs.below {w w' : World} {A : Option Addr} {l : List UInt8} (h : Bs w A l) (hb : Below w.heap.size w w') : Bs w' A l := Rd.below h hb
theorem Bs.cutA {w : World} {A : Option Addr} {l : List UInt8} (h : Bs w A l) {lo n c : Nat} (h2 : lo + n ≤ l.length) (hc : l.length ≤ c) : Bs w (cutA A c lo 1) ((l.drop lo).take n) := by
 have := Rd.cutA h (lo := lo) (hi := lo + n) (by omega) h2 hc
 unfold Bs
 rw [show lo + n - lo = n from by omega] at this
 simp only [Nat.mul_one] at this
 rw [List.map_take,List.map_drop,show ((l.drop lo).take n).length = n from by simp;omega]
 exact this
theorem ztt {w : World} {A : Option Addr} {l : List UInt8} (h : Bs w A l) {lo c : Nat} (h2 : lo ≤ l.length) (hc : l.length ≤ c) : Bs w (cutA A c lo 1) (l.drop lo) := by
 have := h.cutA (lo := lo) (n := l.length - lo) (c := c) (by omega) hc
 rwa [List.take_of_length_le (by simp)] at this
theorem Bs.cell {w : World} {A : Option Addr} {l : List UInt8} (h : Bs w A l) (hn : 0 < l.length) : ∃ b off,A = some ⟨b,off,none⟩ ∧ b < w.heap.size ∧ ∀ j (hj : j < l.length),w.cell? ⟨b,off + j,none⟩ = some (.int .u8 (l[j].toNat : Int)) := by
 obtain ⟨b,off,e,hb,hc⟩ := h.2 hn
 exact ⟨b,off,e,hb,fun j hj=>hc j _ (by simp [hj,cB])⟩
def z3p (t : TypeId) (w : World) (l : List UInt8) (e : Ending) (w' : World) : Prop :=
 ∃ A cap,e = .returned (.slice A l.length cap) ∧ w'.ownsRow w.heap.size t 1 (.slice A l.length cap) l.length (l.map cB) ∧ Below w.heap.size w w'
theorem z9y {t : TypeId} {w w' : World} {l : List UInt8} {A : Option Addr} {n cap : Nat} (hn : n = l.length)
  (hown : w'.ownsRow w.heap.size t 1 (.slice A l.length cap) l.length (l.map cB)) (hb : Below w.heap.size w w') : z3p t w l (.returned (.slice A n cap)) w' := by
 subst hn;exact ⟨A,cap,rfl,hown,hb⟩
theorem Bs.of_own {w : World} {base : Nat} {t : TypeId} {A : Option Addr} {c : Nat} {l : List UInt8} (h : w.ownsRow base t 1 (.slice A l.length c) l.length (l.map cB)) : Bs w A l := Rd.of_own h
theorem zfP {P : Program} (src dst e : TypeId) (hs : P.underlying src = some (.slice e)) (he : P.underlying e = some (.int .u8)) (hd : P.underlying dst = some .string)
  (w : World) (A : Option Addr) (c : Nat) (l : List UInt8) (hb : Bs w A l) : (_root_.Go.convert src dst (.slice A l.length c)).run P w = .ok (.string ⟨l.toArray⟩) w := by
 cases A with
 |none =>
  have h0 : l.length = 0 := by
   rcases Nat.eq_zero_or_pos l.length with h|h
   ·exact h
   ·obtain ⟨b,off,e,_⟩ := hb.cell h;cases e
  have hl : l = [] := List.eq_nil_of_length_eq_zero h0
  subst hl
  exact run_convert_bytes_nil w src e hs he _ c dst hd
 |some a =>
  refine run_convert_bytes_back w src dst e a c l hs he hd fun j hj=>?_
  obtain ⟨b,off,e,_,hc⟩ := hb.cell (by omega)
  injection e with e
  subst e
  rw [show (⟨b,off,none⟩ : Addr).add j = ⟨b,off + j,none⟩ from by unfold Addr.add;split <;> simp_all]
  exact hc j hj
def cS (s : List UInt8) : Value := .string ⟨s.toArray⟩
def Ss (w : World) (A : Option Addr) (L : List (List UInt8)) : Prop := Rd w A 1 L.length (L.map cS)
theorem Ss.below {w w' : World} {A : Option Addr} {l : List (List UInt8)} (h : Ss w A l) (hb : Below w.heap.size w w') : Ss w' A l := Rd.below h hb
theorem Ss.cell {w : World} {A : Option Addr} {l : List (List UInt8)} (h : Ss w A l) (hn : 0 < l.length) : ∃ b off,A = some ⟨b,off,none⟩ ∧ b < w.heap.size ∧ ∀ j (hj : j < l.length),w.cell? ⟨b,off + j,none⟩ = some (.string ⟨l[j].toArray⟩) := by
 obtain ⟨b,off,e,hb,hc⟩ := h.2 hn
 exact ⟨b,off,e,hb,fun j hj=>hc j _ (by simp [hj,cS])⟩
theorem Ss.take {w : World} {A : Option Addr} {l : List (List UInt8)} (hb : Ss w A l) (k : Nat) : Ss w A (l.take k) := by
 by_cases h : k < l.length
 ·have := Rd.less hb (k := k) (by omega)
  unfold Ss
  rw [List.map_take,show (l.take k).length = k from by simp;omega]
  simpa using this
 ·rw [List.take_of_length_le (by omega)];exact hb
section
variable {P : Program} (w : World)
theorem zbu {ops : Array Oper} {rest : List Oper} {o : Oper} {a : Act} {Q : Exit → Act → World → Prop} (hgd : o.guard = none) (s x : Operand) (t : TypeId)
  (ho : o.op = .call { callee := .builtin .append,args := #[s,x],argTypes := #[t,t] })
  (w0 : World) (base : Nat) (e : TypeId) (z : Value) (size bytes : Nat) (ht : P.underlying t = some (.slice e)) (hi : (P.info? e).map (fun i=>(i.zero,i.size,i.bytes)) = some (some z,size,bytes))
  (hzs : z.cells.size = size) (hsz : 0 < size) (hby : bytes ≤ 4096)
  (v : Value) (n : Nat) (xs : List Value) (hs : a.eval s = v) (hown : w.ownsRow base e size v n xs) (hbel : Below base w0 w)
  (ad : Addr) (m c : Nat) (news : List Value) (hx : a.eval x = .slice (some ad) m c) (hl : news.length = m * size) (hnews : ∀ j u,news[j]? = some u → w.cell? (ad.add j) = some u) (h1 : ∀ u ∈ news,u.oneCell' = true)
  (hm : 0 < m) (hroom : n + m ≤ 34359738368) (hbase : base ≤ w.heap.size)
  (h : ∀ g cap w',w'.ownsRow base e size (.slice (some ⟨g,0,none⟩) (n + m) cap) (n + m) (xs ++ news) → Below base w0 w' → w.grownBy w' v.ownBlock → wpList P ops Q rest (a.put o.dst (.slice (some ⟨g,0,none⟩) (n + m) cap)) w') : wpList P ops Q (o :: rest) a w := by
 obtain ⟨i0,hi0,hz0,hz1,hz2⟩ := info_parts hi
 refine wpList_append_lies w hgd s x t ho base e i0 z size bytes ht hi0 hz0 hz1 hz2 hzs hsz v n xs hs hown ad m c news hx hl hnews h1 hm (by simp only [maxLen];omega)
  (by have := Nat.mul_le_mul hroom hby;omega) hbase _ rfl ?_
 intro g cap w' hown' hgrow _ _
 exact h g cap w' hown' (hbel.grown hgrow hbase fun k hk=>(hown.lt k hk).1) hgrow
theorem zcB {ops : Array Oper} {rest : List Oper} {o : Oper} {a : Act} {Q : Exit → Act → World → Prop} (hgd : o.guard = none) (s x : Operand) (t : TypeId)
  (ho : o.op = .call { callee := .builtin .append,args := #[s,x],argTypes := #[t,t] })
  (w0 : World) (base : Nat) (e te : TypeId) (z : Value) (bytes : Nat) (ht : P.underlying t = some (.slice e)) (hi : (P.info? e).map (fun i=>(i.zero,i.size,i.bytes)) = some (some z,1,bytes))
  (hzs : z.cells.size = 1) (hby : bytes ≤ 4096)
  (v : Value) (n : Nat) (xs : List Value) (y : Value) (hs : a.eval s = v) (hx : a.eval x = .slice (some ⟨w.heap.size,0,none⟩) 1 1) (h1 : y.oneCell' = true)
  (hown : w.ownsRow base e 1 v n xs) (hbel : Below base w0 w) (hbase : base ≤ w.heap.size) (hroom : n + 1 ≤ 34359738368)
  (h : ∀ g cap w',w'.ownsRow base e 1 (.slice (some ⟨g,0,none⟩) (n + 1) cap) (n + 1) (xs ++ [y]) → Below base w0 w' → wpList P ops Q rest (a.put o.dst (.slice (some ⟨g,0,none⟩) (n + 1) cap)) w') :
  wpList P ops Q (o :: rest) a (w.alloc (.cells #[y] te)) := by
 refine zbu (w.alloc (.cells #[y] te)) hgd s x t ho w0 base e z 1 bytes ht hi hzs (by omega) hby v n xs hs (hown.alloc _) (hbel.alloc hbase _) ⟨w.heap.size,0,none⟩ 1 1 [y] hx (by simp) (cell_one_new _ _ _)
  (by intro u hu;simp at hu;subst hu;exact h1) (by omega) hroom (by simp;omega) ?_
 intro g cap w' hown' hb' _
 exact h g cap w' hown' hb'
theorem zch (base : Nat) (t ty e : TypeId) (i : TypeInfo) (size : Nat) (ht : P.underlying t = some (.slice e)) (hi : P.info? e = some i) (v : Value) (n : Nat) (xs : List Value) (hown : w.ownsRow base e size v n xs) (c : Nat) :
  (Builtin.append_ #[t,t] ty #[v, .slice none 0 c]).run P w = .ok v w := by
 rcases hown.2 with ⟨rfl,rfl⟩|⟨g,cap,cur,rfl,_,_,hnc,_⟩
 ·simp [Builtin.append_,run_underlying ht,sizeOf,typeInfo,hi,Builtin.lenOf,Builtin.firstCells]
 ·simp [Builtin.append_,run_underlying ht,sizeOf,typeInfo,hi,Builtin.lenOf,Builtin.firstCells,hnc,storeCells]
theorem zcK {base : Nat} {e : TypeId} {size : Nat} {v : Value} {n : Nat} {xs : List Value} (hown : w.ownsRow base e size v n xs) : ∃ A cap,v = .slice A n cap := by
 rcases hown.2 with ⟨rfl,h0⟩|⟨g,cap,cur,rfl,_⟩
 ·exact ⟨none,0,by rw [h0]⟩
 ·exact ⟨_,_,rfl⟩
theorem zak (base : Nat) (t ty e : TypeId) (z : Value) (size bytes : Nat) (ht : P.underlying t = some (.slice e)) (hi : (P.info? e).map (fun i=>(i.zero,i.size,i.bytes)) = some (some z,size,bytes))
  (hzs : z.cells.size = size) (hsz : 0 < size) (hby : bytes ≤ 4096)
  (v : Value) (n : Nat) (xs : List Value) (hown : w.ownsRow base e size v n xs)
  (A : Option Addr) (m c : Nat) (news : List Value) (hr : Rd w A size m news) (h1 : ∀ u ∈ news,u.oneCell' = true) (hroom : n + m ≤ 34359738368) (hbase : base ≤ w.heap.size) :
  ∃ A' cap' w',(Builtin.append_ #[t,t] ty #[v, .slice A m c]).run P w = .ok (.slice A' (n + m) cap') w' ∧ w'.ownsRow base e size (.slice A' (n + m) cap') (n + m) (xs ++ news) ∧ w.grownBy w' v.ownBlock := by
 obtain ⟨i0,hi0,hz0,hz1,hz2⟩ := info_parts hi
 cases A with
 |none =>
  have hm : m = 0 := by
   rcases Nat.eq_zero_or_pos m with h|h
   ·exact h
   ·obtain ⟨_,_,e,_⟩ := hr.2 h;cases e
  subst hm
  have hn : news = [] := List.eq_nil_of_length_eq_zero (by simpa using hr.1)
  subst hn
  obtain ⟨A',cap',rfl⟩ := zcK w hown
  exact ⟨A',cap',w,zch w base t ty e i0 size ht hi0 _ n xs hown c,by simpa using hown,World.grownBy.refl w _⟩
 |some ad =>
  have hcells : ∀ j u,news[j]? = some u → w.cell? (ad.add j) = some u := by
   intro j u hu
   rcases Nat.eq_zero_or_pos m with h0|h0
   ·subst h0
    have hn : news = [] := List.eq_nil_of_length_eq_zero (by simpa using hr.1)
    subst hn;simp at hu
   ·obtain ⟨b,off,e,_,hc⟩ := hr.2 h0
    injection e with e;subst e
    rw [show (⟨b,off,none⟩ : Addr).add j = ⟨b,off + j,none⟩ from by unfold Addr.add;split <;> simp_all]
    exact hc j u hu
  obtain ⟨v',w',hrun,h2,h3,_,_⟩ := run_append_own_at (P := P) w base t ty e i0 z size bytes ht hi0 hz0 hz1 hz2 hzs hsz v n xs hown ad m c news hr.1 hcells h1 (by simp only [maxLen];omega)
   (by have := Nat.mul_le_mul hroom hby;omega) hbase
  obtain ⟨A',cap',rfl⟩ := zcK w' h2
  exact ⟨A',cap',w',hrun,h2,h3⟩
theorem z0Q {ops : Array Oper} {rest : List Oper} {o : Oper} {a : Act} {Q : Exit → Act → World → Prop} (hgd : o.guard = none) (s x : Operand) (t : TypeId)
  (ho : o.op = .call { callee := .builtin .append,args := #[s,x],argTypes := #[t,t] })
  (w0 : World) (base : Nat) (e : TypeId) (z : Value) (size bytes : Nat) (ht : P.underlying t = some (.slice e)) (hi : (P.info? e).map (fun i=>(i.zero,i.size,i.bytes)) = some (some z,size,bytes))
  (hzs : z.cells.size = size) (hsz : 0 < size) (hby : bytes ≤ 4096)
  (v : Value) (n : Nat) (xs : List Value) (hs : a.eval s = v) (hown : w.ownsRow base e size v n xs) (hbel : Below base w0 w)
  (A : Option Addr) (m c : Nat) (news : List Value) (hx : a.eval x = .slice A m c) (hr : Rd w A size m news) (h1 : ∀ u ∈ news,u.oneCell' = true) (hroom : n + m ≤ 34359738368) (hbase : base ≤ w.heap.size)
  (h : ∀ A' cap' w',w'.ownsRow base e size (.slice A' (n + m) cap') (n + m) (xs ++ news) → Below base w0 w' → wpList P ops Q rest (a.put o.dst (.slice A' (n + m) cap')) w') : wpList P ops Q (o :: rest) a w := by
 obtain ⟨A',cap',w',hrun,h2,h3⟩ := zak w base t o.type e z size bytes ht hi hzs hsz hby v n xs hown A m c news hr h1 hroom hbase
 refine wpList_plain hgd fun K hK=>?_
 unfold Oper.wp execOp
 simp only [ho,resolve,invoke,builtin,Sem.run_bind,Sem.run_pure,Result.andThen_ok,List.map_toArray,List.map_cons,List.map_nil,hs,hx,hrun]
 exact hK _ _ (h A' cap' w' h2 (hbel.grown h3 hbase fun k hk=>(hown.lt k hk).1))
theorem zjk (l : List UInt8) : Lib.strCells ⟨l.toArray⟩ = l.map cB := by
 simp only [Lib.strCells];rfl
theorem zku (l : List UInt8) : (ByteArray.mk l.toArray).size = l.length := by simp [ByteArray.size]
theorem zfa {ops : Array Oper} {rest : List Oper} {o : Oper} {a : Act} {Q : Exit → Act → World → Prop} (hgd : o.guard = none) (sl x : Operand) (t u : TypeId)
  (ho : o.op = .call { callee := .builtin .append,args := #[sl,x],argTypes := #[t,u] })
  (w0 : World) (base : Nat) (e : TypeId) (ht : P.underlying t = some (.slice e)) (hu : P.underlying u = some .string) (hi : (P.info? e).map (fun i=>(i.zero,i.size,i.bytes)) = some (some (.int .u8 0),1,1))
  (A : Option Addr) (cap : Nat) (xs : List UInt8) (hs : a.eval sl = .slice A xs.length cap) (hown : w.ownsRow base e 1 (.slice A xs.length cap) xs.length (xs.map cB)) (hbel : Below base w0 w)
  (l : List UInt8) (hx : a.eval x = .string ⟨l.toArray⟩) (hroom : xs.length + l.length ≤ 34359738368) (hbase : base ≤ w.heap.size)
  (h : ∀ A' cap' w',w'.ownsRow base e 1 (.slice A' (xs ++ l).length cap') (xs ++ l).length ((xs ++ l).map cB) → Below base w0 w' → wpList P ops Q rest (a.put o.dst (.slice A' (xs ++ l).length cap')) w') : wpList P ops Q (o :: rest) a w := by
 obtain ⟨i0,hi0,hz0,hz1,hz2⟩ := info_parts hi
 refine Lib.wpList_append_own_string w hgd sl x t u ho base e i0 ht hu hi0 hz0 hz1 hz2 _ _ _ hs hown ⟨l.toArray⟩ hx (by rw [zku];simp only [maxLen];omega) (by rw [zku];omega) hbase ?_
 intro v' w' hown' hgrow _
 rw [zku,zjk,← List.map_append,← List.length_append] at hown'
 have hv : ∃ A' cap',v' = .slice A' (xs ++ l).length cap' := by
  rcases hown'.2 with ⟨rfl,h0⟩|⟨g,cap,cur,rfl,_⟩
  ·exact ⟨none,0,by rw [h0]⟩
  ·exact ⟨_,_,rfl⟩
 obtain ⟨A',cap',rfl⟩ := hv
 exact h A' cap' w' hown' (hbel.grown hgrow hbase fun k hk=>(hown.lt k hk).1)
end
def Blk (w : World) (g : Nat) (t : TypeId) (cs : Array Value) : Prop := w.heap[g]? = some (.cells cs t (0,0))
section
variable {w w' : World} {g : Nat} {t : TypeId} {cs : Array Value}
theorem Blk.lt (h : Blk w g t cs) : g < w.heap.size := (Array.getElem?_eq_some_iff.1 h).1
theorem Blk.cell (h : Blk w g t cs) (i : Nat) : w.cell? ⟨g,i,none⟩ = cs[i]? := cell_of_row w g i cs t (0,0) h
theorem Blk.free (h : Blk w g t cs) (i : Nat) : w.frozen? ⟨g,i,none⟩ = false := by
 unfold Blk at h;simp [World.frozen?,h]
theorem Blk.new (w : World) (t : TypeId) (cs : Array Value) : Blk (w.alloc (.cells cs t)) w.heap.size t cs := heap_alloc_new w _
theorem Blk.drewN (h : Blk w g t cs) (n : Nat) : Blk (w.drewN n) g t cs := h
theorem Blk.alloc (h : Blk w g t cs) (o : Obj) : Blk (w.alloc o) g t cs := (Below.heap_alloc w o g h.lt).trans h
theorem Blk.below {B : Nat} (h : Blk w g t cs) (hb : Below B w w') (hg : g < B) : Blk w' g t cs := (hb.block g hg).trans h
theorem Blk.gr (h : Blk w g t cs) (hb : Below w.heap.size w w') : Blk w' g t cs := h.below hb h.lt
theorem Blk.grown {row : Option Nat} (h : Blk w g t cs) (hb : w.grownBy w' row) (hg : some g ≠ row) : Blk w' g t cs := (hb.block g h.lt hg).trans h
theorem Bs.grown {A : Option Addr} {l : List UInt8} (h : Bs w A l) (hg : w.grownBy w' (some g)) (hne : ∀ b off,A = some ⟨b,off,none⟩ → 0 < l.length → b ≠ g) : Bs w' A l :=
 ⟨h.1,fun hn=>by
  obtain ⟨b,off,e,hb,hc⟩ := h.2 hn
  refine ⟨b,off,e,Nat.lt_of_lt_of_le hb hg.size,fun j u hu=>?_⟩
  rw [World.cell?_of_block (w := w) (a := ⟨b,off + j,none⟩) (hg.block b hb (fun x=>hne b off e hn (by injection x)))]
  exact hc j u hu⟩
end
end Go.Proofs.YtaplemeamcgpkaaDoor

namespace Go.Proofs.YtaplemeamcgpkaaDoor
open Go.RowKit
def put (v : Nat) : List UInt8 := if v < 128 then [UInt8.ofNat v] else UInt8.ofNat (v % 128 + 128) :: put (v / 128)
termination_by v
decreasing_by omega
theorem zkr (v : Nat) (h : v < 128) : put v = [UInt8.ofNat v] := by rw [put,if_pos h]
theorem zrB (v : Nat) (h : 128 ≤ v) : put v = UInt8.ofNat (v % 128 + 128) :: put (v / 128) := by rw [put,if_neg (by omega)]
theorem zwc (v : Nat) : 0 < (put v).length := by rw [put];split <;> simp
theorem zlx (k : Nat) : ∀ v,v < 128 ^ (k + 1) → (put v).length ≤ k + 1 := by
 induction k with
 |zero=>intro v h;rw [zkr v (by simpa using h)];simp
 |succ k ih =>
  intro v h
  by_cases hv : v < 128
  ·rw [zkr v hv];simp
  ·rw [zrB v (by omega)]
   have := ih (v / 128) (by rw [Nat.pow_succ] at h;omega)
   simp only [List.length_cons];omega
theorem z7x (v : Nat) (h : v < 18446744073709551616) : (put v).length ≤ 10 := by
 refine zlx 9 v ?_
 have e : (128 : Nat) ^ (9 + 1) = 1180591620717411303424 := by decide
 omega
def zFH (i : Nat) : List UInt8 → Nat × Nat × Nat
 |[]=>(0,0,2)
 |c :: r =>
  if i = 9 ∧ 1 < c.toNat then (0,0,8)
  else if 128 ≤ c.toNat then (if (zFH (i + 1) r).2.2 = 0 then ((zFH (i + 1) r).1 * 128 + c.toNat % 128,(zFH (i + 1) r).2.1 + 1,0) else (0,0,(zFH (i + 1) r).2.2))
  else if c.toNat = 0 ∧ 0 < i then (0,0,3)
  else (c.toNat,1,0)
def zEK (V i : Nat) (x : Nat × Nat × Nat) : Nat × Nat × Nat := if x.2.2 = 0 then (V + x.1 * 128 ^ i,i + x.2.1,0) else (0,0,x.2.2)
def cut (l : List UInt8) : Nat × Nat × Nat := zFH 0 l
theorem zo7 (l : List UInt8) : zEK 0 0 (zFH 0 l) = cut l := by
 unfold cut zEK
 split
 ·rename_i h;exact Prod.ext (by simp) (Prod.ext (by simp) h.symm)
 ·rename_i h
  have hz : ∀ (l : List UInt8) (i : Nat),(zFH i l).2.2 ≠ 0 → zFH i l = (0,0,(zFH i l).2.2) := by
   intro l i
   cases l with
   |nil=>intro _;simp [zFH]
   |cons c r =>
    rw [zFH]
    split
    ·intro _;rfl
    ·split
     ·split
      ·intro h;exact absurd rfl h
      ·intro _;rfl
     ·split
      ·intro _;rfl
      ·intro h;exact absurd rfl h
  exact (hz l 0 h).symm
theorem zmE (i : Nat) (c : UInt8) (r : List UInt8) (hi : i = 9) (hc : 1 < c.toNat) : zFH i (c :: r) = (0,0,8) := by rw [zFH,if_pos ⟨hi,hc⟩]
theorem zi2 (i : Nat) (c : UInt8) (r : List UInt8) (hi : 0 < i) (hc : c.toNat = 0) : zFH i (c :: r) = (0,0,3) := by
 rw [zFH,if_neg (by omega),if_neg (by omega),if_pos ⟨hc,hi⟩]
theorem zaX (i : Nat) (c : UInt8) (r : List UInt8) (h : ¬ (i = 9 ∧ 1 < c.toNat)) (hc : c.toNat < 128) (h0 : ¬ (c.toNat = 0 ∧ 0 < i)) : zFH i (c :: r) = (c.toNat,1,0) := by
 rw [zFH,if_neg h,if_neg (by omega),if_neg h0]
theorem zmT (V i : Nat) (c : UInt8) (r : List UInt8) (hi : i < 9) (hc : 128 ≤ c.toNat) : zEK V i (zFH i (c :: r)) = zEK (V + c.toNat % 128 * 128 ^ i) (i + 1) (zFH (i + 1) r) := by
 rw [zFH,if_neg (by omega),if_pos hc]
 generalize zFH (i + 1) r = x
 unfold zEK
 by_cases h : x.2.2 = 0
 ·simp only [h,if_true,Nat.pow_succ,Nat.add_mul,Nat.mul_assoc,Nat.mul_comm 128 (128 ^ i)]
  refine Prod.ext ?_ (Prod.ext ?_ rfl)
  ·simp only;omega
  ·simp only;omega
 ·simp [h]
theorem zAa (k : Nat) : (2 : Int) ^ (7 * k) = ((128 ^ k : Nat) : Int) := by
 rw [Int.pow_mul,show (2 : Int) ^ 7 = 128 from rfl];simp
theorem zlw (k : Nat) : 0 < 128 ^ k := Nat.pow_pos (by decide)
theorem zhz {k : Nat} (h : k ≤ 8) : 128 ^ k ≤ 72057594037927936 := by
 have := Nat.pow_le_pow_right (show 0 < 128 by decide) h
 have e : (128 : Nat) ^ 8 = 72057594037927936 := by decide
 omega
theorem zkE {k : Nat} (h : k ≤ 9) : 128 ^ k ≤ 9223372036854775808 := by
 have := Nat.pow_le_pow_right (show 0 < 128 by decide) h
 have e : (128 : Nat) ^ 9 = 9223372036854775808 := by decide
 omega
theorem zuA (V x k : Nat) (hk : k ≤ 9) (hV : V < 128 ^ k) (h64 : x * 128 ^ k < 18446744073709551616) : bits .or .u64 (V : Int) ((x * 128 ^ k : Nat) : Int) = ((V + x * 128 ^ k : Nat) : Int) := by
 have hk9 := zkE hk
 rw [u64_or_nat V (x * 128 ^ k) (by omega) h64,Nat.or_comm,nat_join (7 * k) (x * 128 ^ k) V,Nat.add_comm]
 ·rw [Nat.pow_mul,show 2 ^ 7 = 128 from rfl];exact Nat.mul_mod_left _ _
 ·rw [Nat.pow_mul];exact hV
theorem zq4 (V x k : Nat) (hk : k ≤ 8) (hV : V < 128 ^ k) (hx : x < 256) : bits .or .u64 (V : Int) (IntKind.u64.wrap ((x : Int) * 2 ^ (7 * k))) = ((V + x * 128 ^ k : Nat) : Int) := by
 have h8 := zhz hk
 have h64 : x * 128 ^ k < 18446744073709551616 := by
  have := Nat.mul_le_mul (show x ≤ 255 by omega) h8
  omega
 rw [zAa,← Int.natCast_mul,IntWalk.u64_in _ (by omega)]
 exact zuA V x k (by omega) hV h64
theorem zs9 (V d k : Nat) (hk : k ≤ 8) (hV : V < 128 ^ k) (hd : d < 256) : bits .or .u64 (V : Int) (IntKind.u64.wrap (IntKind.u64.wrap (bits .and .u8 (d : Int) 127) * 2 ^ (7 * k))) = ((V + d % 128 * 128 ^ k : Nat) : Int) := by
 have e := u8_and_nat d 127 hd (by omega)
 rw [nat_mask7,show ((127 : Nat) : Int) = 127 from rfl] at e
 rw [e,IntWalk.u64_in ((d % 128 : Nat) : Int) (by omega)]
 exact zq4 V (d % 128) k hk hV (by omega)
theorem zuC (V d : Nat) (hV : V < 128 ^ 9) (hd : d ≤ 1) : bits .or .u64 (V : Int) ((d : Int) * 9223372036854775808) = ((V + d * 128 ^ 9 : Nat) : Int) := by
 have e : (128 : Nat) ^ 9 = 9223372036854775808 := by decide
 have := zuA V d 9 (by omega) hV (by omega)
 rw [← this,Int.natCast_mul,e];rfl
theorem zqW (V d k : Nat) (hV : V < 128 ^ k) : V + d % 128 * 128 ^ k < 128 ^ (k + 1) := by
 have h1 := Nat.mul_le_mul_right (128 ^ k) (show d % 128 ≤ 127 by omega)
 rw [Nat.pow_succ]
 omega
def zig (v : Int) : Nat := if 0 ≤ v then (2 * v).toNat else (-2 * v - 1).toNat
def zag (u : Nat) : Int := if u % 2 = 0 then (u / 2 : Nat) else -((u / 2 : Nat) : Int) - 1
theorem zwG (v : Int) : zag (zig v) = v := by unfold zig zag;split <;> split <;> omega
theorem zof (v : Int) (h0 : -9223372036854775808 ≤ v) (h1 : v < 9223372036854775808) : zig v < 18446744073709551616 := by unfold zig;split <;> omega
theorem zvV (v : Int) (h0 : -9223372036854775808 ≤ v) (h1 : v < 9223372036854775808) :
  bits .xor .u64 (IntKind.u64.wrap (IntKind.u64.wrap v * 2)) (IntKind.u64.wrap (v / 9223372036854775808)) = ((zig v : Nat) : Int) := by
 by_cases hv : 0 ≤ v
 ·rw [show v / 9223372036854775808 = 0 from by omega,IntWalk.u64_in v (by omega),IntWalk.u64_in (v * 2) (by omega),IntWalk.u64_in 0 (by omega)]
  have h := u64_xor_nat (v * 2).toNat 0 (by omega) (by omega)
  rw [Nat.xor_zero,show (((v * 2).toNat : Nat) : Int) = v * 2 from by omega,show ((0 : Nat) : Int) = 0 from rfl] at h
  rw [h];unfold zig;rw [if_pos hv];omega
 ·have e1 : IntKind.u64.wrap v = v + 18446744073709551616 := by rw [IntKind.wrap_u64];omega
  have e2 : IntKind.u64.wrap ((v + 18446744073709551616) * 2) = (((2 * v + 18446744073709551616).toNat : Nat) : Int) := by rw [IntKind.wrap_u64];omega
  have e3 : IntKind.u64.wrap (v / 9223372036854775808) = ((18446744073709551615 : Nat) : Int) := by rw [show v / 9223372036854775808 = -1 from by omega,IntKind.wrap_u64];rfl
  rw [e1,e2,e3,u64_xor_nat _ _ (by omega) (by omega),Nat.xor_comm]
  have h := Lib.xor_ones64 (2 * v + 18446744073709551616).toNat (by omega)
  rw [show (2 : Nat) ^ 64 - 1 = 18446744073709551615 from by decide] at h
  rw [h];unfold zig;rw [if_neg hv];omega
theorem zju (a b : Nat) (ha : a < 9223372036854775808) (hb : b < 9223372036854775808) : bits .xor .i64 (a : Int) (b : Int) = ((a ^^^ b : Nat) : Int) := by
 have hx : a ^^^ b < 2 ^ 63 := Nat.xor_lt_two_pow (by omega) (by omega)
 have ea : (BitVec.ofInt 64 (a : Int)).toNat = a := by rw [BitVec.ofInt_natCast,BitVec.toNat_ofNat];exact Nat.mod_eq_of_lt (by omega)
 have eb : (BitVec.ofInt 64 (b : Int)).toNat = b := by rw [BitVec.ofInt_natCast,BitVec.toNat_ofNat];exact Nat.mod_eq_of_lt (by omega)
 show IntKind.i64.wrap ((BitVec.ofInt 64 (a : Int) ^^^ BitVec.ofInt 64 (b : Int)).toNat : Int) = _
 rw [BitVec.toNat_xor,ea,eb,IntKind.wrap_i64]
 omega
theorem zgz (a b : Int) : bits .xor .i64 a b = bits .xor .i64 b a := by
 show IntKind.i64.wrap ((BitVec.ofInt 64 a ^^^ BitVec.ofInt 64 b).toNat : Int) = IntKind.i64.wrap ((BitVec.ofInt 64 b ^^^ BitVec.ofInt 64 a).toNat : Int)
 rw [BitVec.xor_comm]
theorem zwf (u : Nat) (hu : u < 18446744073709551616) : bits .xor .i64 ((u : Int) / 2) (wrap64 (-wrap64 (bits .and .u64 (u : Int) 1))) = zag u := by
 rw [and_one_u64 (u : Int) (by omega) (by omega),IntWalk.wrap64_in ((u : Int) % 2) (by omega),IntWalk.wrap64_in (-((u : Int) % 2)) (by omega)]
 rw [show (u : Int) / 2 = ((u / 2 : Nat) : Int) from by omega]
 by_cases h : u % 2 = 0
 ·rw [show -((u : Int) % 2) = ((0 : Nat) : Int) from by omega,zju _ _ (by omega) (by omega),Nat.xor_zero]
  unfold zag;rw [if_pos h]
 ·rw [show -((u : Int) % 2) = -1 from by omega,zgz,Lib.i64_not _ (by omega)]
  unfold zag;rw [if_neg h]
theorem zq8 : ∀ (l : List UInt8) (i : Nat),i ≤ 9 → (zFH i l).1 * 128 ^ i < 18446744073709551616
 |[],i,_=>by simp [zFH]
 |c :: r,i,hi=>by
  have hc := c.toNat_lt
  rw [zFH]
  split
  ·simp
  ·split
   ·split
    ·have ih := zq8 r (i + 1) (by omega)
     have hd : (128 : Nat) ^ (i + 1) ∣ 128 ^ 9 := Nat.pow_dvd_pow 128 (by omega)
     obtain ⟨q,hq⟩ := hd
     have e : (128 : Nat) ^ 9 = 9223372036854775808 := by decide
     rw [e] at hq
     generalize (zFH (i + 1) r).1 = v at ih ⊢
     rw [Nat.pow_succ] at ih hq
     generalize 128 ^ i = p at ih hq ⊢
     have h1 : v < 2 * q := by
      refine Nat.lt_of_mul_lt_mul_right (a := p * 128) ?_
      rw [Nat.mul_assoc,Nat.mul_comm q];omega
     have h2 : (v + 1) * (p * 128) ≤ 2 * q * (p * 128) := Nat.mul_le_mul_right _ h1
     have h3 : 2 * q * (p * 128) = 18446744073709551616 := by rw [Nat.mul_assoc,Nat.mul_comm q];omega
     rcases Nat.eq_zero_or_pos p with hp|hp
     ·subst hp;simp
     ·have h4 : (v * 128 + c.toNat % 128) * p < (v * 128 + 128) * p := Nat.mul_lt_mul_of_pos_right (by omega) hp
      have h5 : (v * 128 + 128) * p = (v + 1) * (p * 128) := by rw [show v * 128 + 128 = (v + 1) * 128 from by omega,Nat.mul_assoc,Nat.mul_comm 128 p]
      simp only;omega
    ·simp
   ·split
    ·simp
    ·simp only
     by_cases h9 : i = 9
     ·subst h9
      have e : (128 : Nat) ^ 9 = 9223372036854775808 := by decide
      rw [e];omega
     ·have h8 := zhz (show i ≤ 8 by omega)
      have := Nat.mul_le_mul (show c.toNat ≤ 127 by omega) h8
      omega
theorem zqA (l : List UInt8) : (cut l).1 < 18446744073709551616 := by have := zq8 l 0 (by omega);unfold cut;omega
theorem zwX : ∀ (l : List UInt8) (i : Nat),i ≤ 9 → (zFH i l).2.1 ≤ 10 - i ∧ (zFH i l).2.1 ≤ l.length ∧ (zFH i l).2.2 ≤ 8 ∧ ((zFH i l).2.2 = 0 → 0 < (zFH i l).2.1)
 |[],i,_=>by simp [zFH]
 |c :: r,i,hi=>by
  have hc := c.toNat_lt
  rw [zFH]
  split
  ·simp
  ·split
   ·have ih := zwX r (i + 1) (by omega)
    split
    ·simp only [List.length_cons];omega
    ·simp only [List.length_cons];omega
   ·split
    ·simp
    ·simp only [List.length_cons];omega
theorem zrH (l : List UInt8) : (cut l).2.1 ≤ 10 ∧ (cut l).2.1 ≤ l.length ∧ (cut l).2.2 ≤ 8 := by have := zwX l 0 (by omega);unfold cut;omega
end Go.Proofs.YtaplemeamcgpkaaDoor

namespace Go.Proofs.YtaplemeamcgpkaaDoor
theorem zlQ (n : Nat) (h : n < 256) : (UInt8.ofNat n).toNat = n := by simp;omega
theorem zsZ (tail : List UInt8) (v : Nat) : ∀ i,i ≤ 9 → (i = 0 ∨ 0 < v) → v * 128 ^ i < 18446744073709551616 → zFH i (put v ++ tail) = (v,(put v).length,0) := by
 induction v using Nat.strongRecOn with
 |_ v ih =>
  intro i hi hv h64
  by_cases hlt : v < 128
  ·rw [zkr v hlt]
   have e := zlQ v (by omega)
   have := zaX i (UInt8.ofNat v) tail (by
    rw [e];rintro ⟨rfl,h1⟩
    have e9 : (128 : Nat) ^ 9 = 9223372036854775808 := by decide
    rw [e9] at h64;omega) (by omega) (by omega)
   simpa [e] using this
  ·have hp := zlw i
   have hi8 : i ≤ 8 := by
    by_cases h9 : i = 9
    ·subst h9
     have e9 : (128 : Nat) ^ 9 = 9223372036854775808 := by decide
     rw [e9] at h64;omega
    ·omega
   rw [zrB v (by omega)]
   have e := zlQ (v % 128 + 128) (by omega)
   have h128 : v / 128 * 128 ^ (i + 1) ≤ v * 128 ^ i := by
    rw [Nat.pow_succ,Nat.mul_comm (128 ^ i),← Nat.mul_assoc]
    exact Nat.mul_le_mul_right _ (Nat.div_mul_le_self v 128)
   have hr := ih (v / 128) (by omega) (i + 1) (by omega) (.inr (by omega)) (by omega)
   rw [List.cons_append,zFH,e,if_neg (by omega),if_pos (by omega),hr,if_pos rfl]
   refine Prod.ext ?_ (Prod.ext ?_ rfl)
   ·simp only;omega
   ·simp
theorem zkH (v : Nat) (h : v < 18446744073709551616) (tail : List UInt8) : cut (put v ++ tail) = (v,(put v).length,0) := zsZ tail v 0 (by omega) (.inl rfl) (by omega)
end Go.Proofs.YtaplemeamcgpkaaDoor

namespace Go.Proofs.YtaplemeamcgpkaaDoor
open Go.RowKit
abbrev z0f := List UInt8
def less (a b : z0f) : Bool := Op.bytesLess a b
theorem zh1 (a : z0f) : less a [] = false := by cases a <;> simp [less,Op.bytesLess]
theorem zgQ (a : z0f) : less [] a = !a.isEmpty := by cases a <;> simp [less,Op.bytesLess]
theorem zdv (x y : UInt8) (a b : z0f) : less (x :: a) (y :: b) = (decide (x < y) || (x == y && less a b)) := by simp [less,Op.bytesLess]
theorem z1f : ∀ a : z0f,less a a = false
 |[]=>zh1 []
 |x :: a=>by rw [zdv,z1f a];simp
theorem z5k : ∀ a b c : z0f,less a b = true → less b c = true → less a c = true
 |_,[],_,h,_=>by rw [zh1] at h;cases h
 |_,_ :: _,[],_,h=>by rw [zh1] at h;cases h
 |[],_ :: _,_ :: _,_,_=>by simp [zgQ]
 |x :: a,y :: b,z :: c,h1,h2=>by
  rw [zdv] at h1 h2 ⊢
  simp only [Bool.or_eq_true,Bool.and_eq_true,decide_eq_true_eq,beq_iff_eq] at h1 h2 ⊢
  rcases h1 with h1|⟨rfl,h1⟩
  ·rcases h2 with h2|⟨rfl,h2⟩
   ·left;exact UInt8.lt_trans h1 h2
   ·left;exact h1
  ·rcases h2 with h2|⟨rfl,h2⟩
   ·left;exact h2
   ·right;exact ⟨rfl,z5k a b c h1 h2⟩
theorem zfN (a b : z0f) (h : less a b = true) : less b a = false := by
 cases h2 : less b a with
 |false=>rfl
 |true=>have := z5k a b a h h2;rw [z1f] at this;cases this
theorem zbR : ∀ a b : z0f,less a b = false → less b a = false → a = b
 |[],[],_,_=>rfl
 |[],_ :: _,h,_=>by simp [zgQ] at h
 |_ :: _,[],_,h=>by simp [zgQ] at h
 |x :: a,y :: b,h1,h2=>by
  rw [zdv] at h1 h2
  simp only [Bool.or_eq_false_iff,decide_eq_false_iff_not,Bool.and_eq_false_iff,beq_eq_false_iff_ne] at h1 h2
  have hxy : x = y := UInt8.le_antisymm (UInt8.not_lt.1 h2.1) (UInt8.not_lt.1 h1.1)
  subst hxy
  rcases h1.2 with h|h
  ·exact absurd rfl h
  rcases h2.2 with h'|h'
  ·exact absurd rfl h'
  rw [zbR a b h h']
theorem z8B (a b : z0f) : (less a b || a == b) = !less b a := by
 cases h : less a b with
 |true=>rw [zfN a b h];rfl
 |false =>
  cases h2 : less b a with
  |true =>
   have hne : a ≠ b := by rintro rfl;rw [z1f] at h2;cases h2
   simpa using hne
  |false=>simp [zbR a b h h2]
def zjJ (c : UInt8) : Bool := (97 ≤ c.toNat && c.toNat ≤ 122) || (48 ≤ c.toNat && c.toNat ≤ 57) || c.toNat == 45 || c.toNat == 46 || c.toNat == 47 || c.toNat == 95
def zEF (k : z0f) : Bool := decide (k.length ≤ 24) && k.all zjJ
def zDF (k : z0f) : Bool := !k.isEmpty && zEF k
def zEn (kind i : Int) (s : z0f) : Bool :=
 (kind == 0 && i == 0 && s.isEmpty) || (kind == 1 && (i == 0 || i == 1) && s.isEmpty) || (kind == 2 && s.isEmpty) || (kind == 3 && i == 0 && decide (s.length ≤ 64))
structure Item where
 key : z0f
 kind : Int
 i : Int
 s : z0f
 ver : Int
 deriving DecidableEq
def Item.zero : Item := ⟨[],0,0,[],0⟩
def zDB (s : z0f) : Value := .string ⟨s.toArray⟩
def cI (n : Int) : Value := .int .i64 n
def Item.cells (x : Item) : List Value := [zDB x.key,cI x.kind,cI x.i,zDB x.s,cI x.ver]
def z3i (x : Item) : Prop := -9223372036854775808 ≤ x.i ∧ x.i < 9223372036854775808
def zn1 (x : Item) : Prop := x.key.length ≤ maxLen ∧ x.s.length ≤ maxLen ∧ z3i x
def z2S (x : Item) : Bool := zDF x.key && zEn x.kind x.i x.s && x.kind != 0 && decide (0 ≤ x.ver) && decide (x.ver ≤ 2147483647)
def z3m : Option z0f → Nat → List Item → Nat × Nat
 |_,_,[]=>(0,0)
 |p,k,x :: r=>if !z2S x then (1,k) else if (p.map fun q=>!less q x.key).getD false then (3,k) else z3m (some x.key) (k + 1) r
def chk (l : List Item) : Nat × Nat := if 64 < l.length then (5,64) else z3m none 0 l
def z3u (l : List Item) : Bool := (chk l).1 == 0
def zFS (kind i : Int) (s : z0f) : z0f :=
 if kind = 1 then [1,UInt8.ofNat i.toNat] else if kind = 2 then 2 :: put (zig i) else if kind = 3 then 3 :: (put s.length ++ s) else [0]
def zEd (x : Item) : z0f := (put x.key.length ++ x.key) ++ zFS x.kind x.i x.s ++ put x.ver.toNat
def zb7 (l : List Item) : Nat := (l.map fun x=>x.key.length + (zFS x.kind x.i x.s).length).sum
def zCO (l : List Item) (k : z0f) : Nat := (l.filter fun x=>less x.key k).length
def atK (l : List Item) (k : z0f) : Option Nat := l.findIdx? fun x=>x.key == k
def z2u (l : List Item) (k : z0f) : List Item := l.filter fun x=>x.key != k
def zfR (l : List Item) (x : Item) : List Item := (l.filter fun y=>less y.key x.key) ++ [x] ++ l.filter fun y=>less x.key y.key
def z2G (l : List Item) : Prop := l.Pairwise fun a b=>less a.key b.key = true
theorem zeC : ∀ (l : List Item) (p : Option z0f) (k : Nat),(z3m p k l).1 = 0 → (∀ x ∈ l,z2S x = true) ∧ z2G l ∧ (∀ q x,p = some q → x ∈ l → less q x.key = true)
 |[],_,_,_=>⟨by simp, .nil,by simp⟩
 |x :: r,p,k,h=>by
  rw [z3m] at h
  split at h
  ·cases h
  rename_i h1
  split at h
  ·cases h
  rename_i h2
  obtain ⟨i1,i2,i3⟩ := zeC r _ _ h
  have hx : z2S x = true := by simpa using h1
  refine ⟨fun y hy=>?_, .cons (fun y hy=>i3 _ _ rfl hy) i2,fun q y hq hy=>?_⟩
  ·rcases List.mem_cons.1 hy with rfl|hy
   ·exact hx
   ·exact i1 y hy
  ·subst hq
   have hq : less q x.key = true := by simpa using h2
   rcases List.mem_cons.1 hy with rfl|hy
   ·exact hq
   ·exact z5k _ _ _ hq (i3 _ _ rfl hy)
theorem zb3 : ∀ (l : List Item) (p : Option z0f) (k : Nat),(∀ x ∈ l,z2S x = true) → z2G l → (∀ q x,p = some q → x ∈ l → less q x.key = true) → z3m p k l = (0,0)
 |[],_,_,_,_,_=>rfl
 |x :: r,p,k,h1,h2,h3=>by
  rw [z3m,if_neg (by simpa using h1 x (by simp))]
  rw [if_neg]
  ·cases h2 with
   |cons a b=>exact zb3 r _ _ (fun y hy=>h1 y (List.mem_cons_of_mem _ hy)) b (fun q y hq hy=>by injection hq with hq;subst hq;exact a y hy)
  ·cases p with
   |none=>simp
   |some q=>simpa using h3 q x rfl (by simp)
theorem z0D (l : List Item) : z3u l = true ↔ l.length ≤ 64 ∧ (∀ x ∈ l,z2S x = true) ∧ z2G l := by
 unfold z3u chk
 constructor
 ·intro h
  split at h
  ·simp at h
  ·rename_i h1
   obtain ⟨a,b,_⟩ := zeC l none 0 (by simpa using h)
   exact ⟨by omega,a,b⟩
 ·rintro ⟨h0,h1,h2⟩
  rw [if_neg (by omega),zb3 l none 0 h1 h2 (by simp)]
  rfl
theorem zjC (l : List Item) (h : z3u l = true) : chk l = (0,0) := by
 obtain ⟨h0,h1,h2⟩ := (z0D l).1 h
 unfold chk
 rw [if_neg (by omega),zb3 l none 0 h1 h2 (by simp)]
theorem z7N (l : List Item) (k : Nat) (h : k < l.length) (p : Option z0f) : z3m p k (l.drop k) = if !z2S l[k] then (1,k) else if (p.map fun q=>!less q l[k].key).getD false then (3,k) else z3m (some l[k].key) (k + 1) (l.drop (k + 1)) := by
 rw [List.drop_eq_getElem_cons h,z3m]
theorem zmi (l : List Item) (k : z0f) : zCO l k ≤ l.length := List.length_filter_le _ _
theorem z5E (k : z0f) : ∀ (l : List Item),z2G l → (∀ x ∈ l.take (zCO l k),less x.key k = true) ∧ (∀ x ∈ l.drop (zCO l k),less x.key k = false)
 |[],_=>by simp [zCO]
 |x :: r,h=>by
  cases h with
  |cons a b =>
   obtain ⟨i1,i2⟩ := z5E k r b
   cases hx : less x.key k with
   |true =>
    have hp : zCO (x :: r) k = zCO r k + 1 := by simp [zCO,hx]
    rw [hp]
    refine ⟨fun y hy=>?_,fun y hy=>i2 y (by simpa using hy)⟩
    simp only [List.take_succ_cons,List.mem_cons] at hy
    rcases hy with rfl|hy
    ·exact hx
    ·exact i1 y hy
   |false =>
    have hr : ∀ y ∈ r,less y.key k = false := by
     intro y hy
     cases hyk : less y.key k with
     |false=>rfl
     |true=>have := z5k _ _ _ (a y hy) hyk;rw [hx] at this;cases this
    have hp : zCO (x :: r) k = 0 := by
     simp only [zCO,List.filter_cons,hx,Bool.false_eq_true,if_false,List.length_eq_zero_iff,List.filter_eq_nil_iff]
     intro y hy;rw [hr y hy];simp
    rw [hp]
    refine ⟨by simp,fun y hy=>?_⟩
    simp only [List.drop_zero,List.mem_cons] at hy
    rcases hy with rfl|hy
    ·exact hx
    ·exact hr y hy
theorem z8A {l : List Item} (h : z2G l) {i j : Nat} (hij : i < j) (hj : j < l.length) : less l[i].key l[j].key = true := List.pairwise_iff_getElem.1 h i j (by omega) hj hij
theorem zbL {l : List Item} (h : z2G l) (k : z0f) {i : Nat} (hi : i < l.length) : less l[i].key k = decide (i < zCO l k) := by
 obtain ⟨h1,h2⟩ := z5E k l h
 by_cases hp : i < zCO l k
 ·rw [decide_eq_true hp]
  exact h1 _ (List.mem_take_iff_getElem.2 ⟨i,by omega,rfl⟩)
 ·rw [decide_eq_false hp]
  exact h2 _ (List.mem_drop_iff_getElem.2 ⟨i - zCO l k,by omega,by congr 1;omega⟩)
def z1M (l : List Item) (k : z0f) : Bool := ((l[zCO l k]?).map fun x=>x.key == k).getD false
theorem zlT {l : List Item} (h : z2G l) (k : z0f) : atK l k = if z1M l k then some (zCO l k) else none := by
 unfold z1M
 by_cases hp : zCO l k < l.length
 ·rw [List.getElem?_eq_getElem hp]
  simp only [Option.map_some,Option.getD_some]
  by_cases hk : l[zCO l k].key = k
  ·rw [if_pos (by simpa using hk)]
   unfold atK
   rw [List.findIdx?_eq_some_iff_getElem]
   refine ⟨hp,by simpa using hk,fun j hj=>?_⟩
   have := zbL h k (i := j) (by omega)
   rw [decide_eq_true hj] at this
   intro e
   have e' : l[j].key = k := by simpa using e
   rw [e',z1f] at this;cases this
  ·rw [if_neg (by simpa using hk)]
   unfold atK
   rw [List.findIdx?_eq_none_iff]
   intro x hx
   obtain ⟨i,hi,rfl⟩ := List.getElem_of_mem hx
   by_cases e : l[i].key = k
   ·exfalso
    have a := zbL h k hi
    rw [e,z1f] at a
    have hge : zCO l k ≤ i := by simpa using a.symm
    rcases Nat.lt_or_eq_of_le hge with hlt|heq
    ·have b := z8A h hlt hi
     have c := zbL h k hp
     simp only [Nat.lt_irrefl,decide_false] at c
     rw [e] at b
     rw [b] at c;cases c
    ·subst heq;exact hk e
   ·simpa using e
 ·rw [List.getElem?_eq_none (by omega)]
  simp only [Option.map_none,Option.getD_none,Bool.false_eq_true,if_false]
  unfold atK
  rw [List.findIdx?_eq_none_iff]
  intro x hx
  obtain ⟨i,hi,rfl⟩ := List.getElem_of_mem hx
  have a := zbL h k hi
  rw [decide_eq_true (by omega)] at a
  by_cases e : l[i].key = k
  ·rw [e,z1f] at a;cases a
  ·simpa using e
theorem z5r {l : List Item} (h : z2G l) (k : z0f) : (l.filter fun x=>less x.key k) = l.take (zCO l k) := by
 obtain ⟨h1,h2⟩ := z5E k l h
 conv=>lhs;rw [← List.take_append_drop (zCO l k) l]
 rw [List.filter_append,List.filter_eq_self.2 h1,List.filter_eq_nil_iff.2 (fun x hx=>by rw [h2 x hx];simp),List.append_nil]
theorem z5D {l : List Item} (h : z2G l) (k : z0f) : (l.filter fun x=>less k x.key) = l.drop (if z1M l k then zCO l k + 1 else zCO l k) := by
 have key : ∀ i (hi : i < l.length),less k l[i].key = decide ((if z1M l k then zCO l k + 1 else zCO l k) ≤ i) := by
  intro i hi
  have a := zbL h k hi
  by_cases hlt : i < zCO l k
  ·rw [decide_eq_true hlt] at a
   rw [zfN _ _ a,decide_eq_false (by split <;> omega)]
  ·rw [decide_eq_false hlt] at a
   by_cases he : i = zCO l k
   ·subst he
    cases ht : z1M l k with
    |true =>
     have : l[zCO l k].key = k := by unfold z1M at ht;rw [List.getElem?_eq_getElem hi] at ht;simpa using ht
     rw [this,z1f];simp
    |false =>
     have : l[zCO l k].key ≠ k := by unfold z1M at ht;rw [List.getElem?_eq_getElem hi] at ht;simpa using ht
     cases hb : less k l[zCO l k].key with
     |true=>simp
     |false=>exact absurd (zbR _ _ a hb) this
   ·have b := z8A h (i := zCO l k) (j := i) (by omega) hi
    have c := zbL h k (i := zCO l k) (by omega)
    simp only [Nat.lt_irrefl,decide_false] at c
    rw [decide_eq_true (by split <;> omega)]
    cases hb : less k l[zCO l k].key with
    |true=>exact z5k _ _ _ hb b
    |false=>rw [← zbR _ _ c hb];exact b
 generalize (if z1M l k then zCO l k + 1 else zCO l k) = q at key
 conv=>lhs;rw [← List.take_append_drop q l]
 rw [List.filter_append,List.filter_eq_nil_iff.2,List.filter_eq_self.2,List.nil_append]
 ·intro x hx
  obtain ⟨j,hj,rfl⟩ := List.mem_drop_iff_getElem.1 hx
  rw [key (q + j) (by omega),decide_eq_true (by omega)]
 ·intro x hx
  obtain ⟨j,hj,rfl⟩ := List.mem_take_iff_getElem.1 hx
  rw [key _ (by omega),decide_eq_false (by omega)];simp
theorem z7U {l : List Item} (h : z2G l) (x : Item) : zfR l x = l.take (zCO l x.key) ++ [x] ++ l.drop (if z1M l x.key then zCO l x.key + 1 else zCO l x.key) := by
 unfold zfR;rw [z5r h,z5D h]
theorem z7B {l : List Item} (h : z2G l) (k : z0f) (ht : z1M l k = true) : z2u l k = l.take (zCO l k) ++ l.drop (zCO l k + 1) := by
 have e : z2u l k = (l.filter fun x=>less x.key k) ++ (l.filter fun x=>less k x.key) := by
  have hsp := z5E k l h
  unfold z2u
  conv=>lhs;rw [← List.take_append_drop (zCO l k) l]
  conv=>rhs;rw [z5r h,z5D h,if_pos ht]
  rw [List.filter_append,List.filter_eq_self.2]
  ·congr 1
   have hp : zCO l k < l.length := by
    unfold z1M at ht
    rcases Nat.lt_or_ge (zCO l k) l.length with hlt|hge
    ·exact hlt
    ·rw [List.getElem?_eq_none hge] at ht;cases ht
   have hk : l[zCO l k].key = k := by unfold z1M at ht;rw [List.getElem?_eq_getElem hp] at ht;simpa using ht
   rw [List.drop_eq_getElem_cons hp,List.filter_cons,if_neg (by simpa using hk)]
   rw [List.filter_eq_self]
   intro x hx
   obtain ⟨j,hj,rfl⟩ := List.mem_drop_iff_getElem.1 hx
   have := z8A h (i := zCO l k) (j := zCO l k + 1 + j) (by omega) (by omega)
   rw [hk] at this
   have hne : ¬ l[zCO l k + 1 + j].key = k := by intro e;rw [e,z1f] at this;cases this
   simpa using hne
  ·intro x hx
   have := hsp.1 x hx
   have hne : ¬ x.key = k := by intro e;rw [e,z1f] at this;cases this
   simpa using hne
 rw [e,z5r h,z5D h,if_pos ht]
end Go.Proofs.YtaplemeamcgpkaaDoor

namespace Go.Proofs.YtaplemeamcgpkaaDoor
open Go.RowKit
def Drew (w w' : World) : Prop := ∃ n,w' = w.drewN n
theorem Drew.refl (w : World) : Drew w w := ⟨0,rfl⟩
theorem Drew.mk (w : World) (n : Nat) : Drew w (w.drewN n) := ⟨n,rfl⟩
theorem Drew.mk2 (w : World) (n m : Nat) : Drew w ((w.drewN n).drewN m) := ⟨n + m,World.drewN_drewN ..⟩
def Sig (w : World) : Prop := 0 < w.heap.size ∧ w.cell? ⟨0,0,none⟩ = some (.int .u64 288195191779622912) ∧ w.cell? ⟨0,1,none⟩ = some (.int .u64 576460745860972544)
theorem Sig.below {w w' : World} (h : Sig w) (hb : Below w.heap.size w w') : Sig w' :=
 ⟨Nat.lt_of_lt_of_le h.1 hb.size,(hb.cell (p := ⟨0,0,none⟩) h.1).trans h.2.1,(hb.cell (p := ⟨0,1,none⟩) h.1).trans h.2.2⟩
theorem zCl : ∀ c : Fin 64,(bits BinOp.and IntKind.u64 (288195191779622912 / 2 ^ (c.val % 64)) 1 == 1) = zjJ (UInt8.ofNat c.val) := by decide +kernel
theorem zCi : ∀ c : Fin 64,(bits BinOp.and IntKind.u64 (576460745860972544 / 2 ^ ((c.val + 64) % 64)) 1 == 1) = zjJ (UInt8.ofNat (c.val + 64)) := by decide +kernel
theorem zCc : ∀ c : Fin 128,false = zjJ (UInt8.ofNat (c.val + 128)) := by decide +kernel
set_option maxHeartbeats 1000000 in
theorem zks (c : Nat) (hc : c < 256) (w : World) (hS : Sig w) :
  Calls Tryd.prog 55 #[.int .u8 (c : Int)] w fun e w'=>e = .returned (.bool (zjJ (UInt8.ofNat c))) ∧ w = w' := by
 obtain ⟨_,h0,h1⟩ := hS
 by_cases h : c < 64
 ·have hlt : (c : Int) < 128 := by omega
  have hd : (c : Int) / 64 = 0 := by omega
  go_enter Tryd.func55,Tryd.ntmps55
  go_wp2_with fail
  go_ret
  exact ⟨zFt (zCl ⟨c,h⟩),rfl⟩
 ·by_cases h' : c < 128
  ·have hlt : (c : Int) < 128 := by omega
   have hd : (c : Int) / 64 = 1 := by omega
   have HG := zCC (zCi ⟨c - 64,by omega⟩)
   go_enter Tryd.func55,Tryd.ntmps55
   go_wp2_with fail
   go_ret
   have hg := HG.out
   simp only [show c - 64 + 64 = c from by omega] at hg
   exact ⟨zFt hg,rfl⟩
  ·have hlt : ¬ (c : Int) < 128 := by omega
   have HG := zCC (zCc ⟨c - 128,by omega⟩)
   go_enter Tryd.func55,Tryd.ntmps55
   go_wp2_with fail
   go_ret
   have hg := HG.out
   simp only [show c - 128 + 128 = c from by omega] at hg
   exact ⟨zFt hg,rfl⟩
theorem zrq {l : z0f} (h : ¬ l.length ≤ 24) : zEF l = false := by simp [zEF,h]
theorem zve {l : z0f} {k : Nat} (hk : k < l.length) (h : zjJ l[k] = false) : zEF l = false := by
 have : l.all zjJ = false := by
  rw [List.all_eq_false];exact ⟨l[k],List.getElem_mem hk,by rw [h];simp⟩
 simp [zEF,this]
theorem zf5 {l : z0f} {k : Nat} (hk : k < l.length) (h : (l.take k).all zjJ = true) (h1 : zjJ l[k] = true) : (l.take (k + 1)).all zjJ = true := by
 rw [List.take_succ_eq_append_getElem hk,List.all_append,h];simp [h1]
theorem ofNat_toNat (c : UInt8) : UInt8.ofNat c.toNat = c := UInt8.ofNat_toNat
set_option maxHeartbeats 1000000 in
theorem zmh (l : z0f) (w : World) (hS : Sig w) :
  Calls Tryd.prog 36 #[.string ⟨l.toArray⟩] w fun e w'=>e = .returned (.bool (zEF l)) ∧ w = w' := by
 by_cases hn : l.length ≤ 24
 ·have hn' : ¬ (24 : Int) < l.length := by omega
  go_enter Tryd.func36,Tryd.ntmps36
  go_wp2_with fail
  go_loop [9] (fun i=>∃ k : Nat,k ≤ l.length ∧ i = .int .i64 k ∧ (l.take k).all zjJ = true) (fun i=>l.length - (intOf i).toNat)
  case atStart=>exact ⟨0,Nat.zero_le _,rfl,by simp⟩
  case round =>
   obtain ⟨k,hk,rfl,hall⟩ := hrel
   have HA := zCC hall;clear hall
   by_cases hlt : k < l.length
   ·have hlt' : (k : Int) < l.length := by omega
    obtain ⟨d,hd⟩ : ∃ d : Nat,d = l[k].toNat := ⟨_,rfl⟩
    have hd1 : d < 256 := by rw [hd];exact l[k].toNat_lt
    have hix := zlH (P := Tryd.prog) Tryd.underlying9 l k hlt d hd (k : Int) rfl w
    have HD := zCC hd;clear hd
    cases hs : zjJ (UInt8.ofNat d) with
    |true =>
     go_wp2_with (go_at_call 55;refine (zks d hd1 _ hS).mono ?_;rintro e w' ⟨rfl,rfl⟩)
     go_round
     case rel=>exact ⟨k + 1,by omega,by go_num,zf5 hlt HA.out (by rw [HD.out,ofNat_toNat] at hs;exact hs)⟩
     case measure=>simp [intOf];omega
    |false =>
     have HF := zCC (zve hlt (by rw [HD.out,ofNat_toNat] at hs;exact hs))
     go_wp2_with (go_at_call 55;refine (zks d hd1 _ hS).mono ?_;rintro e w' ⟨rfl,rfl⟩)
     go_ret
     rw [HF.out];exact ⟨rfl,rfl⟩
   ·have hk' : k = l.length := by omega
    subst hk'
    have HF := zCC (show zEF l = true from by have := HA.out;rw [List.take_length] at this;simp [zEF,hn];simpa using this)
    go_wp2_with fail
    go_ret
    rw [HF.out];exact ⟨rfl,rfl⟩
 ·have hn' : (24 : Int) < l.length := by omega
  have HF := zCC (zrq hn)
  go_enter Tryd.func36,Tryd.ntmps36
  go_wp2_with fail
  go_ret
  rw [HF.out];exact ⟨rfl,rfl⟩
theorem zhC (l : z0f) (w : World) (hS : Sig w) :
  Calls Tryd.prog 19 #[.string ⟨l.toArray⟩] w fun e w'=>e = .returned (.bool (zDF l)) ∧ w = w' := by
 go_enter Tryd.func19,Tryd.ntmps19
 go_wp2_with (go_at_call 36;refine (zmh l _ hS).mono ?_;rintro e w' ⟨rfl,rfl⟩)
 all_goals go_ret
 all_goals (refine ⟨zFt ?_,rfl⟩;simp_all [zDF])
end Go.Proofs.YtaplemeamcgpkaaDoor

namespace Go.Proofs.YtaplemeamcgpkaaDoor
open Go.Shelf Go.RowKit
def zcC : Go.Shelf.Ren := ⟨fun|169=>66|n=>n,fun|70=>123|9=>9|0=>0|72=>125|37=>89|127=>141|3=>3|5=>5|n=>n,fun|n=>n⟩
theorem zwz : Go.Proofs.Lays.n169 Tryd.prog zcC := {
 mixed := by kernel_rfl
 f169 := Tryd.func66.trans (congrArg some (by kernel_rfl))
 t0 := Tryd.underlying0
 a0 := Tryd.isAgg0
 z0 := Tryd.sizeOf0
 v0 := Tryd.zeroValue0
 t3 := Tryd.underlying3
 a3 := Tryd.isAgg3
 z3 := Tryd.sizeOf3
 v3 := Tryd.zeroValue3
 t9 := Tryd.underlying9
 a9 := Tryd.isAgg9
 z9 := Tryd.sizeOf9
 v9 := Tryd.zeroValue9
 t37 := Tryd.underlying89
 a37 := Tryd.isAgg89
 z37 := Tryd.sizeOf89
 v37 := Tryd.zeroValue89
 t70 := Tryd.underlying123
 a70 := Tryd.isAgg123
 z70 := Tryd.sizeOf123
 v70 := Tryd.zeroValue123
 t72 := Tryd.underlying125
 a72 := Tryd.isAgg125
 z72 := Tryd.sizeOf125
 v72 := Tryd.zeroValue125
 t127 := Tryd.underlying141
 a127 := Tryd.isAgg141
 z127 := Tryd.sizeOf141
 v127 := Tryd.zeroValue141 }
theorem zaL : Builder.Extra Tryd.prog zcC := {
 sizeBuilder := by kernel_rfl
 liesBuilder := by kernel_rfl
 t5 := Tryd.underlying5
 a5 := Tryd.isAgg5
 z5 := Tryd.sizeOf5
 v5 := Tryd.zeroValue5
 infoByte := by kernel_rfl
 cellsByte := by kernel_rfl
 sizeByte := by kernel_rfl
 neB5 := by decide }
theorem zs8 (B b : Nat) (l : List UInt8) (w : World) (h : Lib.IsBuilder 125 5 B b (Lib.byteCells l) w) (hBw : B ≤ w.heap.size) :
 Calls Tryd.prog 66 #[.pointer (some ⟨b,0,none⟩)] w fun e w'=>e = .returned (.string ⟨l.toArray⟩) ∧ Below B w w' := Any.Builder_String_any zwz zaL B b l w h hBw
def ziR : Go.Shelf.Ren := ⟨fun|129=>91|n=>n,fun|53=>135|3=>3|4=>4|46=>139|5=>5|9=>9|n=>n,fun|n=>n⟩
theorem zuU : Go.Proofs.Lays.n129 Tryd.prog ziR := {
 mixed := by kernel_rfl
 f129 := Tryd.func91.trans (congrArg some (by kernel_rfl))
 t3 := Tryd.underlying3
 a3 := Tryd.isAgg3
 z3 := Tryd.sizeOf3
 v3 := Tryd.zeroValue3
 t4 := Tryd.underlying4
 a4 := Tryd.isAgg4
 z4 := Tryd.sizeOf4
 v4 := Tryd.zeroValue4
 t5 := Tryd.underlying5
 a5 := Tryd.isAgg5
 z5 := Tryd.sizeOf5
 v5 := Tryd.zeroValue5
 t9 := Tryd.underlying9
 a9 := Tryd.isAgg9
 z9 := Tryd.sizeOf9
 v9 := Tryd.zeroValue9
 t46 := Tryd.underlying139
 a46 := Tryd.isAgg139
 z46 := Tryd.sizeOf139
 v46 := Tryd.zeroValue139
 t53 := Tryd.underlying135
 a53 := Tryd.isAgg135
 z53 := Tryd.sizeOf135
 v53 := Tryd.zeroValue135 }
def zj4 : Go.Shelf.Ren := ⟨fun|317=>90|n=>n,fun|3=>3|46=>139|n=>n,fun|n=>n⟩
theorem zu0 : Go.Proofs.Lays.n317 Tryd.prog zj4 := {
 mixed := by kernel_rfl
 f317 := Tryd.func90.trans (congrArg some (by kernel_rfl))
 t3 := Tryd.underlying3
 a3 := Tryd.isAgg3
 z3 := Tryd.sizeOf3
 v3 := Tryd.zeroValue3
 t46 := Tryd.underlying139
 a46 := Tryd.isAgg139
 z46 := Tryd.sizeOf139
 v46 := Tryd.zeroValue139 }
def zjn : Go.Shelf.Ren := ⟨fun|318=>92|n=>n,fun|3=>3|4=>4|n=>n,fun|n=>n⟩
theorem zvC : Go.Proofs.Lays.n318 Tryd.prog zjn := {
 mixed := by kernel_rfl
 f318 := Tryd.func92.trans (congrArg some (by kernel_rfl))
 t3 := Tryd.underlying3
 a3 := Tryd.isAgg3
 z3 := Tryd.sizeOf3
 v3 := Tryd.zeroValue3
 t4 := Tryd.underlying4
 a4 := Tryd.isAgg4
 z4 := Tryd.sizeOf4
 v4 := Tryd.zeroValue4 }
def zjx : Go.Shelf.Ren := ⟨fun|283=>81|n=>n,fun|3=>3|9=>9|4=>4|n=>n,fun|n=>n⟩
theorem zwS : Go.Proofs.Lays.n283 Tryd.prog zjx := {
 mixed := by kernel_rfl
 f283 := Tryd.func81.trans (congrArg some (by kernel_rfl))
 t3 := Tryd.underlying3
 a3 := Tryd.isAgg3
 z3 := Tryd.sizeOf3
 v3 := Tryd.zeroValue3
 t4 := Tryd.underlying4
 a4 := Tryd.isAgg4
 z4 := Tryd.sizeOf4
 v4 := Tryd.zeroValue4
 t9 := Tryd.underlying9
 a9 := Tryd.isAgg9
 z9 := Tryd.sizeOf9
 v9 := Tryd.zeroValue9 }
def zjB : Go.Shelf.Ren := ⟨fun|285=>83|n=>n,fun|37=>89|53=>135|3=>3|4=>4|51=>168|9=>9|5=>5|0=>0|n=>n,fun|n=>n⟩
theorem zvR : Go.Proofs.Lays.n285 Tryd.prog zjB := {
 mixed := by kernel_rfl
 f285 := Tryd.func83.trans (congrArg some (by kernel_rfl))
 t0 := Tryd.underlying0
 a0 := Tryd.isAgg0
 z0 := Tryd.sizeOf0
 v0 := Tryd.zeroValue0
 t3 := Tryd.underlying3
 a3 := Tryd.isAgg3
 z3 := Tryd.sizeOf3
 v3 := Tryd.zeroValue3
 t4 := Tryd.underlying4
 a4 := Tryd.isAgg4
 z4 := Tryd.sizeOf4
 v4 := Tryd.zeroValue4
 t5 := Tryd.underlying5
 a5 := Tryd.isAgg5
 z5 := Tryd.sizeOf5
 v5 := Tryd.zeroValue5
 t9 := Tryd.underlying9
 a9 := Tryd.isAgg9
 z9 := Tryd.sizeOf9
 v9 := Tryd.zeroValue9
 t37 := Tryd.underlying89
 a37 := Tryd.isAgg89
 z37 := Tryd.sizeOf89
 v37 := Tryd.zeroValue89
 t51 := Tryd.underlying168
 a51 := Tryd.isAgg168
 z51 := Tryd.sizeOf168
 v51 := Tryd.zeroValue168
 t53 := Tryd.underlying135
 a53 := Tryd.isAgg135
 z53 := Tryd.sizeOf135
 v53 := Tryd.zeroValue135 }
def Tab (w : World) : Prop := ∀ q,q < 20 → w.cell? ⟨1,q,none⟩ = some (.int .u64 ((10 ^ q : Nat) : Int))
set_option maxHeartbeats 2000000 in
theorem zeP (u : Nat) (h1 : 1 ≤ u) (h2 : u < 18446744073709551616) (w : World) (htab : Tab w) :
  Calls Tryd.prog 82 #[.int .u64 u] w fun e w'=>e = .returned (.int .i64 (Lib.nDigits u)) ∧ w' = w := by
 obtain ⟨hnd,h19⟩ := Lib.numDigits_eq u h1 h2
 have hL : Lib.bitLen u ≤ 64 := Lib.bitLen_le u 64 (Nat.le_refl _) h2
 have hcell := htab (Lib.l10 (Lib.bitLen u)) (by omega)
 have hto : ((u : Int)).toNat = u := by omega
 generalize hq : Lib.l10 (Lib.bitLen u) = q at hnd h19 hcell
 generalize hT : 10 ^ q = T at hnd hcell
 have h20 : q < 20 := by omega
 have Hnd := Lib.hid hnd
 clear hnd htab
 go_enter Tryd.func82,Tryd.ntmps82
 go_wp2_with (first
  |(go_at_call 91;refine (Any.bits_Len64 zuU _ _ (by omega) (by omega)).mono ?_;rintro e w' ⟨rfl,rfl⟩)
  |(go_at_call 90;refine (Any.internal_strconv_log10Pow2 zu0 _ (by first|exact hL|(rw [hto];exact hL)) _).mono ?_;rintro e w' ⟨rfl,rfl⟩)
  |(go_at_call 92;refine (Any.internal_strconv_bool2_int zvC _ _).mono ?_;rintro e w' ⟨rfl,rfl⟩))
 all_goals go_ret
 all_goals (
  refine ⟨?_,rfl⟩
  have hnd := Hnd.out
  congr 2
  split at hnd <;> simp_all <;> omega)
set_option maxHeartbeats 4000000 in
theorem zmv (n : Nat) (h1 : n ≤ 9223372036854775807) (w : World) (htab : ∀ o,Tab (w.alloc o)) :
  Calls Tryd.prog 77 #[.int .i64 n, .int .i64 10] w fun e w'=>e = .returned (.string ⟨(Lib.decDigits n).toArray⟩) ∧ Below w.heap.size w w' := by
 by_cases hi : n < 100
 ·go_enter Tryd.func77,Tryd.ntmps77
  go_wp2_with (go_at_call 81;refine (Any.internal_strconv_small zwS n hi _).mono ?_;rintro e w' ⟨rfl,rfl⟩)
  go_ret
  exact ⟨rfl,Below.refl _ _⟩
 ·obtain ⟨u,rfl⟩ : ∃ u : Nat,u = n := ⟨n,rfl⟩
  have hu1 : 1 ≤ u := by omega
  have hu64 : u < 18446744073709551616 := by omega
  have hnd20 : Lib.nDigits u ≤ 20 := by have := Lib.numDigits_eq u hu1 hu64;split at this <;> omega
  have hb3 : Lib.nDigits u ≤ 23 := by omega
  have hal : Tryd.prog.arrayLen 154 = 24 := by simp [Program.arrayLen,Tryd.underlying154]
  have hsl1 : ∀ W,(Instr.sliceAt 154 (.pointer (some ⟨w.heap.size,0,none⟩)) (some (.int .i64 1)) (some (.int .i64 (1 + (Lib.nDigits u : Int)))) none).run Tryd.prog W = .ok (.slice (some ⟨w.heap.size,1,none⟩) (Lib.nDigits u) 23) W := fun W=>by
   rw [run_sliceAt_array_lh W 154 ⟨w.heap.size,0,none⟩ (by simp [Program.arrayLen,Program.elem,Tryd.underlying154]) .i64 .i64 1 (1 + (Lib.nDigits u : Int)) (by omega) (by omega) (by rw [hal];omega)]
   go_simp
   omega
  have hH0 := Lib.holds_zero w 154 (Lib.nDigits u) (by omega)
  have hfmt := Any.internal_strconv_formatBase10 zvR w.heap.size 1 23 u (Array.replicate (Lib.nDigits u) 0) (w.alloc (.cells Lib.zeros24 154)) hH0 (by rw [Array.size_replicate];exact Lib.lt_pow_nDigits u) hu64 (by rw [Array.size_replicate];omega)
  rw [Array.size_replicate] at hfmt
  have HH0 := Lib.hid hH0
  clear hH0 hal
  go_enter Tryd.func77,Tryd.ntmps77
  go_wp2_with (go_at_call 82;refine (zeP u hu1 hu64 _ (htab _)).mono ?_;rintro e w' ⟨rfl,rfl⟩)
  go_at_call 83
  refine hfmt.mono ?_
  rintro e w' ⟨rfl,k,v',dk,rfl,hF⟩
  have hcv : (convert 89 9 (.slice (some ⟨w.heap.size,1,none⟩) (Lib.nDigits u) 23)).run Tryd.prog ((Go.Sort.putRow (fun (b : UInt8)=>Value.int .u8 (b.toNat : Int)) (w.alloc (.cells Lib.zeros24 154)) w.heap.size 1 dk).drewN k) = .ok (.string ⟨(Lib.decDigits u).toArray⟩) ((Go.Sort.putRow (fun (b : UInt8)=>Value.int .u8 (b.toNat : Int)) (w.alloc (.cells Lib.zeros24 154)) w.heap.size 1 dk).drewN k) := by
   have h := run_convert_bytes_back (P := Tryd.prog) ((Go.Sort.putRow (fun (b : UInt8)=>Value.int .u8 (b.toNat : Int)) (w.alloc (.cells Lib.zeros24 154)) w.heap.size 1 dk).drewN k) 89 9 5 ⟨w.heap.size,1,none⟩ 23 (Lib.decDigits u) Tryd.underlying89 Tryd.underlying5 Tryd.underlying9 (fun j hj=>by
    rw [Lib.row_is_numeral hF j hj,Lib.add_plain,World.cell?_drewN]
    exact Go.Sort.cell?_putRow (fun (b : UInt8)=>Value.int .u8 (b.toNat : Int)) _ w.heap.size 1 _ dk HH0.out (by rw [hF.size,Array.size_replicate]) j (by rw [hF.size];rw [Lib.decDigits_length] at hj;exact hj))
   rw [Lib.decDigits_length] at h
   exact h
  go_wp2
  go_ret
  obtain ⟨os,eo⟩ := Lib.fin_pos w (.cells Lib.zeros24 154) dk k
  exact ⟨rfl,by rw [eo];exact Lib.below_grow _ w (Nat.le_refl _) k os⟩
theorem zkj (n : Nat) (h1 : n ≤ 9223372036854775807) (w : World) (htab : ∀ o,Tab (w.alloc o)) :
  Calls Tryd.prog 73 #[.int .i64 n] w fun e w'=>e = .returned (.string ⟨(Lib.decDigits n).toArray⟩) ∧ Below w.heap.size w w' := by
 go_enter Tryd.func73,Tryd.ntmps73
 go_wp2_with (go_at_call 77;refine (zmv n h1 _ htab).mono ?_;rintro e w' ⟨rfl,hb⟩)
 go_ret
 exact ⟨rfl,hb⟩
theorem zsj (n : Nat) (h1 : n ≤ 9223372036854775807) (w : World) (htab : ∀ o,Tab (w.alloc o)) :
  Calls Tryd.prog 64 #[.int .i64 n] w fun e w'=>e = .returned (.string ⟨(Lib.decDigits n).toArray⟩) ∧ Below w.heap.size w w' := by
 go_enter Tryd.func64,Tryd.ntmps64
 go_wp2_with (go_at_call 73;refine (zkj n h1 _ htab).mono ?_;rintro e w' ⟨rfl,hb⟩)
 go_ret
 exact ⟨rfl,hb⟩
end Go.Proofs.YtaplemeamcgpkaaDoor

namespace Go.Proofs.YtaplemeamcgpkaaDoor
open Go.ChangeShapes Go.WideShapes Go.ChangeAt Go.WideMaps Go.WideElems Go.RowKit
theorem gSigns : Tryd.prog.globalNamed "plenum/key.signs" = some 0 := by kernel_rfl
theorem tSigns : (Tryd.prog.globals[0]?).map (·.type) = some 138 := by kernel_rfl
theorem zhv : Tryd.prog.cellsOf 135 = 1 := by kernel_rfl
theorem zD8 : Tryd.prog.globalNamed "internal/strconv.uint64pow10" = some 1 := by kernel_rfl
theorem tPow : (Tryd.prog.globals[1]?).map (·.type) = some 167 := by kernel_rfl
theorem door_met (os : Os) (args : Array Value) : laidMetH Tryd.prog [("math/bits.deBruijn32tab", Rows.laid_math_bits_deBruijn32tab), ("math/bits.deBruijn64tab", Rows.laid_math_bits_deBruijn64tab), ("internal/strconv.uint64pow10", Rows.laid_internal_strconv_uint64pow10), ("plenum/key.signs", Rows.laid_plenum_key_signs)] ((World.doorLaid Tryd.prog 400 os).forCall (fun _ _ => 0) ⟨#[], args, []⟩).memory :=
 laidMetH_of_parts3 (fuel := 8) (laidMet_of_run' 8 (by kernel_rfl) (by kernel_rfl)) (by kernel_rfl) (by kernel_rfl)
theorem sig_of_laid {W : World} (h : laidMetH Tryd.prog [("math/bits.deBruijn32tab", Rows.laid_math_bits_deBruijn32tab), ("math/bits.deBruijn64tab", Rows.laid_math_bits_deBruijn64tab), ("internal/strconv.uint64pow10", Rows.laid_internal_strconv_uint64pow10), ("plenum/key.signs", Rows.laid_plenum_key_signs)] W) : Sig W ∧ Tab W := by
 rw [MakeChecks.laidMetH_plain _ _ _ (by kernel_rfl)] at h
 have h3 := h.tail.tail
 have hT : Lib.TabIs Tryd.prog W "internal/strconv.uint64pow10" .u64 Lib.pow10Tab := Lib.tabIs_of_head (k := .u64) (zs := Lib.pow10Tab) zD8 tPow Tryd.underlying167 Tryd.underlying135 zhv (by kernel_rfl) h3
 have h := h3.tail
 refine ⟨?_,fun q hq=>by
  have := hT.cell zD8 q (by rw [Lib.pow10Tab_length];exact hq)
  rw [this,Lib.pow10Tab_at q hq]⟩
 clear h3 hT
 obtain ⟨ps,⟨g1,t1,cs1,f1,p1,q1,hg1,ht1,hv1,hd1,_,_⟩,_,_⟩ := h
 obtain rfl := Option.some.inj (gSigns.symm.trans hg1)
 obtain rfl := Option.some.inj (tSigns.symm.trans ht1)
 obtain ⟨xs,m1,rfl,hx1,hlen,hn3,hel⟩ := DataW.trod_array Tryd.underlying138 hd1
 have h0 := hel 0 (by decide)
 have h1 := hel 1 (by decide)
 simp only [Prod.mk.injEq] at hx1
 match xs,hn3,hx1,h0,h1 with
 |[x0,x1],_,hx1,h0,h1 =>
  have hx2 : [x0,x1].map (·.1) = [DataW.lit (.int .u64 288195191779622912),DataW.lit (.int .u64 576460745860972544)] := by
   have := hx1.1
   injection this with this
   exact this.symm
  simp only [List.map_cons,List.map_nil,List.cons.injEq,and_true] at hx2
  obtain ⟨k0,e0,f0,_⟩ := DataW.trod_int Tryd.underlying135 (show DataW.trod _ Tryd.prog W 0 _ false m1 135 _ = some x0 from h0)
  obtain ⟨k1,e1,f1,_⟩ := DataW.trod_int Tryd.underlying135 (show DataW.trod _ Tryd.prog W 0 _ false m1 135 _ = some x1 from h1)
  rw [f0,f1] at hx2
  simp only [DataW.lit.injEq,Lit.int.injEq,true_and] at hx2
  obtain ⟨rfl,rfl⟩ := hx2
  have v0 := World.var?_cell hg1 hv1 0
  have v1 := World.var?_cell hg1 hv1 1
  rw [zhv] at e0 e1
  obtain ⟨l1⟩ := cs1
  match l1,e0,e1 with
  |c :: d :: r,e0,e1 =>
   simp at e0 e1
   subst e0 e1
   simp at v0 v1
   exact ⟨World.block_lt_of_cell? _ _ v0,v0,v1⟩
end Go.Proofs.YtaplemeamcgpkaaDoor

namespace Go.Proofs.YtaplemeamcgpkaaDoor
open Go.RowKit
abbrev AV := DataW (Value ⊕ ((Nat × Nat) ⊕ (Nat × Nat)))
abbrev V (u : Value) : AV := .held (.inl u)
abbrev OP (i o : Nat) : AV := .held (.inr (.inl (i,o)))
abbrev OW (i n : Nat) : AV := .held (.inr (.inr (i,n)))
abbrev SL (es : List AV) : AV := .slice es []
abbrev CL (fn : Fn) (k : Nat) (caps : List AV) : AV := .slice caps [.held (.inl (.func fn #[] #[])), .held (.inr (.inl (k,0)))]
abbrev TU (ds : List AV) : AV := .iface "" (.agg ds)
abbrev PR (i n : Nat) : AV := .slice [] [.held (.inr (.inl (i,n)))]
abbrev ZV : AV := .slice [] [.held (.inl (.bool true))]
abbrev MR (A : Option Addr) (n c : Nat) : Value := .tuple #[.slice A n c]
abbrev MP (i : Nat) : AV := .slice [] [.held (.inr (.inr (i,0)))]
def zsc : Value → Option Nat
 |.pointer (some a)=>some a.block
 |.tuple ⟨[.slice (some a) _ _]⟩=>some a.block
 |_=>none
def cellsOf : AV → List AV|.agg cs=>cs|d=>[d]
abbrev SS := Nat → Nat → AV → Prop
def inS (S : SS) (b o z : Nat) (es : List AV) : Prop :=
 ∀ (i : Nat) (d : AV),es[i]? = some d → (cellsOf d).length = z ∧ ∀ (j : Nat) (y : AV),(cellsOf d)[j]? = some y → S b (o + i * z + j) y
def rep0 (S : SS) (μ : List Value) : AV → Value → Prop
 |.nil,_=>True
 |.held (.inl u),v=>v = u ∧ u.oneCell' = true
 |.held (.inr (.inl (i,o))),v=>∃ b x,μ[i]? = some x ∧ zsc x = some b ∧ v = .pointer (some ⟨b,o,none⟩)
 |.ptr d,v=>∃ b o,v = .pointer (some ⟨b,o,none⟩) ∧ ∀ (j : Nat) (y : AV),(cellsOf d)[j]? = some y → S b (o + j) y
 |_,_=>False
def rep1 (S : SS) (μ : List Value) : AV → Value → Prop
 |.nil,_=>True
 |.held (.inl u),v=>v = u ∧ u.oneCell' = true
 |.held (.inr (.inl (i,o))),v=>∃ b x,μ[i]? = some x ∧ zsc x = some b ∧ v = .pointer (some ⟨b,o,none⟩)
 |.held (.inr (.inr (i,n))),v=>∃ A m c A' c',μ[i]? = some (.slice A m c) ∧ n ≤ m ∧ v = .slice A' n c' ∧ (n = m → A' = A ∧ c' = c)
 |.slice es [],v=>∃ A c,v = .slice A es.length c ∧ es.length ≤ c ∧ c ≤ maxLen ∧ (es ≠ [] → ∃ b o z,A = some ⟨b,o,none⟩ ∧ inS S b o z es)
 |.slice _ [.held (.inr (.inl (i,n)))],v=>∃ A c,μ[i]? = some (MR A n c) ∧ v = .slice A n c ∧ n ≤ c ∧ c ≤ maxLen
 |.slice _ [.held (.inl (.bool _))],v=>∃ A,v = .slice A 0 0
 |.slice _ [.held (.inr (.inr (i,_)))],v=>∃ b,μ[i]? = some (.map (some b)) ∧ v = .map (some b)
 |.ptr d,v=>∃ b o,v = .pointer (some ⟨b,o,none⟩) ∧ ∀ (j : Nat) (y : AV),(cellsOf d)[j]? = some y → S b (o + j) y
 |.slice caps [.held (.inl (.func fn _ _)), .held (.inr (.inl (k,_)))],v=>∃ us : List Value,v = .func fn (us.take k).toArray (us.drop k).toArray ∧ us.length = caps.length ∧ ∀ (j : Nat) (d : AV) (u : Value),caps[j]? = some d → us[j]? = some u → rep0 S μ d u
 |_,_=>False
def reps (S : SS) (μ : List Value) (cs : List AV) (us : List Value) : Prop :=
 us.length = cs.length ∧ ∀ (j : Nat) (d : AV) (u : Value),cs[j]? = some d → us[j]? = some u → u.oneCell' = true ∧ rep1 S μ d u
def repA (S : SS) (μ : List Value) : AV → Value → Prop
 |.agg cs,v=>∃ us : List Value,v = .agg us.toArray ∧ reps S μ cs us
 |d,v=>rep1 S μ d v
def rep (S : SS) (μ : List Value) : AV → Value → Prop
 |.iface _ (.agg ds),v=>∃ us : List Value,v = .tuple us.toArray ∧ us.length = ds.length ∧ ∀ (j : Nat) (d : AV) (u : Value),ds[j]? = some d → us[j]? = some u → repA S μ d u
 |d,v=>repA S μ d v
def zE2 (es : List AV) : List AV := es.flatMap cellsOf
def allC (z : Nat) (es : List AV) : Prop := ∀ d ∈ es,(cellsOf d).length = z
theorem z1p {z : Nat} : ∀ {es : List AV},allC z es → (zE2 es).length = es.length * z
 |[],_=>by simp [zE2]
 |d :: es,h=>by
  have h1 := z1p (es := es) (fun x hx=>h x (List.mem_cons_of_mem _ hx))
  have h2 := h d (List.mem_cons_self ..)
  simp only [zE2,List.flatMap_cons,List.length_append,List.length_cons] at h1 ⊢
  rw [h1,h2,Nat.succ_mul];omega
structure AObj where
 k : Nat
 e : TypeId
 z : Nat
 c : List AV
def z2I : Value → Option Nat
 |.pointer (some a)=>some a.block
 |.slice (some a) _ c=>if c = 0 then none else some a.block
 |.tuple ⟨[.slice (some a) _ c]⟩=>if c = 0 then none else some a.block
 |.map (some b)=>some b
 |_=>none
def zEx : AV → List UInt8
 |.iface _ (.agg [.held (.inl (.string s)),_])=>s.data.toList
 |_=>[]
def zDL : AV → DataW Unit
 |.iface _ (.agg [_, .held (.inl (.int q a))])=>.lit (.int q a)
 |_=>.lit (.bool false)
def zDd (c : List AV) : DataW Unit := c.foldl (fun D e=>D.put (.string (zEx e)) (zDL e)) (.map [])
def objRep (w : World) (S : SS) (μ : List Value) (x : Value) (o : AObj) : Prop :=
 (o.k = 1 → ∃ b cs,x = .pointer (some ⟨b,0,none⟩) ∧ w.heap[b]? = some (.cells cs o.e (0,0)) ∧ reps S μ o.c cs.toList) ∧
 (o.k = 2 → ∃ us A c,x = .slice A o.c.length c ∧ o.c.length ≤ c ∧ c ≤ maxLen ∧ (c ≠ 0 → w.ownsRow 0 o.e o.z x o.c.length us) ∧ (o.c ≠ [] → ∃ b,A = some ⟨b,0,none⟩ ∧ inS S b 0 o.z o.c)) ∧
 (o.k = 4 → ∃ A c,x = MR A o.c.length c ∧ o.c.length ≤ c ∧ c ≤ maxLen ∧ allC o.z o.c ∧ (c ≠ 0 → ∃ b cs,A = some ⟨b,0,none⟩ ∧ w.heap[b]? = some (.cells cs o.e (0,0)) ∧ cs.size = c * o.z ∧ reps S μ (zE2 o.c) (cs.toList.take (o.c.length * o.z)))) ∧
 (o.k = 5 → ∃ b,x = .map (some b) ∧ w.ownsMap Tryd.prog o.e (plainElem Tryd.prog o.z) b o.c.length (zDd o.c))
theorem objRep.zero {w : World} {S : SS} {μ : List Value} {x : Value} {o : AObj} (h : o.k = 0) : objRep w S μ x o := ⟨fun e=>by omega,fun e=>by omega,fun e=>by omega,fun e=>by omega⟩
def zDf (μ : List Value) (H : List AObj) (b : Nat) : Prop := ∃ (i : Nat) (x : Value) (o : AObj),μ[i]? = some x ∧ H[i]? = some o ∧ o.k ≠ 0 ∧ z2I x = some b
structure Rel (w : World) (S : SS) (μ : List Value) (H : List AObj) : Prop where
 len : μ.length = H.length
 still : ∀ b j d,S b j d → ∃ u,w.cell? ⟨b,j,none⟩ = some u ∧ u.oneCell' = true ∧ rep1 S [] d u
 kinds : ∀ (i : Nat) (x : Value) (o : AObj),μ[i]? = some x → H[i]? = some o → o.k = 0 ∨ o.k = 1 ∨ o.k = 2 ∨ o.k = 4 ∨ o.k = 5
 objs : ∀ (i : Nat) (x : Value) (o : AObj),μ[i]? = some x → H[i]? = some o → objRep w S μ x o
 sep : ∀ (i i' : Nat) (x x' : Value) (o o' : AObj) (b : Nat),μ[i]? = some x → H[i]? = some o → o.k ≠ 0 → z2I x = some b → μ[i']? = some x' → H[i']? = some o' → o'.k ≠ 0 → z2I x' = some b → i = i'
 apart : ∀ (i : Nat) (x : Value) (o : AObj) (b : Nat),μ[i]? = some x → H[i]? = some o → o.k ≠ 0 → z2I x = some b → ∀ j d,S b j d → o.k = 2 ∧ j < o.c.length * o.z
structure Ext (S : SS) (μ : List Value) (S' : SS) (μ' : List Value) : Prop where
 still : ∀ b j d,S b j d → S' b j d
 objs : ∀ (i : Nat) (x : Value),μ[i]? = some x → ∃ x',μ'[i]? = some x' ∧ (x' = x ∨ (∃ (A : Option Addr) (m c : Nat) (A' : Option Addr) (m' c' : Nat),x = Value.slice A m c ∧ x' = Value.slice A' m' c' ∧ m < m') ∨ x = Value.bool false)
theorem Ext.refl (S : SS) (μ : List Value) : Ext S μ S μ := ⟨fun _ _ _ h=>h,fun _ x h=>⟨x,h, .inl rfl⟩⟩
theorem Ext.trans {S S' S'' : SS} {μ μ' μ'' : List Value} (h : Ext S μ S' μ') (k : Ext S' μ' S'' μ'') : Ext S μ S'' μ'' := by
 refine ⟨fun b j d q=>k.still _ _ _ (h.still _ _ _ q),fun i x hx=>?_⟩
 obtain ⟨x',hx',h1⟩ := h.objs i x hx
 obtain ⟨x'',hx'',h2⟩ := k.objs i x' hx'
 refine ⟨x'',hx'',?_⟩
 rcases h1 with rfl|⟨A,m,c,A',m',c',rfl,rfl,hm⟩|rfl
 ·exact h2
 ·rcases h2 with rfl|⟨A2,m2,c2,A3,m3,c3,e1,rfl,hm2⟩|e1
  ·exact .inr (.inl ⟨A,m,c,A',m',c',rfl,rfl,hm⟩)
  ·injection e1 with e1 e2 e3
   exact .inr (.inl ⟨A,m,c,A3,m3,c3,rfl,rfl,by omega⟩)
  ·cases e1
 ·exact .inr (.inr rfl)
theorem inS.ext {S S' : SS} (h : ∀ b j d,S b j d → S' b j d) {b o z : Nat} {es : List AV} (k : inS S b o z es) : inS S' b o z es :=
 fun i d hd=>⟨(k i d hd).1,fun j y hy=>h _ _ _ ((k i d hd).2 j y hy)⟩
theorem rep0.ext {S S' : SS} {μ μ' : List Value} (h : Ext S μ S' μ') {d : AV} {v : Value} (k : rep0 S μ d v) : rep0 S' μ' d v := by
 match d,k with
 |.nil,_=>trivial
 |.held (.inl u),k=>exact k
 |.held (.inr (.inl (i,o))),k =>
  obtain ⟨b,x,hb,hp,rfl⟩ := k
  obtain ⟨x',hx',h1⟩ := h.objs _ _ hb
  rcases h1 with rfl|⟨A,m,c,A',m',c',e,_⟩|e
  ·exact ⟨b,_,hx',hp,rfl⟩
  ·subst e;cases hp
  ·subst e;cases hp
 |.ptr d,k =>
  obtain ⟨b,o,e,hs⟩ := k
  exact ⟨b,o,e,fun j y hy=>h.still _ _ _ (hs j y hy)⟩
theorem rep1.ext {S S' : SS} {μ μ' : List Value} (h : Ext S μ S' μ') {d : AV} {v : Value} (k : rep1 S μ d v) : rep1 S' μ' d v := by
 match d,k with
 |.nil,_=>trivial
 |.held (.inl u),k=>exact k
 |.held (.inr (.inl (i,o))),k =>
  obtain ⟨b,x,hb,hp,rfl⟩ := k
  obtain ⟨x',hx',h1⟩ := h.objs _ _ hb
  rcases h1 with rfl|⟨A,m,c,A',m',c',e,_⟩|e
  ·exact ⟨b,_,hx',hp,rfl⟩
  ·subst e;cases hp
  ·subst e;cases hp
 |.held (.inr (.inr (i,n))),k =>
  obtain ⟨A,m,c,A0,c0,hb,hn,hv,he⟩ := k
  obtain ⟨x',hx',h1⟩ := h.objs _ _ hb
  rcases h1 with rfl|⟨A1,m1,c1,A',m',c',e,rfl,hm⟩|e
  ·exact ⟨A,m,c,A0,c0,hx',hn,hv,he⟩
  ·injection e with e1 e2 e3
   exact ⟨A',m',c',A0,c0,hx',by omega,hv,fun q=>by omega⟩
  ·cases e
 |.slice caps [.held (.inl (.func fn _ _)), .held (.inr (.inl (q,_)))],k =>
  obtain ⟨us,e,hl,hc⟩ := k
  exact ⟨us,e,hl,fun j d u hd hu=>(hc j d u hd hu).ext h⟩
 |.slice es [],k =>
  obtain ⟨A,c,e,h1,h2,h3⟩ := k
  refine ⟨A,c,e,h1,h2,fun hne=>?_⟩
  obtain ⟨b,o,z,e2,hs⟩ := h3 hne
  exact ⟨b,o,z,e2,hs.ext h.still⟩
 |.slice _ [.held (.inr (.inl (i,n)))],k =>
  obtain ⟨A,c,hb,r⟩ := k
  obtain ⟨x',hx',h1⟩ := h.objs _ _ hb
  rcases h1 with rfl|⟨A,m,c,A',m',c',e,_⟩|e
  ·exact ⟨A,c,hx',r⟩
  ·cases e
  ·cases e
 |.slice _ [.held (.inl (.bool _))],k=>exact k
 |.slice _ [.held (.inr (.inr (i,n)))],k =>
  obtain ⟨b,hb,r⟩ := k
  obtain ⟨x',hx',h1⟩ := h.objs _ _ hb
  rcases h1 with rfl|⟨A,m,c,A',m',c',e,_⟩|e
  ·exact ⟨b,hx',r⟩
  ·cases e
  ·cases e
 |.ptr d,k =>
  obtain ⟨b,o,e,hs⟩ := k
  exact ⟨b,o,e,fun j y hy=>h.still _ _ _ (hs j y hy)⟩
theorem reps.ext {S S' : SS} {μ μ' : List Value} (h : Ext S μ S' μ') {cs : List AV} {us : List Value} (k : reps S μ cs us) : reps S' μ' cs us :=
 ⟨k.1,fun j d u hd hu=>⟨(k.2 j d u hd hu).1,(k.2 j d u hd hu).2.ext h⟩⟩
theorem repA.ext {S S' : SS} {μ μ' : List Value} (h : Ext S μ S' μ') {d : AV} {v : Value} (k : repA S μ d v) : repA S' μ' d v := by
 unfold repA at k ⊢
 split
 ·simp only at k
  obtain ⟨us,e,hr⟩ := k
  exact ⟨us,e,hr.ext h⟩
 ·rename_i hne
  split at k
  ·exact absurd rfl (hne _)
  ·exact rep1.ext h k
theorem rep.ext {S S' : SS} {μ μ' : List Value} (h : Ext S μ S' μ') {d : AV} {v : Value} (k : rep S μ d v) : rep S' μ' d v := by
 unfold rep at k ⊢
 split
 ·simp only at k
  obtain ⟨us,e,hl,hr⟩ := k
  exact ⟨us,e,hl,fun j d u hd hu=>(hr j d u hd hu).ext h⟩
 ·rename_i hne
  split at k
  ·exact absurd rfl (hne _ _)
  ·exact repA.ext h k
theorem rep1.free {S : SS} {μ : List Value} {d : AV} {v : Value} (k : rep1 S [] d v) : rep1 S μ d v := by
 match d,k with
 |.nil,_=>trivial
 |.held (.inl u),k=>exact k
 |.held (.inr (.inl (i,o))),k=>obtain ⟨b,x,hb,_⟩ := k;simp at hb
 |.held (.inr (.inr (i,n))),k=>obtain ⟨A,m,c,A0,c0,hb,_⟩ := k;simp at hb
 |.slice _ [.held (.inr (.inl (i,n)))],k=>obtain ⟨A,c,hb,_⟩ := k;simp at hb
 |.slice _ [.held (.inl (.bool _))],k=>exact k
 |.slice _ [.held (.inr (.inr (i,n)))],k=>obtain ⟨b,hb,_⟩ := k;simp at hb
 |.slice caps [.held (.inl (.func fn _ _)), .held (.inr (.inl (q,_)))],k =>
  obtain ⟨us,e,hl,hc⟩ := k
  refine ⟨us,e,hl,fun j d u hd hu=>?_⟩
  have := hc j d u hd hu
  match d,this with
  |.nil,_=>trivial
  |.held (.inl u),k=>exact k
  |.held (.inr (.inl (i,o))),k=>obtain ⟨b,x,hb,_⟩ := k;simp at hb
  |.ptr d,k=>exact k
 |.slice es [],k=>exact k
 |.ptr d,k=>exact k
structure Step (n : Nat) (w : World) (S : SS) (μ : List Value) (H : List AObj) (w' : World) (S' : SS) (μ' : List Value) (H' : List AObj) : Prop where
 os : w'.os = w.os
 tape : w'.tape = w.tape
 output : w'.output = w.output
 size : w.heap.size ≤ w'.heap.size
 block : ∀ b,b < w.heap.size → ¬ zDf μ H b → w'.heap[b]? = w.heap[b]?
 still : ∀ b j d,S b j d → S' b j d
 objs : ∀ (i : Nat) (x : Value),i < n → μ[i]? = some x → ∃ x',μ'[i]? = some x' ∧ (x' = x ∨ (∃ (A : Option Addr) (m c : Nat) (A' : Option Addr) (m' c' : Nat),x = Value.slice A m c ∧ x' = Value.slice A' m' c' ∧ m < m') ∨ x = Value.bool false)
 old : ∀ b j d,S' b j d → b < w.heap.size → S b j d ∨ zDf μ H b
 mine : ∀ b,zDf μ' H' b → b < w.heap.size → zDf μ H b
theorem Step.refl (n : Nat) (w : World) (S : SS) (μ : List Value) (H : List AObj) : Step n w S μ H w S μ H :=
 ⟨rfl,rfl,rfl,Nat.le_refl _,fun _ _ _=>rfl,fun _ _ _ h=>h,fun _ x _ h=>⟨x,h, .inl rfl⟩,fun _ _ _ h _=>.inl h,fun _ h _=>h⟩
theorem Step.trans {n : Nat} {w w' w'' : World} {S S' S'' : SS} {μ μ' μ'' : List Value} {H H' H'' : List AObj} (h : Step n w S μ H w' S' μ' H') (k : Step n w' S' μ' H' w'' S'' μ'' H'') : Step n w S μ H w'' S'' μ'' H'' := by
 refine ⟨k.os.trans h.os,k.tape.trans h.tape,k.output.trans h.output,Nat.le_trans h.size k.size,fun b hb hn=>?_,fun b j d q=>k.still _ _ _ (h.still _ _ _ q),fun i x hi hx=>?_,fun b j d hs hb=>?_,fun b ho hb=>?_⟩
 ·rw [k.block b (Nat.lt_of_lt_of_le hb h.size) (fun q=>hn (h.mine b q hb)),h.block b hb hn]
 ·obtain ⟨x',hx',h1⟩ := h.objs i x hi hx
  obtain ⟨x'',hx'',h2⟩ := k.objs i x' hi hx'
  refine ⟨x'',hx'',?_⟩
  rcases h1 with rfl|⟨A,m,c,A',m',c',rfl,rfl,hm⟩|rfl
  ·exact h2
  ·rcases h2 with rfl|⟨A2,m2,c2,A3,m3,c3,e1,rfl,hm2⟩|e1
   ·exact .inr (.inl ⟨A,m,c,A',m',c',rfl,rfl,hm⟩)
   ·injection e1 with e1 e2 e3
    exact .inr (.inl ⟨A,m,c,A3,m3,c3,rfl,rfl,by omega⟩)
   ·cases e1
  ·exact .inr (.inr rfl)
 ·rcases k.old b j d hs (Nat.lt_of_lt_of_le hb h.size) with q|q
  ·exact h.old b j d q hb
  ·exact .inr (h.mine b q hb)
 ·exact h.mine b (k.mine b ho (Nat.lt_of_lt_of_le hb h.size)) hb
theorem Step.below {n : Nat} {w w' : World} {S S' : SS} {μ' : List Value} {H' : List AObj} (h : Step n w S [] [] w' S' μ' H') : Below w.heap.size w w' :=
 ⟨h.os,h.tape,h.output,h.size,fun b hb=>h.block b hb (by rintro ⟨i,x,o,hi,_⟩;simp at hi)⟩
abbrev Tm := List (Nat × AV)
def get : Tm → Nat → AV
 |[],_=>.nil
 |(j,d) :: r,i=>if j = i then d else get r i
def zDl (T : Tm) (i : Nat) (v : AV) : Tm := (i,v) :: T
theorem z6K (T : Tm) (i : Nat) (v : AV) : get (zDl T i v) i = v := by simp [zDl,get]
theorem z3Q (T : Tm) (i k : Nat) (v : AV) (h : k ≠ i) : get (zDl T i v) k = get T k := by simp [zDl,get,Ne.symm h]
structure ASt where
 H : List AObj
 T : Tm
def ASt.set (s : ASt) (H : List AObj) (dst : Option Tmp) (v : AV) : ASt := ⟨H,match dst with|some d=>zDl s.T d v|none=>s.T⟩
structure FS where
 n : Nat
 d : List Deferred
instance : Coe FS Nat := ⟨FS.n⟩
abbrev F0 (n : Nat) : FS := ⟨n,[]⟩
structure Fr (S : SS) (μ : List Value) (N : FS) (T : Tm) (a : Act) : Prop where
 size : a.tmps.size = N.n
 nodef : a.defers = N.d
 slot : ∀ i,rep S μ (get T i) (a.tmps.getD i undef)
theorem Fr.ext {S S' : SS} {μ μ' : List Value} {N : FS} {T : Tm} {a : Act} (h : Fr S μ N T a) (k : Ext S μ S' μ') : Fr S' μ' N T a := ⟨h.size,h.nodef,fun i=>(h.slot i).ext k⟩
theorem zeD (S : SS) (μ : List Value) (v : Value) : rep S μ .nil v := trivial
theorem Fr.put {S : SS} {μ : List Value} {N : FS} {T : Tm} {a : Act} (h : Fr S μ N T a) (d : Option Tmp) (hd : ∀ i,d = some i → i < N) {v : AV} {u : Value} (hr : rep S μ v u) :
  Fr S μ N (ASt.set ⟨[],T⟩ [] d v).T (a.put d u) := by
 cases d with
 |none=>exact h
 |some i =>
  have hi := hd i rfl
  refine ⟨by simp [Act.put,h.size],h.nodef,fun k=>?_⟩
  simp only [ASt.set,Act.put]
  by_cases e : k = i
  ·subst e
   rw [z6K]
   have : (a.tmps.setIfInBounds k u).getD k undef = u := by
    simp [Array.getD,h.size,hi]
   rw [this];exact hr
  ·rw [z3Q _ _ _ _ e]
   have : (a.tmps.setIfInBounds i u).getD k undef = a.tmps.getD k undef := by
    simp only [Array.getD_eq_getD_getElem?,Array.getElem?_setIfInBounds]
    rw [if_neg (Ne.symm e)]
   rw [this];exact h.slot k
abbrev Gl := List (Nat × AV)
def GOk (G : Gl) (S : SS) : Prop := ∀ (g : Nat) (d : AV),(g,d) ∈ G → ∀ (j : Nat) (y : AV),(cellsOf d)[j]? = some y → S g j y
theorem GOk.ext {G : Gl} {S S' : SS} (h : GOk G S) (k : ∀ b j d,S b j d → S' b j d) : GOk G S' := fun g d hg j y hy=>k _ _ _ (h g d hg j y hy)
def Lift (N : FS) (n : Nat) (w : World) (S : SS) (μ : List Value) (H : List AObj) (Q : Exit → ASt → Prop) : Exit → Act → World → Prop :=
 fun e a' w'=>∃ s' S' μ',Q e s' ∧ Rel w' S' μ' s'.H ∧ Fr S' μ' N s'.T a' ∧ Step n w S μ H w' S' μ' s'.H
def AWp (P : Program) (G : Gl) (N : FS) (n : Nat) (c : Code) (Q : Exit → ASt → Prop) (s : ASt) : Prop :=
 ∀ w S μ a,Rel w S μ s.H → Fr S μ N s.T a → GOk G S → c.wp P (Lift N n w S μ s.H Q) a w
section rules
variable {P : Program} {G : Gl} {N : FS} {n : Nat} {Q : Exit → ASt → Prop} {s : ASt}
theorem Lift.trans {w w' : World} {S S' : SS} {μ μ' : List Value} {H H' : List AObj} (h : Step n w S μ H w' S' μ' H') {Q : Exit → ASt → Prop} {e : Exit} {a : Act} {w'' : World} (k : Lift N n w' S' μ' H' Q e a w'') : Lift N n w S μ H Q e a w'' := by
 obtain ⟨s',S2,μ2,hq,hr,hf,hs⟩ := k
 exact ⟨s',S2,μ2,hq,hr,hf,h.trans hs⟩
theorem AWp.mono {c : Code} {Q' : Exit → ASt → Prop} (h : AWp P G N n c Q s) (k : ∀ e s,Q e s → Q' e s) : AWp P G N n c Q' s :=
 fun w S μ a hr hf hg=>wp_mono (h w S μ a hr hf hg) fun _ _ _ ⟨s',S',μ',hq,r⟩=>⟨s',S',μ',k _ _ hq,r⟩
theorem z0v (h : Q .normal s) : AWp P G N n .skip Q s := fun w S μ _ hr hf _=>wp_skip ⟨s,S,μ,h,hr,hf,Step.refl _ _ _ _ _⟩
theorem z0H (h : Q .ret s) : AWp P G N n .ret Q s := fun w S μ _ hr hf _=>wp_ret ⟨s,S,μ,h,hr,hf,Step.refl _ _ _ _ _⟩
theorem z0u {id : Nat} (h : Q (.exit id) s) : AWp P G N n (.exit id) Q s := fun w S μ _ hr hf _=>wp_exit ⟨s,S,μ,h,hr,hf,Step.refl _ _ _ _ _⟩
def zuk (next : ASt → Prop) (Q : Exit → ASt → Prop) : Exit → ASt → Prop
 |.normal,s=>next s
 |e,s=>Q e s
def z96 (id : Nat) (Q : Exit → ASt → Prop) : Exit → ASt → Prop
 |.exit id',s=>if id' = id then Q .normal s else Q (.exit id') s
 |e,s=>Q e s
theorem zcL {x y : Code} (h : AWp P G N n x (zuk (AWp P G N n y Q) Q) s) : AWp P G N n (.seq x y) Q s := by
 intro w S μ a hr hf hg
 refine wp_seq (wp_mono (h w S μ a hr hf hg) ?_)
 rintro e a' w' ⟨s',S',μ',hq,hr',hf',hst⟩
 cases e with
 |normal=>exact wp_mono (hq w' S' μ' a' hr' hf' (hg.ext hst.still)) fun _ _ _ k=>Lift.trans hst k
 |exit id=>exact ⟨s',S',μ',hq,hr',hf',hst⟩
 |goto l=>exact ⟨s',S',μ',hq,hr',hf',hst⟩
 |ret=>exact ⟨s',S',μ',hq,hr',hf',hst⟩
 |panic ch=>exact ⟨s',S',μ',hq,hr',hf',hst⟩
 |outgrown=>exact ⟨s',S',μ',hq,hr',hf',hst⟩
theorem z0p {id : Nat} {c : Code} (h : AWp P G N n c (z96 id Q) s) : AWp P G N n (.block id c) Q s := by
 intro w S μ a hr hf hg
 refine wp_block (wp_mono (h w S μ a hr hf hg) ?_)
 rintro e a' w' ⟨s',S',μ',hq,r⟩
 cases e with
 |exit id' =>
  simp only [z96] at hq
  simp only [Exit.inBlock]
  split
  ·rename_i e;rw [if_pos e] at hq;exact ⟨s',S',μ',hq,r⟩
  ·rename_i e;rw [if_neg e] at hq;exact ⟨s',S',μ',hq,r⟩
 |normal=>exact ⟨s',S',μ',hq,r⟩
 |goto l=>exact ⟨s',S',μ',hq,r⟩
 |ret=>exact ⟨s',S',μ',hq,r⟩
 |panic ch=>exact ⟨s',S',μ',hq,r⟩
 |outgrown=>exact ⟨s',S',μ',hq,r⟩
def cv : Value → AV
 |.agg cs=>if cs.all (·.oneCell') then .agg (cs.toList.map fun u=>V u) else .nil
 |.tuple _=>.nil
 |v=>V v
def zEA : Gl → Nat → AV
 |[],_=>.nil
 |(j,d) :: r,g=>if j = g then .ptr d else zEA r g
def ev (G : Gl) (T : Tm) : Operand → AV
 |.tmp t=>get T t
 |.const v=>cv v
 |.global g=>zEA G g
 |.func f=>V (.func (.func f) #[] #[])
theorem zjI {S : SS} {μ : List Value} {v : Value} (h : v.oneCell' = true) : rep S μ (V v) v := ⟨rfl,h⟩
theorem zyH (S : SS) (μ : List Value) (v : Value) : rep S μ (cv v) v := by
 cases v with
 |agg cs =>
  simp only [cv]
  split
  ·rename_i hall
   refine ⟨cs.toList,by simp,by simp,fun j d u hd hu=>?_⟩
   rw [List.getElem?_map,hu] at hd
   simp at hd;subst hd
   rw [Array.all_eq_true_iff_forall_mem] at hall
   have h1 : u.oneCell' = true := hall u (by rw [← Array.mem_toList_iff];exact List.mem_of_getElem? hu)
   exact ⟨h1,rfl,h1⟩
  ·trivial
 |tuple vs=>trivial
 |_=>exact ⟨rfl,rfl⟩
theorem Fr.ev {S : SS} {μ : List Value} {T : Tm} {a : Act} (hf : Fr S μ N T a) (hg : GOk G S) (x : Operand) : rep S μ (ev G T x) (a.eval x) := by
 cases x with
 |tmp t=>exact hf.slot t
 |const v=>exact zyH S μ v
 |func f=>exact ⟨rfl,rfl⟩
 |global g =>
  show rep S μ (zEA G g) (.pointer (some ⟨g,0,none⟩))
  have hg' : ∀ d : AV,(g,d) ∈ G → ∀ j y,(cellsOf d)[j]? = some y → S g j y := fun d=>hg g d
  clear hg
  induction G with
  |nil=>trivial
  |cons p r ih =>
   obtain ⟨j,d⟩ := p
   simp only [zEA]
   split
   ·rename_i e;subst e
    exact ⟨_,0,rfl,fun k y hy=>by simpa using hg' d (List.mem_cons_self ..) k y hy⟩
   ·exact ih fun d hd=>hg' d (List.mem_cons_of_mem _ hd)
theorem zgj {c : Operand} {x y : Code} {t : Bool} (hc : ev G s.T c = V (.bool t)) (h1 : t = true → AWp P G N n x Q s) (h2 : t = false → AWp P G N n y Q s) : AWp P G N n (.cond c x y) Q s := by
 intro w S μ a hr hf hg
 have h := hf.ev hg c
 rw [hc] at h
 exact wp_cond_split h.1 (fun e=>h1 e w S μ a hr hf hg) (fun e=>h2 e w S μ a hr hf hg)
def lt0 (n : Nat) : AV → Bool
 |.held (.inr (.inl (i,_)))=>decide (i < n)
 |_=>true
def lt1 (n : Nat) : AV → Bool
 |.held (.inr (.inl (i,_)))=>decide (i < n)
 |.held (.inr (.inr (i,_)))=>decide (i < n)
 |.slice _ [.held (.inr (.inl (i,_)))]=>decide (i < n)
 |.slice _ [.held (.inr (.inr (i,_)))]=>decide (i < n)
 |.slice caps (_ :: _)=>caps.all (lt0 n)
 |_=>true
def ltA (n : Nat) : AV → Bool
 |.agg cs=>cs.all (lt1 n)
 |d=>lt1 n d
def ltT (n : Nat) : AV → Bool
 |.iface _ (.agg ds)=>ds.all (ltA n)
 |d=>ltA n d
def ltO (n : Nat) (o : AObj) : Bool := o.k == 0 || o.c.all (ltA n)
theorem rep1.take {S : SS} {μ : List Value} {n : Nat} {d : AV} {v : Value} (k : rep1 S μ d v) (h : lt1 n d = true) : rep1 S (μ.take n) d v := by
 match d,k with
 |.nil,_=>trivial
 |.held (.inl u),k=>exact k
 |.held (.inr (.inl (i,o))),k =>
  obtain ⟨b,x,hb,e⟩ := k
  simp only [lt1,decide_eq_true_eq] at h
  exact ⟨b,x,by rw [List.getElem?_take,if_pos h];exact hb,e⟩
 |.slice _ [.held (.inr (.inl (i,m)))],k =>
  obtain ⟨A,c,hb,e⟩ := k
  simp only [lt1,decide_eq_true_eq] at h
  exact ⟨A,c,by rw [List.getElem?_take,if_pos h];exact hb,e⟩
 |.slice _ [.held (.inl (.bool _))],k=>exact k
 |.slice _ [.held (.inr (.inr (i,m)))],k =>
  obtain ⟨b,hb,e⟩ := k
  simp only [lt1,decide_eq_true_eq] at h
  exact ⟨b,by rw [List.getElem?_take,if_pos h];exact hb,e⟩
 |.held (.inr (.inr (i,m))),k =>
  obtain ⟨A,q,c,A0,c0,hb,e⟩ := k
  simp only [lt1,decide_eq_true_eq] at h
  exact ⟨A,q,c,A0,c0,by rw [List.getElem?_take,if_pos h];exact hb,e⟩
 |.slice caps [.held (.inl (.func fn _ _)), .held (.inr (.inl (q,_)))],k =>
  obtain ⟨us,e,hl,hc⟩ := k
  simp only [lt1,List.all_eq_true] at h
  refine ⟨us,e,hl,fun j d u hd hu=>?_⟩
  have h1 := hc j d u hd hu
  have h2 := h d (List.mem_of_getElem? hd)
  match d,h1,h2 with
  |.nil,_,_=>trivial
  |.held (.inl u),k,_=>exact k
  |.held (.inr (.inl (i,o))),k,h2 =>
   obtain ⟨b,x,hb,e⟩ := k
   simp only [lt0,decide_eq_true_eq] at h2
   exact ⟨b,x,by rw [List.getElem?_take,if_pos h2];exact hb,e⟩
  |.ptr d,k,_=>exact k
 |.slice es [],k=>exact k
 |.ptr d,k=>exact k
theorem reps.take {S : SS} {μ : List Value} {n : Nat} {cs : List AV} {us : List Value} (k : reps S μ cs us) (h : ∀ d ∈ cs,lt1 n d = true) : reps S (μ.take n) cs us :=
 ⟨k.1,fun j d u hd hu=>⟨(k.2 j d u hd hu).1,(k.2 j d u hd hu).2.take (h d (List.mem_of_getElem? hd))⟩⟩
theorem repA.take {S : SS} {μ : List Value} {n : Nat} {d : AV} {v : Value} (k : repA S μ d v) (h : ltA n d = true) : repA S (μ.take n) d v := by
 unfold repA at k ⊢
 split
 ·simp only at k
  obtain ⟨us,e,hr⟩ := k
  simp only [ltA,List.all_eq_true] at h
  exact ⟨us,e,hr.take h⟩
 ·rename_i hne
  split at k
  ·exact absurd rfl (hne _)
  ·refine rep1.take k ?_
   unfold ltA at h
   split at h
   ·exact absurd rfl (hne _)
   ·exact h
theorem rep.take {S : SS} {μ : List Value} {n : Nat} {d : AV} {v : Value} (k : rep S μ d v) (h : ltT n d = true) : rep S (μ.take n) d v := by
 unfold rep at k ⊢
 split
 ·simp only at k
  obtain ⟨us,e,hl,hr⟩ := k
  simp only [ltT,List.all_eq_true] at h
  exact ⟨us,e,hl,fun j d u hd hu=>(hr j d u hd hu).take (h d (List.mem_of_getElem? hd))⟩
 ·rename_i hne
  split at k
  ·exact absurd rfl (hne _ _)
  ·refine repA.take k ?_
   unfold ltT at h
   split at h
   ·exact absurd rfl (hne _ _)
   ·exact h
def HLe : List AObj → List AObj → Prop
 |_,[]=>True
 |[],_ :: _=>False
 |o :: r,o' :: r'=>(o' = o ∨ AObj.k o' = 0) ∧ HLe r r'
theorem HLe.length : ∀ {H H' : List AObj},HLe H H' → H'.length ≤ H.length
 |_,[],_=>Nat.zero_le _
 |o :: r,o' :: r',h=>Nat.succ_le_succ (HLe.length h.2)
 |[],_ :: _,h=>h.elim
theorem HLe.get : ∀ {H H' : List AObj},HLe H H' → ∀ (i : Nat) (o' : AObj),H'[i]? = some o' → o'.k ≠ 0 → H[i]? = some o'
 |_,[],_,i,o',h,_=>by simp at h
 |o :: r,o1 :: r',h,0,o',h1,h2=>by
  simp at h1;subst h1
  rcases h.1 with e|e
  ·simp [e]
  ·exact absurd e h2
 |o :: r,o1 :: r',h,i + 1,o',h1,h2=>by
  simp at h1 ⊢
  exact HLe.get h.2 i o' h1 h2
 |[],_ :: _,h,_,_,_,_=>h.elim
theorem zgI {n : Nat} {o : AObj} (h : o.c.all (ltA n) = true) (hk : ∀ d ∈ o.c,(∀ cs,d ≠ DataW.agg cs)) : ∀ d ∈ o.c,lt1 n d = true := by
 intro d hd
 have := (List.all_eq_true.1 h) d hd
 unfold ltA at this
 split at this
 ·exact absurd rfl (hk _ hd _)
 ·exact this
theorem zjl {n : Nat} {es : List AV} (h : es.all (ltA n) = true) (hk : ∀ d ∈ zE2 es,(∀ cs,d ≠ DataW.agg cs)) : ∀ d ∈ zE2 es,lt1 n d = true := by
 intro d hd
 obtain ⟨x,hx,hxd⟩ := List.mem_flatMap.1 hd
 have := (List.all_eq_true.1 h) x hx
 unfold ltA at this
 split at this
 ·exact (List.all_eq_true.1 this) d hxd
 ·rename_i hne
  have e : cellsOf x = [x] := by cases x <;> first|rfl|exact absurd rfl (hne _)
  rw [e] at hxd
  have : d = x := by simpa using hxd
  subst this
  assumption
theorem zfI {S : SS} {μ : List Value} {cs : List AV} {us : List Value} (k : reps S μ cs us) : ∀ d ∈ cs,(∀ xs,d ≠ DataW.agg xs) := by
 intro d hd xs e
 subst e
 obtain ⟨j,hj⟩ := List.getElem?_of_mem hd
 have hl : j < us.length := by rw [k.1];exact (List.getElem?_eq_some_iff.1 hj).1
 exact (k.2 j _ us[j] hj (List.getElem?_eq_getElem hl)).2.elim
theorem Rel.le {w : World} {S : SS} {μ : List Value} {H H' : List AObj} (h : Rel w S μ H) (hl : HLe H H') (hlt : H'.all (ltO H'.length) = true) : Rel w S (μ.take H'.length) H' := by
 have hn := hl.length
 have hget : ∀ (i : Nat) (x : Value),(μ.take H'.length)[i]? = some x → μ[i]? = some x := by
  intro i x hx
  rw [List.getElem?_take] at hx
  split at hx
  ·exact hx
  ·cases hx
 refine ⟨by rw [List.length_take,h.len];omega,h.still,fun i x o hx ho=>?_,fun i x o hx ho=>?_,fun i i' x x' o o' b hx ho hk hb hx' ho' hk' hb'=>?_,fun i x o b hx ho hk hb=>?_⟩
 ·by_cases hk : o.k = 0
  ·exact .inl hk
  ·exact h.kinds i x o (hget i x hx) (hl.get i o ho hk)
 ·by_cases hk : o.k = 0
  ·exact objRep.zero hk
  ·have := h.objs i x o (hget i x hx) (hl.get i o ho hk)
   have hltc : o.c.all (ltA H'.length) = true := by
    have := (List.all_eq_true.1 hlt) o (List.mem_of_getElem? ho)
    simpa [ltO,hk] using this
   refine ⟨fun e=>?_,this.2.1,fun e=>?_,this.2.2.2⟩
   ·obtain ⟨b,cs,h1,h2,h3⟩ := this.1 e
    exact ⟨b,cs,h1,h2,h3.take (zgI hltc (zfI h3))⟩
   ·obtain ⟨A,c,h1,h2,h3,h4,h5⟩ := this.2.2.1 e
    refine ⟨A,c,h1,h2,h3,h4,fun h0=>?_⟩
    obtain ⟨b,cs,q1,q2,q3,q4⟩ := h5 h0
    exact ⟨b,cs,q1,q2,q3,q4.take (zjl hltc (zfI q4))⟩
 ·exact h.sep i i' x x' o o' b (hget i x hx) (hl.get i o ho hk) hk hb (hget i' x' hx') (hl.get i' o' ho' hk') hk' hb'
 ·exact h.apart i x o b (hget i x hx) (hl.get i o ho hk) hk hb
theorem Rel.own_lt {w : World} {S : SS} {μ : List Value} {H : List AObj} (hr : Rel w S μ H) {i : Nat} {x : Value} {o : AObj} {b : Nat} (hx : μ[i]? = some x) (ho : H[i]? = some o) (hk : o.k ≠ 0) (hb : z2I x = some b) : b < w.heap.size := by
 have ho' := hr.objs i x o hx ho
 have := hr.kinds i x o hx ho
 rcases this with h|h|h|h|h
 ·exact absurd h hk
 ·obtain ⟨b',cs,e,hc,_⟩ := ho'.1 h
  subst e;simp [z2I] at hb;subst hb
  exact (Array.getElem?_eq_some_iff.1 hc).1
 ·obtain ⟨us,A,c,e,_,_,hc,_⟩ := ho'.2.1 h
  subst e
  cases A with
  |none=>simp [z2I] at hb
  |some a =>
   simp only [z2I] at hb
   split at hb
   ·cases hb
   ·rename_i h0
    injection hb with hb;subst hb
    exact ((hc h0).lt a.block rfl).2
 ·obtain ⟨A,c,e,_,_,_,hc⟩ := ho'.2.2.1 h
  subst e
  cases A with
  |none=>simp [z2I] at hb
  |some a =>
   simp only [z2I] at hb
   split at hb
   ·cases hb
   ·rename_i h0
    injection hb with hb;subst hb
    obtain ⟨b,cs,q1,q2,_⟩ := hc h0
    injection q1 with q1;subst q1
    exact (Array.getElem?_eq_some_iff.1 q2).1
 ·obtain ⟨b',e,hc⟩ := ho'.2.2.2 h
  subst e;simp [z2I] at hb;subst hb
  exact hc.lt
theorem zlb {w w' : World} {P : Program} {k : TypeId} {R : Value → Option (DataW Unit × List MemPlace)} {b n : Nat} {D : DataW Unit} (h : w.ownsMap P k R b n D) (hb : w'.heap[b]? = w.heap[b]?) : w'.ownsMap P k R b n D := by
 obtain ⟨es,clock,h1,h2⟩ := h
 exact ⟨es,clock,by rw [hb];exact h1,h2⟩
theorem objRep.move {w w' : World} {S S' : SS} {μ μ' : List Value} {x : Value} {o : AObj} (h : objRep w S μ x o) (he : Ext S μ S' μ') (hb : ∀ b,z2I x = some b → w'.heap[b]? = w.heap[b]?) : objRep w' S' μ' x o := by
 refine ⟨fun hk=>?_,fun hk=>?_,fun hk=>?_,fun hk=>?_⟩
 ·obtain ⟨b',cs,e,hc,hrp⟩ := h.1 hk
  exact ⟨b',cs,e,by rw [hb b' (by subst e;rfl)];exact hc,hrp.ext he⟩
 ·obtain ⟨us,A,c,e,l1,l2,hc,hrp⟩ := h.2.1 hk
  refine ⟨us,A,c,e,l1,l2,fun h0=>⟨(hc h0).1,?_⟩,fun hne=>?_⟩
  ·rcases (hc h0).2 with q|⟨g,cap,cur,hv,hg,hh,r⟩
   ·exact .inl q
   ·refine .inr ⟨g,cap,cur,hv,hg,?_,r⟩
    rw [hb g ?_];exact hh
    rw [hv]
    rw [hv] at e
    injection e with e1 e2 e3
    simp only [z2I]
    rw [if_neg (by rw [e3];exact h0)]
  ·obtain ⟨b,e2,hin⟩ := hrp hne
   exact ⟨b,e2,hin.ext he.still⟩
 ·obtain ⟨A,c,e,l1,l2,l3,hc⟩ := h.2.2.1 hk
  refine ⟨A,c,e,l1,l2,l3,fun h0=>?_⟩
  obtain ⟨b,cs,q1,q2,q3,q4⟩ := hc h0
  refine ⟨b,cs,q1,?_,q3,q4.ext he⟩
  rw [hb b (by subst e q1;simp only [z2I];rw [if_neg h0])];exact q2
 ·obtain ⟨b',e,hc⟩ := h.2.2.2 hk
  exact ⟨b',e,zlb hc (hb b' (by subst e;rfl))⟩
def TLe (n : Nat) (T : Tm) : Tm → Prop
 |[]=>True
 |(i,d) :: r=>get T i = d ∧ ltT n d = true ∧ TLe n T r
theorem TLe.get {n : Nat} {T : Tm} : ∀ {T' : Tm}, TLe n T T' → ∀ i, (get T' i = get T i ∧ ltT n (get T' i) = true) ∨ get T' i = .nil
  | [], _, i => .inr rfl
  | (j, d) :: r, h, i => by
    simp only [_root_.Go.Proofs.YtaplemeamcgpkaaDoor.get]
    split
    · rename_i e; subst e
      exact .inl ⟨h.1.symm, h.2.1⟩
    · exact TLe.get h.2.2 i
structure Le (s s' : ASt) : Prop where
 h : HLe s.H s'.H
 o : s'.H.all (ltO s'.H.length) = true
 t : TLe s'.H.length s.T s'.T
theorem Le.rel {s s' : ASt} (h : Le s s') {w : World} {S : SS} {μ : List Value} (hr : Rel w S μ s.H) : Rel w S (μ.take s'.H.length) s'.H := hr.le h.h h.o
theorem Le.fr {s s' : ASt} (h : Le s s') {S : SS} {μ : List Value} {N : FS} {a : Act} (hf : Fr S μ N s.T a) : Fr S (μ.take s'.H.length) N s'.T a :=
 ⟨hf.size,hf.nodef,fun i=>by
  rcases TLe.get h.t i with ⟨e,hl⟩|e
  ·rw [e] at hl ⊢;exact (hf.slot i).take hl
  ·rw [e];trivial⟩
theorem HLe.own {H H' : List AObj} (h : HLe H H') {μ : List Value} {b : Nat} (k : zDf (μ.take H'.length) H' b) : zDf μ H b := by
 obtain ⟨i,x,o,hx,ho,hk,hb⟩ := k
 refine ⟨i,x,o,?_,h.get i o ho hk,hk,hb⟩
 rw [List.getElem?_take] at hx
 split at hx
 ·exact hx
 ·cases hx
theorem Le.step {s s' : ASt} (h : Le s s') (hn : n ≤ s'.H.length) (w : World) (S : SS) (μ : List Value) : Step n w S μ s.H w S (μ.take s'.H.length) s'.H :=
 ⟨rfl,rfl,rfl,Nat.le_refl _,fun _ _ _=>rfl,fun _ _ _ h=>h,fun i x hi hx=>⟨x,by rw [List.getElem?_take,if_pos (by omega)];exact hx, .inl rfl⟩,fun _ _ _ h _=>.inl h,fun _ k _=>h.h.own k⟩
theorem AWp.le {c : Code} {s' : ASt} (h : AWp P G N n c Q s') (k : Le s s') (hn : n ≤ s'.H.length) : AWp P G N n c Q s :=
 fun w S μ a hr hf hg=>wp_mono (h w S (μ.take s'.H.length) a (k.rel hr) (k.fr hf) hg) fun _ _ _ q=>Lift.trans (k.step hn w S μ) q
def zx6 {ι : Type} (n : Nat) (I : ι → ASt) (M : ι → Nat) (i : ι) (Q : Exit → ASt → Prop) : Exit → ASt → Prop
 |.normal,s=>∃ i',Le s (I i') ∧ n ≤ (I i').H.length ∧ M i' < M i
 |e,s=>Q e s
theorem z9e {ι : Type} (I : ι → ASt) (M : ι → Nat) (i0 : ι) {c : Code} (h0 : Le s (I i0)) (hn : n ≤ (I i0).H.length) (hr : ∀ i,AWp P G N n c (zx6 n I M i Q) (I i)) : AWp P G N n (.loop c) Q s := by
 intro w S μ a hrel hfr hg
 refine wp_loop_ghost (fun m a' w'=>∃ i S' μ',M i = m ∧ Rel w' S' μ' (I i).H ∧ Fr S' μ' N (I i).T a' ∧ GOk G S' ∧ Step n w S μ s.H w' S' μ' (I i).H) (M i0) ⟨i0,S,_,rfl,h0.rel hrel,h0.fr hfr,hg,h0.step hn w S μ⟩ ?_
 rintro m a' w' ⟨i,S',μ',rfl,hrel',hfr',hg',hst⟩
 refine wp_mono (hr i w' S' μ' a' hrel' hfr' hg') ?_
 rintro e a2 w2 ⟨s2,S2,μ2,hq,hr2,hf2,hs2⟩
 cases e with
 |normal =>
  obtain ⟨i',hle,hn',hm⟩ := hq
  exact ⟨M i',hm,i',S2,_,rfl,hle.rel hr2,hle.fr hf2,hg'.ext hs2.still,(hst.trans hs2).trans (hle.step hn' w2 S2 μ2)⟩
 |exit id=>exact ⟨s2,S2,μ2,hq,hr2,hf2,hst.trans hs2⟩
 |goto l=>exact ⟨s2,S2,μ2,hq,hr2,hf2,hst.trans hs2⟩
 |ret=>exact ⟨s2,S2,μ2,hq,hr2,hf2,hst.trans hs2⟩
 |panic ch=>exact ⟨s2,S2,μ2,hq,hr2,hf2,hst.trans hs2⟩
 |outgrown=>exact ⟨s2,S2,μ2,hq,hr2,hf2,hst.trans hs2⟩
end rules
end Go.Proofs.YtaplemeamcgpkaaDoor

namespace Go.Proofs.YtaplemeamcgpkaaDoor
open Go.RowKit
def z5e (P : Program) (f : FuncId) : Bool := match P.funcs[f]? with
 | some fn => !(fn.name == "runtime.NumGoroutine") && fn.body.isSome
 |none=>false
theorem z8h {P : Program} {o : Oper} {ρ : Operand → Value} {w : World} {f : FuncId} {args : Array Operand} {ts : Array TypeId} (hf : z5e P f = true)
  (ho : o.op = .call { callee := .value (.func f),args := args,argTypes := ts }) (hρ : ρ (.func f) = .func (.func f) #[] #[]) : (execOp ρ o).run P w = .ok (.enter f (args.map ρ)) w := by
 unfold z5e at hf
 cases h : P.funcs[f]? with
 |none=>rw [h] at hf;cases hf
 |some fn =>
  rw [h] at hf
  simp only [Bool.and_eq_true,Bool.not_eq_true',Option.isSome_iff_ne_none] at hf
  obtain ⟨h1,h2⟩ := hf
  have h3 : fn.body.isNone = false := by cases hb : fn.body with|none=>exact absurd hb h2|some _=>rfl
  unfold execOp
  rw [ho]
  simp only [resolve,hρ,Deferred.ofValue,Sem.run_bind,Sem.run_pure,Result.andThen_ok,invoke,callFunc,run_program,h,h1,h3]
  simp [Sem.run_pure]
def zns (w : World) (S : SS) (μ : List Value) (H : List AObj) (R : AV → List AObj → Prop) (e : Ending) (w' : World) : Prop :=
 ∃ v r H' S' μ',e = .returned v ∧ R r H' ∧ Rel w' S' μ' H' ∧ rep S' μ' r v ∧ Step H.length w S μ H w' S' μ' H'
def AC (P : Program) (G : Gl) (f : FuncId) (args : List AV) (H : List AObj) (R : AV → List AObj → Prop) : Prop :=
 z5e P f = true ∧ ∀ w S μ (vs : List Value),Rel w S μ H → GOk G S → vs.length = args.length → (∀ (j : Nat) (d : AV) (v : Value),args[j]? = some d → vs[j]? = some v → rep S μ d v) →
  Calls P f vs.toArray w (zns w S μ H R)
theorem AC.mono {P : Program} {G : Gl} {f : FuncId} {args : List AV} {H : List AObj} {R R' : AV → List AObj → Prop} (h : AC P G f args H R) (k : ∀ r H',R r H' → R' r H') : AC P G f args H R' :=
 ⟨h.1,fun w S μ vs hr hg hl hv=>(h.2 w S μ vs hr hg hl hv).mono fun e w' ⟨v,r,H',S',μ',he,hR,rest⟩=>⟨v,r,H',S',μ',he,k r H' hR,rest⟩⟩
abbrev PN (u : Value) : AV := .iface "" (.held (.inl u))
def zCP (w : World) (S : SS) (μ : List Value) (H : List AObj) (R : AV → List AObj → Prop) (e : Ending) (w' : World) : Prop :=
 ∃ u H' S' μ',e = .panicked [{ v := u,recovered := false }] ∧ R (PN u) H' ∧ Rel w' S' μ' H' ∧ Step H.length w S μ H w' S' μ' H'
def ACx (P : Program) (G : Gl) (f : FuncId) (args : List AV) (H : List AObj) (R : AV → List AObj → Prop) : Prop :=
 z5e P f = true ∧ ∀ w S μ (vs : List Value),Rel w S μ H → GOk G S → vs.length = args.length → (∀ (j : Nat) (d : AV) (v : Value),args[j]? = some d → vs[j]? = some v → rep S μ d v) →
  Calls P f vs.toArray w (fun e w'=>zns w S μ H R e w' ∨ zCP w S μ H R e w')
theorem ACx.mono {P : Program} {G : Gl} {f : FuncId} {args : List AV} {H : List AObj} {R R' : AV → List AObj → Prop} (h : ACx P G f args H R) (k : ∀ r H',R r H' → R' r H') : ACx P G f args H R' :=
 ⟨h.1,fun w S μ vs hr hg hl hv=>(h.2 w S μ vs hr hg hl hv).mono fun e w' q=>by
  rcases q with ⟨v,r,H',S',μ',he,hR,rest⟩|⟨u,H',S',μ',he,hR,rest⟩
  ·exact .inl ⟨v,r,H',S',μ',he,k r H' hR,rest⟩
  ·exact .inr ⟨u,H',S',μ',he,k _ H' hR,rest⟩⟩
theorem AC.x {P : Program} {G : Gl} {f : FuncId} {args : List AV} {H : List AObj} {R : AV → List AObj → Prop} (h : AC P G f args H R) : ACx P G f args H R :=
 ⟨h.1,fun w S μ vs hr hg hl hv=>(h.2 w S μ vs hr hg hl hv).mono fun e w' q=>.inl q⟩
def ACp (P : Program) (G : Gl) (f : FuncId) (args : List AV) (X : AV) : Prop := AC P G f args [] fun r H'=>r = X ∧ H' = []
theorem Step.toExt {w w' : World} {S S' : SS} {μ μ' : List Value} {H H' : List AObj} (hr : Rel w S μ H) (h : Step H.length w S μ H w' S' μ' H') : Ext S μ S' μ' :=
 ⟨h.still,fun i x hx=>h.objs i x (by rw [← hr.len];exact (List.getElem?_eq_some_iff.1 hx).1) hx⟩
theorem Step.less {n m : Nat} {w w' : World} {S S' : SS} {μ μ' : List Value} {H H' : List AObj} (h : Step n w S μ H w' S' μ' H') (hm : m ≤ n) : Step m w S μ H w' S' μ' H' :=
 ⟨h.os,h.tape,h.output,h.size,h.block,h.still,fun i x hi hx=>h.objs i x (by omega) hx,h.old,h.mine⟩
theorem reps.free {S : SS} {μ : List Value} {cs : List AV} {us : List Value} (k : reps S [] cs us) : reps S μ cs us := ⟨k.1,fun j d u hd hu=>⟨(k.2 j d u hd hu).1,(k.2 j d u hd hu).2.free⟩⟩
theorem repA.free {S : SS} {μ : List Value} {d : AV} {v : Value} (k : repA S [] d v) : repA S μ d v := by
 unfold repA at k ⊢
 split
 ·simp only at k
  obtain ⟨us,e,hr⟩ := k
  exact ⟨us,e,hr.free⟩
 ·rename_i hne
  split at k
  ·exact absurd rfl (hne _)
  ·exact k.free
theorem rep.free {S : SS} {μ : List Value} {d : AV} {v : Value} (k : rep S [] d v) : rep S μ d v := by
 unfold rep at k ⊢
 split
 ·simp only at k
  obtain ⟨us,e,hl,hr⟩ := k
  exact ⟨us,e,hl,fun j d u hd hu=>(hr j d u hd hu).free⟩
 ·rename_i hne
  split at k
  ·exact absurd rfl (hne _ _)
  ·exact k.free
theorem rep.none {S : SS} {μ : List Value} {d : AV} {v : Value} (k : rep S μ d v) (h : ltT 0 d = true) : rep S [] d v := by simpa using k.take h
theorem Rel.frame {w w' : World} {S S' : SS} {μ : List Value} {H : List AObj} (hr : Rel w S μ H) (hr' : Rel w' S' [] []) (hs : Step 0 w S [] [] w' S' [] []) : Rel w' S' μ H ∧ Step H.length w S μ H w' S' μ H := by
 have hb := hs.below
 have hown : ∀ b,¬ zDf ([] : List Value) ([] : List AObj) b := by rintro b ⟨i,x,o,hi,_⟩;simp at hi
 have hext : Ext S μ S' μ := ⟨hs.still,fun i x hx=>⟨x,hx, .inl rfl⟩⟩
 refine ⟨⟨hr.len,hr'.still,hr.kinds,fun i x o hx ho=>?_,hr.sep,fun i x o b hx ho hk hbk j d hS=>?_⟩,⟨hs.os,hs.tape,hs.output,hs.size,fun b hb1 _=>hb.block b hb1,hs.still,fun i x _ hx=>⟨x,hx, .inl rfl⟩,fun b j d hS hb1=>?_,fun b h _=>h⟩⟩
 ·by_cases hk : o.k = 0
  ·exact objRep.zero hk
  ·exact (hr.objs i x o hx ho).move hext fun b hbk=>hb.block b (hr.own_lt hx ho hk hbk)
 ·rcases hs.old b j d hS (hr.own_lt hx ho hk hbk) with q|q
  ·exact hr.apart i x o b hx ho hk hbk j d q
  ·exact absurd q (hown b)
 ·rcases hs.old b j d hS hb1 with q|q
  ·exact .inl q
  ·exact absurd q (hown b)
theorem zhn {P : Program} {G : Gl} {f : FuncId} {args : List AV} {X : AV} (h : ACp P G f args X) (ha : args.all (ltT 0) = true) {w : World} {S : SS} {μ : List Value} {H : List AObj} {vs : List Value} (hr : Rel w S μ H) (hg : GOk G S) (hl : vs.length = args.length)
  (hv : ∀ (j : Nat) (d : AV) (v : Value),args[j]? = some d → vs[j]? = some v → rep S μ d v) :
  Calls P f vs.toArray w fun e w'=>∃ v S',e = .returned v ∧ Rel w' S' μ H ∧ rep S' μ X v ∧ Step H.length w S μ H w' S' μ H ∧ Below w.heap.size w w' := by
 have hr0 : Rel w S [] [] := ⟨rfl,hr.still,fun i x o hi=>by simp at hi,fun i x o hi=>by simp at hi,fun i i' x x' o o' b hi=>by simp at hi,fun i x o b hi=>by simp at hi⟩
 refine (h.2 w S [] vs hr0 hg hl fun j d v hd hvj=>(hv j d v hd hvj).none ((List.all_eq_true.1 ha) d (List.mem_of_getElem? hd))).mono ?_
 rintro e w' ⟨v,r,H',S',μ',he,⟨rfl,rfl⟩,hrel,hrep,hst⟩
 have hμ : μ' = [] := List.eq_nil_of_length_eq_zero hrel.len
 subst hμ
 obtain ⟨h1,h2⟩ := hr.frame hrel hst
 exact ⟨v,S',he,h1,hrep.free,h2,hst.below⟩
theorem AC.pure {P : Program} {G : Gl} {f : FuncId} {args : List AV} {X : AV} (h : ACp P G f args X) (ha : args.all (ltT 0) = true) (H : List AObj) : AC P G f args H fun r H'=>r = X ∧ H' = H := by
 refine ⟨h.1,fun w S μ vs hr hg hl hv=>?_⟩
 have hr0 : Rel w S [] [] := ⟨rfl,hr.still,fun i x o hi=>by simp at hi,fun i x o hi=>by simp at hi,fun i i' x x' o o' b hi=>by simp at hi,fun i x o b hi=>by simp at hi⟩
 refine (h.2 w S [] vs hr0 hg hl fun j d v hd hvj=>(hv j d v hd hvj).none ((List.all_eq_true.1 ha) d (List.mem_of_getElem? hd))).mono ?_
 rintro e w' ⟨v,r,H',S',μ',he,⟨rfl,rfl⟩,hrel,hrep,hst⟩
 have hμ : μ' = [] := List.eq_nil_of_length_eq_zero hrel.len
 subst hμ
 obtain ⟨h1,h2⟩ := hr.frame hrel hst
 exact ⟨v,r,H,S',μ,he,⟨rfl,rfl⟩,h1,hrep.free,h2⟩
end Go.Proofs.YtaplemeamcgpkaaDoor

namespace Go.Proofs.YtaplemeamcgpkaaDoor
open Go.RowKit
def z0z (P : Program) (t : TypeId) : Nat :=
 match P.underlying t,P.info? t with
 |some (.struct _),some i=>i.size + 2
 |some (.array _ _),some i=>i.size + 2
 |some _,some i=>if i.size = 1 then 1 else 0
 |_,_=>0
def zE7 (k : Nat) : Nat := if k = 1 then 1 else k - 2
section
variable {P : Program} {t : TypeId} (w : World)
theorem zbC (h : z0z P t ≠ 0) : ∃ d i,P.underlying t = some d ∧ P.info? t = some i := by
 unfold z0z at h
 cases hu : P.underlying t with
 |none=>rw [hu] at h;exact absurd rfl h
 |some d =>
  cases hi : P.info? t with
  |none=>rw [hu,hi] at h;cases d <;> exact absurd rfl h
  |some i=>exact ⟨d,i,rfl,rfl⟩
theorem z98 (h : z0z P t = 1) : (isAgg t).run P w = .ok false w ∧ (sizeOf t).run P w = .ok 1 w := by
 obtain ⟨d,i,hu,hi⟩ := zbC (P := P) (t := t) (by omega)
 unfold z0z at h
 rw [hu,hi] at h
 have h1 : i.size = 1 := by
  cases d <;> simp at h <;> first|omega|(split at h <;> first|assumption|omega)|skip
 have h2 : (isAgg t).run P w = .ok false w := by
  cases d <;> simp [isAgg,run_underlying hu] at h ⊢
 exact ⟨h2,by simp [sizeOf,typeInfo,hi,h1]⟩
theorem z9w {n : Nat} (h : z0z P t = n + 2) : (isAgg t).run P w = .ok true w ∧ (sizeOf t).run P w = .ok n w := by
 obtain ⟨d,i,hu,hi⟩ := zbC (P := P) (t := t) (by omega)
 unfold z0z at h
 rw [hu,hi] at h
 have h1 : i.size = n ∧ (isAgg t).run P w = .ok true w := by
  cases d <;> simp [isAgg,run_underlying hu] at h ⊢ <;> first|omega|(split at h <;> omega)|skip
 exact ⟨h1.2,by simp [sizeOf,typeInfo,hi,h1.1]⟩
theorem z7m (h : z0z P t ≠ 0) : (sizeOf t).run P w = .ok (zE7 (z0z P t)) w := by
 have : z0z P t = 1 ∨ ∃ n,z0z P t = n + 2 := by
  rcases hk : z0z P t with _|_|n
  ·exact absurd hk h
  ·exact .inl rfl
  ·exact .inr ⟨n,rfl⟩
 rcases this with h1|⟨n,h1⟩
 ·rw [h1];exact (z98 w h1).2
 ·rw [h1];simpa [zE7] using (z9w w h1).2
end
def zCU : AV → Bool|.nil=>false|.iface _ _=>false|_=>true
theorem zj3 {S : SS} {μ : List Value} {d : AV} {v : Value} (h : rep1 S μ d v) (hs : zCU d = true) : v.oneCell' = true := by
 match d,h with
 |.nil,_=>cases hs
 |.held (.inl u),h=>obtain ⟨rfl,h⟩ := h;exact h
 |.held (.inr (.inl (i,o))),h=>obtain ⟨b,x,_,_,rfl⟩ := h;rfl
 |.slice _ [.held (.inr (.inl (i,n)))],h=>obtain ⟨A,c,_,rfl,_⟩ := h;rfl
 |.slice _ [.held (.inl (.bool _))],h=>obtain ⟨A,rfl⟩ := h;rfl
 |.slice _ [.held (.inr (.inr (i,n)))],h=>obtain ⟨b,_,rfl⟩ := h;rfl
 |.held (.inr (.inr (i,n))),h =>
  obtain ⟨A,m,c,A',c',_,_,rfl,_⟩ := h;rfl
 |.slice caps [.held (.inl (.func fn _ _)), .held (.inr (.inl (q,_)))],h=>obtain ⟨us,rfl,_⟩ := h;rfl
 |.slice es [],h=>obtain ⟨A,c,rfl,_⟩ := h;rfl
 |.ptr d,h=>obtain ⟨b,o,rfl,_⟩ := h;rfl
def zEw (op : BinOp) (k : IntKind) (a : Int) (k' : IntKind) (b : Int) (K : AV → Prop) : Prop :=
 match op with
 |.add=>k = k' ∧ K (V (.int k (k.wrap (a + b))))
 |.sub=>k = k' ∧ K (V (.int k (k.wrap (a - b))))
 |.mul=>k = k' ∧ K (V (.int k (k.wrap (a * b))))
 |.quo=>k = k' ∧ b ≠ 0 ∧ K (V (.int k (k.wrap (a.tdiv b))))
 |.rem=>k = k' ∧ b ≠ 0 ∧ K (V (.int k (a.tmod b)))
 |.and=>k = k' ∧ K (V (.int k (bits .and k a b)))
 |.or=>k = k' ∧ K (V (.int k (bits .or k a b)))
 |.xor=>k = k' ∧ K (V (.int k (bits .xor k a b)))
 |.andNot=>k = k' ∧ K (V (.int k (bits .andNot k a b)))
 |.shl=>0 ≤ b ∧ K (V (.int k (k.wrap (a * 2 ^ (min b.toNat k.bits)))))
 |.shr=>0 ≤ b ∧ K (V (.int k (a.fdiv (2 ^ (min b.toNat k.bits)))))
 |.eql=>k = k' ∧ K (V (.bool (a == b)))
 |.neq=>k = k' ∧ K (V (.bool (a != b)))
 |.lss=>k = k' ∧ K (V (.bool (decide (a < b))))
 |.leq=>k = k' ∧ K (V (.bool (decide (a ≤ b))))
 |.gtr=>k = k' ∧ K (V (.bool (decide (a > b))))
 |.geq=>k = k' ∧ K (V (.bool (decide (a ≥ b))))
def zFF (op : BinOp) (a b : ByteArray) (K : AV → Prop) : Prop :=
 match op with
 |.add=>((a.size + b.size : Nat) : Int) ≤ 9223372036854775807 ∧ K (V (.string (a ++ b)))
 |.eql=>K (V (.bool (a.toList == b.toList)))
 |.neq=>K (V (.bool (!(a.toList == b.toList))))
 |.lss=>K (V (.bool (Op.bytesLess a.toList b.toList)))
 |.leq=>K (V (.bool (Op.bytesLess a.toList b.toList || a.toList == b.toList)))
 |.gtr=>K (V (.bool (!(Op.bytesLess a.toList b.toList || a.toList == b.toList))))
 |.geq=>K (V (.bool (!Op.bytesLess a.toList b.toList)))
 |_=>False
def zzv (P : Program) (t : TypeId) (op : BinOp) (us vs : List Value) (b : Bool) : Prop :=
 ∀ (ox oy : Operand) (w : World),(do eqGuard op t ox oy (.agg us.toArray) (.agg vs.toArray);binOp op t (.agg us.toArray) (.agg vs.toArray) : Sem Value).run P w = .ok (.bool b) w
theorem z6L {S : SS} {μ : List Value} {us us' : List Value} (h : reps S μ (us.map fun u=>V u) us') : us' = us := by
 refine List.ext_getElem? fun j=>?_
 by_cases hj : j < us.length
 ·have hj' : j < us'.length := by rw [h.1];simpa using hj
  have := (h.2 j (V us[j]) us'[j] (by simp [List.getElem?_eq_getElem hj]) (List.getElem?_eq_getElem hj')).2
  rw [List.getElem?_eq_getElem hj,List.getElem?_eq_getElem hj',this.1]
 ·rw [List.getElem?_eq_none (by have := h.1;simp at this;omega),List.getElem?_eq_none (by omega)]
def zF5 (P : Program) (t : TypeId) (op : BinOp) (x y : AV) (K : AV → Prop) : Prop :=
 match x,y with
 |.agg xs, .agg ys=>∃ us vs b,xs = us.map (fun u=>V u) ∧ ys = vs.map (fun u=>V u) ∧ zzv P t op us vs b ∧ K (V (.bool b))
 |.held (.inl (.int k a)), .held (.inl (.int k' b))=>zEw op k a k' b K
 |.held (.inl (.string a)), .held (.inl (.string b))=>zFF op a b K
 |.held (.inl (.bool a)), .held (.inl (.bool b))=>P.underlying t = some .bool ∧ (match op with|.eql=>K (V (.bool (a == b)))|.neq=>K (V (.bool (!(a == b))))|_=>False)
 |.slice (_ :: _) [], .held (.inl (.slice none 0 0))=>(∃ e,P.underlying t = some (.slice e)) ∧ (match op with|.eql=>K (V (.bool false))|.neq=>K (V (.bool true))|_=>False)
 |.held (.inr (.inl _)), .held (.inl (.pointer none))=>P.underlying t = some (.pointer (P.pointee t)) ∧ (match op with|.eql=>K (V (.bool false))|.neq=>K (V (.bool true))|_=>False)
 |.held (.inl (.pointer none)), .held (.inl (.pointer none))=>P.underlying t = some (.pointer (P.pointee t)) ∧ (match op with|.eql=>K (V (.bool true))|.neq=>K (V (.bool false))|_=>False)
 |_,_=>False
theorem zsR {P : Program} {op : BinOp} {k k' : IntKind} {a b : Int} {K : AV → Prop} (h : zEw op k a k' b K) (t : TypeId) (x y : Operand) (w : World) :
  ∃ u,(do eqGuard op t x y (.int k a) (.int k' b);binOp op t (.int k a) (.int k' b) : Sem Value).run P w = .ok u w ∧ u.oneCell' = true ∧ K (V u) := by
 rw [eqGuard_at_int]
 simp only [Sem.run_bind,Sem.run_pure,Result.andThen_ok]
 cases op <;> simp only [zEw] at h
 case shl =>
  refine ⟨_,?_,rfl,h.2⟩
  rw [binOp_shl,Op.shift]
  simp [show ¬ b < 0 by omega,Sem.run_pure]
 case shr =>
  refine ⟨_,?_,rfl,h.2⟩
  rw [binOp_shr,Op.shift]
  simp [show ¬ b < 0 by omega,Sem.run_pure]
 all_goals obtain ⟨rfl,h⟩ := h
 case quo=>exact ⟨_,by rw [binOp_quo,Op.intDiv,if_neg h.1];rfl,rfl,h.2⟩
 case rem=>exact ⟨_,by rw [binOp_rem,Op.intDiv,if_neg h.1];rfl,rfl,h.2⟩
 all_goals exact ⟨_,by simp only [binOp_add,binOp_sub,binOp_mul,binOp_and,binOp_or,binOp_xor,binOp_andNot,binOp_eql,binOp_neq,binOp_lss,binOp_leq,binOp_gtr,binOp_geq,intBits_and,intBits_or,intBits_xor,intBits_andNot,Op.intArith,Sem.run_pure],rfl,h⟩
theorem zqL {P : Program} {op : BinOp} {a b : ByteArray} {K : AV → Prop} (h : zFF op a b K) (t : TypeId) (x y : Operand) (w : World) :
  ∃ u,(do eqGuard op t x y (.string a) (.string b);binOp op t (.string a) (.string b) : Sem Value).run P w = .ok u w ∧ u.oneCell' = true ∧ K (V u) := by
 rw [eqGuard_at_string]
 simp only [Sem.run_bind,Sem.run_pure,Result.andThen_ok]
 cases op <;> simp only [zFF] at h
 case add =>
  refine ⟨_,?_,rfl,h.2⟩
  have hm : ¬ ((a.size + b.size : Nat) : Int) > IntKind.i64.max := by
   have : IntKind.i64.max = 9223372036854775807 := by decide
   rw [this];omega
  simp only [binOp,Op.stringOp,if_neg hm,Sem.run_pure]
 all_goals exact ⟨_,by simp only [binOp,Op.stringOp,Sem.run_pure],rfl,h⟩
theorem zsE {P : Program} {t : TypeId} {op : BinOp} {x y : AV} {K : AV → Prop} (h : zF5 P t op x y K) {S : SS} {μ : List Value} {u v : Value} (hx : rep S μ x u) (hy : rep S μ y v) (ox oy : Operand) (w : World) :
  ∃ r,(do eqGuard op t ox oy u v;binOp op t u v : Sem Value).run P w = .ok r w ∧ r.oneCell' = true ∧ K (V r) := by
 unfold zF5 at h
 split at h
 ·obtain ⟨us,vs,b,rfl,rfl,he,hK⟩ := h
  obtain ⟨us',rfl,h1⟩ := hx;obtain ⟨vs',rfl,h2⟩ := hy
  rw [z6L h1,z6L h2]
  exact ⟨_,he ox oy w,rfl,hK⟩
 ·obtain ⟨rfl,_⟩ := hx;obtain ⟨rfl,_⟩ := hy
  exact zsR h t ox oy w
 ·obtain ⟨rfl,_⟩ := hx;obtain ⟨rfl,_⟩ := hy
  exact zqL h t ox oy w
 ·obtain ⟨rfl,_⟩ := hx;obtain ⟨rfl,_⟩ := hy
  obtain ⟨hu,h⟩ := h
  rw [eqGuard_at_bool]
  simp only [Sem.run_bind,Sem.run_pure,Result.andThen_ok]
  cases op <;> simp only at h
  case eql=>exact ⟨_,run_eql_bool w t _ _ hu,rfl,h⟩
  case neq=>exact ⟨_,run_neq_bool w t _ _ hu,rfl,h⟩
 ·obtain ⟨A,c,rfl,_,_,hA⟩ := hx
  obtain ⟨b,o,z,rfl,_⟩ := hA (by simp)
  obtain ⟨rfl,_⟩ := hy
  obtain ⟨⟨e,hu⟩,h⟩ := h
  rw [eqGuard_at_slice]
  simp only [Sem.run_bind,Sem.run_pure,Result.andThen_ok]
  have q : ∀ n,(Op.equal t (.slice (some ⟨b,o,none⟩) n c) (.slice none 0 0)).run P w = .ok false w := fun n=>run_equal_slice_nil (P := P) w t e (some ⟨b,o,none⟩) n c hu
  cases op <;> simp only at h
  case eql=>exact ⟨.bool false,by simp only [binOp];rw [Sem.run_bind,q];rfl,rfl,h⟩
  case neq=>exact ⟨.bool true,by simp only [binOp];rw [Sem.run_bind,q];rfl,rfl,h⟩
 ·obtain ⟨b,x',_,_,rfl⟩ := hx
  obtain ⟨rfl,_⟩ := hy
  obtain ⟨hu,h⟩ := h
  rw [eqGuard_at_pointer]
  simp only [Sem.run_bind,Sem.run_pure,Result.andThen_ok]
  have q := fun p=>run_equal_pointer_nil (P := P) w t p hu
  cases op <;> simp only at h
  case eql=>exact ⟨.bool false,by simp only [binOp];rw [Sem.run_bind,q];rfl,rfl,h⟩
  case neq=>exact ⟨.bool true,by simp only [binOp];rw [Sem.run_bind,q];rfl,rfl,h⟩
 ·obtain ⟨rfl,_⟩ := hx
  obtain ⟨rfl,_⟩ := hy
  obtain ⟨hu,h⟩ := h
  rw [eqGuard_at_pointer]
  simp only [Sem.run_bind,Sem.run_pure,Result.andThen_ok]
  have q := fun p=>run_equal_pointer_nil (P := P) w t p hu
  cases op <;> simp only at h
  case eql=>exact ⟨.bool true,by simp only [binOp];rw [Sem.run_bind,q];rfl,rfl,h⟩
  case neq=>exact ⟨.bool false,by simp only [binOp];rw [Sem.run_bind,q];rfl,rfl,h⟩
 ·exact h.elim
def aUn (op : UnOp) (x : AV) (K : AV → Prop) : Prop :=
 match op,x with
 |.not, .held (.inl (.bool b))=>K (V (.bool (!b)))
 |.neg, .held (.inl (.int k n))=>K (V (.int k (k.wrap (0 - n))))
 |.xor, .held (.inl (.int k n))=>K (V (.int k (bits .xor k (if k.signed then -1 else k.max) n)))
 |_,_=>False
theorem zwT {P : Program} {op : UnOp} {x : AV} {K : AV → Prop} (h : aUn op x K) {S : SS} {μ : List Value} {u : Value} (hx : rep S μ x u) (w : World) :
  ∃ r,(Op.unary op u).run P w = .ok r w ∧ r.oneCell' = true ∧ K (V r) := by
 unfold aUn at h
 split at h
 ·obtain ⟨rfl,_⟩ := hx;exact ⟨_,rfl,rfl,h⟩
 ·obtain ⟨rfl,_⟩ := hx;exact ⟨_,rfl,rfl,h⟩
 ·obtain ⟨rfl,_⟩ := hx;exact ⟨_,by simp only [Op.unary,intBits_xor,Sem.run_pure],rfl,h⟩
 ·exact h.elim
def nth (l : List AV) (i : Nat) (K : AV → Prop) : Prop := ∃ d,l[i]? = some d ∧ K d
def zEG (H : List AObj) (i : Nat) (K : AObj → Prop) : Prop := ∃ o,H[i]? = some o ∧ K o
def z0Y (k : Nat) (l : List AV) (o : Nat) (K : AV → Prop) : Prop :=
 if k = 1 then nth l o K else 2 ≤ k ∧ o + (k - 2) ≤ l.length ∧ K (.agg ((l.drop o).take (k - 2)))
def z7M (ob : AObj) (K : List AV → Prop) : Prop := match ob.k with
 |1=>K ob.c
 |4=>0 < ob.c.length ∧ K (zE2 ob.c)
 |_=>False
theorem zhU {ob : AObj} {K : List AV → Prop} (h : z7M ob K) : ∃ l,((ob.k = 1 ∧ l = ob.c) ∨ (ob.k = 4 ∧ 0 < ob.c.length ∧ l = zE2 ob.c)) ∧ K l := by
 unfold z7M at h
 split at h
 ·rename_i e;exact ⟨_, .inl ⟨e,rfl⟩,h⟩
 ·rename_i e;exact ⟨_, .inr ⟨e,h.1,rfl⟩,h.2⟩
 ·exact h.elim
theorem z9x {ob : AObj} {K K' : List AV → Prop} (h : z7M ob K) (q : ∀ l,K l → K' l) : z7M ob K' := by
 unfold z7M at h ⊢
 split at h
 ·exact q _ h
 ·exact ⟨h.1,q _ h.2⟩
 ·exact h.elim
def z67 (k : Nat) (H : List AObj) (a : AV) (K : AV → Prop) : Prop :=
 match a with
 |.ptr (.agg cs)=>k = cs.length + 2 ∧ K (.agg cs)
 |.ptr d=>k = 1 ∧ K d
 |.held (.inr (.inl (i,o)))=>zEG H i fun ob=>z7M ob fun l=>z0Y k l o K
 |_=>False
def z0e {α : Type} : List α → Nat → List α → List α
 |l,_,[]=>l
 |l,o,x :: xs=>z0e (l.set o x) (o + 1) xs
def zFN (ob : AObj) (k o : Nat) (x : AV) (K : AObj → Prop) : Prop := k ≠ 0 ∧ (cellsOf x).length = zE7 k ∧ (cellsOf x).all zCU = true ∧ (match ob.k with
 |1=>o + zE7 k ≤ ob.c.length ∧ K { ob with c := z0e ob.c o (cellsOf x) }
 |4=>0 < ob.z ∧ zE7 k = ob.z ∧ o % ob.z = 0 ∧ o / ob.z < ob.c.length ∧ K { ob with c := ob.c.set (o / ob.z) x }
 |_=>False)
theorem zdy {ob : AObj} {k o : Nat} {x : AV} {K K' : AObj → Prop} (h : zFN ob k o x K) (q : ∀ l,K l → K' l) : zFN ob k o x K' := by
 obtain ⟨h1,h2,h3,h⟩ := h
 refine ⟨h1,h2,h3,?_⟩
 split at h
 ·exact ⟨h.1,q _ h.2⟩
 ·exact ⟨h.1,h.2.1,h.2.2.1,h.2.2.2.1,q _ h.2.2.2.2⟩
 ·exact h.elim
def z5M (k : Nat) (H : List AObj) (a x : AV) (K : List AObj → Prop) : Prop :=
 match a with
 |.held (.inr (.inl (i,o)))=>zEG H i fun ob=>zFN ob k o x fun ob'=>K (H.set i ob')
 |_=>False
def z7r (P : Program) (t : TypeId) : Option (List AV) :=
 match (P.info? t).map (·.zero) with
 |some (some z)=>if z.cells.all (·.oneCell') then some (z.cells.toList.map fun u=>V u) else none
 |_=>none
def z20 (P : Program) (s : TypeId) (f : Nat) : Option (Nat × Nat) :=
 match P.underlying s with
 |some (.struct fs)=>match fs[f]? with
  |some fd=>if z0z P fd.type = 0 ∨ zE7 (z0z P fd.type) = 0 then none else some (fd.offset,z0z P fd.type)
  |none=>none
 |_=>none
def z6u (fk : Option (Nat × Nat)) (a : AV) (K : AV → Prop) : Prop :=
 match fk with
 |some (off,k)=>match a with
  |.ptr (.agg cs)=>z0Y k cs off fun d=>K (.ptr d)
  |.held (.inr (.inl (i,o)))=>K (OP i (o + off))
  |_=>False
 |none=>False
def z3D (fk : Option (Nat × Nat)) (a : AV) (K : AV → Prop) : Prop :=
 match fk with
 |some (off,k)=>match a with
  |.agg cs=>z0Y k cs off K
  |_=>False
 |none=>False
def z1Y (P : Program) (t : TypeId) : Option (TypeId × Nat) :=
 match P.underlying t with
 |some (.slice e)=>if z0z P e = 0 ∨ zE7 (z0z P e) = 0 then none else some (e,z0z P e)
 |_=>none
def z4m (P : Program) (t : TypeId) : Option (Nat × Nat) :=
 match P.underlying t with
 |some (.array n e)=>if z0z P e = 0 ∨ zE7 (z0z P e) = 0 then none else some (n,z0z P e)
 |_=>none
def z1d (H : List AObj) (x : AV) (K : List AV → Prop) : Prop :=
 match x with
 |.slice es []=>K es
 |.held (.inr (.inr (i,n)))=>zEG H i fun o=>o.k = 2 ∧ n = o.c.length ∧ K o.c
 |.held (.inl (.slice none 0 0))=>K []
 |.slice _ [.held (.inl (.bool _))]=>K []
 |_=>False
def z3E (ek : Nat) (H : List AObj) (x ix : AV) (K : AV → Prop) : Prop :=
 match ix with
 |.held (.inl (.int k i))=>0 ≤ i ∧ (match x with
  |.slice _ [.held (.inr (.inl (q,n)))]=>i < n ∧ zEG H q fun ob=>ob.k = 4 ∧ ob.z = zE7 ek ∧ n = ob.c.length ∧ K (OP q (i.toNat * zE7 ek))
  |x=>z1d H x fun es=>nth es i.toNat fun d=>(cellsOf d).length = zE7 ek ∧ K (.ptr d))
 |_=>False
def loud : Op → Bool
 |.alloc _|.box ..|.store ..|.makeFunc ..|.mapUpdate ..|.makeMap ..=>true
 |.call { callee := .builtin .len, .. }=>false
 |.call _=>true
 |_=>false
def z1u (w : World) (S : SS) (μ : List Value) (H : List AObj) (a : Act) (o : Oper) (K : AV → List AObj → Prop) (a' : Act) (w' : World) : Prop :=
 ∃ d u H' S' μ',K d H' ∧ a' = a.put o.dst u ∧ rep S' μ' d u ∧ Rel w' S' μ' H' ∧ Step H.length w S μ H w' S' μ' H' ∧ (loud o.op = false → Below w.heap.size w w' ∧ μ' = μ ∧ H' = H ∧ ∀ b j d,S' b j d → S b j d ∨ w.heap.size ≤ b)
section ops
variable {P : Program} {G : Gl} {w : World} {S : SS} {μ : List Value} {H : List AObj} {a : Act} {o : Oper} {K : AV → List AObj → Prop} {Q : Exit → Act → World → Prop}
theorem z1w {d : AV} {u : Value} (hrel : Rel w S μ H) (hrun : (execOp a.eval o).run P w = .ok (.value u) w) (hK : K d H) (hr : rep S μ d u) : o.wp P a w (z1u w S μ H a o K) Q := by
 unfold Oper.wp
 rw [hrun]
 exact ⟨d,u,H,S,μ,hK,rfl,hr,hrel,Step.refl _ _ _ _ _,fun _=>⟨Below.refl _ _,rfl,rfl,fun _ _ _ h=>.inl h⟩⟩
theorem zpy {x : Operand} {d : AV} (hrel : Rel w S μ H) (ho : o.op = .move x ∨ o.op = .assign x) (hx : rep S μ d (a.eval x)) (hK : K d H) : o.wp P a w (z1u w S μ H a o K) Q := by
 refine z1w hrel ?_ hK hx
 rcases ho with ho|ho <;> (unfold execOp;rw [ho];rfl)
theorem zyO {op : BinOp} {t t' : TypeId} {x y : Operand} {d e : AV} (hrel : Rel w S μ H) (ho : o.op = .binOp op t x y t') (hx : rep S μ d (a.eval x)) (hy : rep S μ e (a.eval y)) (h : zF5 P t op d e fun r=>K r H) :
  o.wp P a w (z1u w S μ H a o K) Q := by
 obtain ⟨r,hrun,h1,hK⟩ := zsE h hx hy x y w
 refine z1w hrel ?_ hK (zjI h1)
 unfold execOp
 rw [ho]
 simp only [Sem.run_bind,hrun,Result.andThen_ok,Sem.run_pure]
theorem zC3 {op : UnOp} {t : TypeId} {x : Operand} {d : AV} (hrel : Rel w S μ H) (ho : o.op = .unOp op t x) (hx : rep S μ d (a.eval x)) (h : aUn op d fun r=>K r H) :
  o.wp P a w (z1u w S μ H a o K) Q := by
 obtain ⟨r,hrun,h1,hK⟩ := zwT (P := P) h hx w
 refine z1w hrel ?_ hK (zjI h1)
 unfold execOp
 rw [ho]
 simp only [Sem.run_bind,hrun,Result.andThen_ok,Sem.run_pure]
def zdk (c x y : AV) (K : AV → Prop) : Prop := match c with
 |.held (.inl (.bool b))=>K (if b then x else y)
 |_=>False
theorem ztc {c x y : Operand} {dc dx dy : AV} (hrel : Rel w S μ H) (ho : o.op = .pick c x y) (hc : rep S μ dc (a.eval c)) (hx : rep S μ dx (a.eval x)) (hy : rep S μ dy (a.eval y)) (h : zdk dc dx dy fun r=>K r H) :
  o.wp P a w (z1u w S μ H a o K) Q := by
 unfold zdk at h
 split at h
 ·rename_i b
  obtain ⟨he,_⟩ := hc
  refine z1w (u := if b then a.eval x else a.eval y) hrel ?_ h ?_
  ·unfold execOp
   rw [ho]
   simp only [he,asBool,Sem.run_bind,Result.andThen_ok,Sem.run_pure]
  ·cases b
   ·exact hy
   ·exact hx
 ·exact h.elim
def z1Z (x : AV) (i : Nat) (K : AV → Prop) : Prop := match x with
 |.iface _ (.agg ds)=>nth ds i K
 |_=>False
theorem z2T {d : AV} {u : Value} (h : repA S μ d u) : rep S μ d u := by
 unfold rep
 split
 ·unfold repA at h;simp only at h;exact h.elim
 ·exact h
theorem zle {x : Operand} {i : Nat} {d : AV} (hrel : Rel w S μ H) (ho : o.op = .extract x i) (hx : rep S μ d (a.eval x)) (h : z1Z d i fun r=>K r H) : o.wp P a w (z1u w S μ H a o K) Q := by
 unfold z1Z at h
 split at h
 ·obtain ⟨e,he,hK⟩ := h
  obtain ⟨us,hu,hl,hr⟩ := hx
  have hlt : i < us.length := by rw [hl];exact (List.getElem?_eq_some_iff.1 he).1
  refine z1w (u := us[i]) hrel ?_ hK (z2T (hr i e us[i] he (List.getElem?_eq_getElem hlt)))
  unfold execOp
  rw [ho]
  simp only [Instr.extract,hu]
  simp [hlt,Sem.run_pure]
 ·exact h.elim
theorem z9C (hrel : Rel w S μ H) {b o : Nat} {cs : List AV} (h : ∀ (j : Nat) (y : AV),cs[j]? = some y → S b (o + j) y) :
  ∃ us : List Value,reps S [] cs us ∧ ∀ j v,us[j]? = some v → w.cell? ((⟨b,o,none⟩ : Addr).add j) = some v := by
 refine ⟨(List.range cs.length).map fun j=>(w.cell? ⟨b,o + j,none⟩).getD undef,⟨by simp,fun j d u hd hu=>?_⟩,fun j v hv=>?_⟩
 ·obtain ⟨u',h1,h2,h3⟩ := hrel.still _ _ _ (h j d hd)
  rw [List.getElem?_map,List.getElem?_range (List.getElem?_eq_some_iff.1 hd).1] at hu
  simp only [Option.map_some,Option.some.injEq,h1,Option.getD_some] at hu
  subst hu
  exact ⟨h2,h3⟩
 ·rw [List.getElem?_map] at hv
  have hj : j < cs.length := by
   rcases Nat.lt_or_ge j cs.length with h|h
   ·exact h
   ·rw [List.getElem?_eq_none (by simpa using h)] at hv;cases hv
  rw [List.getElem?_range hj] at hv
  obtain ⟨u',h1,h2,h3⟩ := hrel.still _ _ _ (h j cs[j] (List.getElem?_eq_getElem hj))
  simp only [Option.map_some,Option.some.injEq,h1,Option.getD_some] at hv
  subst hv
  rw [Addr.add_lit];exact h1
theorem z6g {d : AV} (h : ∀ cs,d ≠ DataW.agg cs) : cellsOf d = [d] := by
 cases d <;> first|rfl|exact absurd rfl (h _)
theorem zij {S : SS} {μ : List Value} {l : List AV} {us : List Value} {b : Nat} {cs : Array Value} {e : TypeId} (hb : w.heap[b]? = some (.cells cs e (0,0))) (hus : ∀ (j : Nat) (u : Value),us[j]? = some u → cs[j]? = some u) (hr : reps S μ l us) {k o : Nat} {K : AV → Prop} (h : z0Y k l o K) {t : TypeId} (hk : z0z P t = k) :
  ∃ d u,K d ∧ rep S μ d u ∧ (loadVar t ⟨b,o,none⟩).run P w = .ok u w := by
 unfold z0Y at h
 split at h
 ·rename_i h1
  obtain ⟨d,hd,hK⟩ := h
  have hlt : o < us.length := by rw [hr.1];exact (List.getElem?_eq_some_iff.1 hd).1
  have hh := hr.2 o d _ hd (List.getElem?_eq_getElem hlt)
  refine ⟨d,us[o],hK,z2T ?_,?_⟩
  ·unfold repA
   split
   ·exact hh.2.elim
   ·exact hh.2
  ·have := (z98 (P := P) (t := t) w (by rw [hk];exact h1)).1
   simp only [loadVar,Sem.run_bind,this,Result.andThen_ok]
   have hc : w.cell? ⟨b,o,none⟩ = some us[o] := by rw [cell_of_row w b o cs e (0,0) hb];exact hus o _ (List.getElem?_eq_getElem hlt)
   simp [load,Sem.run,hc]
 ·rename_i h1
  obtain ⟨h2,h3,hK⟩ := h
  obtain ⟨n,rfl⟩ : ∃ n,k = n + 2 := ⟨k - 2,by omega⟩
  simp only [Nat.add_sub_cancel] at h3 hK
  have hsz : (((us.drop o).take n)).length = n := by rw [List.length_take,List.length_drop,hr.1];omega
  refine ⟨_, .agg ((us.drop o).take n).toArray,hK,⟨_,rfl,by rw [hsz,List.length_take,List.length_drop];omega,fun j d u hd hu=>?_⟩,?_⟩
  ·rw [List.getElem?_take] at hd hu
   split at hd
   ·rw [if_pos (by assumption)] at hu
    rw [List.getElem?_drop] at hd hu
    exact hr.2 _ d u hd hu
   ·cases hd
  ·have hg := z9w (P := P) (t := t) w hk
   have hl := run_loadCells_list (P := P) w ⟨b,o,none⟩ ((us.drop o).take n) (fun j v hv=>by
    rw [Addr.add_lit,cell_of_row w b (o + j) cs e (0,0) hb]
    rw [List.getElem?_take] at hv
    split at hv
    ·rw [List.getElem?_drop] at hv;exact hus _ _ hv
    ·cases hv)
   rw [hsz] at hl
   simp only [loadVar,Sem.run_bind,hg.1,hg.2,Result.andThen_ok,hl,if_true,Sem.run_pure]
theorem zua {S : SS} {μ : List Value} {H : List AObj} (hrel : Rel w S μ H) {i b : Nat} {x : Value} {ob : AObj} (hx : μ[i]? = some x) (ho : H[i]? = some ob) (hp : zsc x = some b) {l : List AV} (hl : (ob.k = 1 ∧ l = ob.c) ∨ (ob.k = 4 ∧ 0 < ob.c.length ∧ l = zE2 ob.c)) :
  ∃ cs us,w.heap[b]? = some (.cells cs ob.e (0,0)) ∧ reps S μ l us ∧ ∀ (j : Nat) (u : Value),us[j]? = some u → cs[j]? = some u := by
 rcases hl with ⟨hk,rfl⟩|⟨hk,h0,rfl⟩
 ·obtain ⟨b',cs,e1,hc,hr⟩ := (hrel.objs i x ob hx ho).1 hk
  subst e1
  simp only [zsc,Option.some.injEq] at hp
  subst hp
  exact ⟨cs,cs.toList,hc,hr,fun j u hu=>by simpa using hu⟩
 ·obtain ⟨A,c,e1,l1,l2,l3,hc⟩ := (hrel.objs i x ob hx ho).2.2.1 hk
  obtain ⟨b',cs,q1,q2,q3,q4⟩ := hc (by omega)
  subst e1 q1
  simp only [zsc,Option.some.injEq] at hp
  subst hp
  refine ⟨cs,_,q2,q4,fun j u hu=>?_⟩
  rw [List.getElem?_take] at hu
  split at hu
  ·simpa using hu
  ·cases hu
theorem zuD {t : TypeId} {x : Operand} {d : AV} (hrel : Rel w S μ H) (ho : o.op = .load t x) (hx : rep S μ d (a.eval x)) (h : z67 (z0z P t) H d fun r=>K r H) : o.wp P a w (z1u w S μ H a o K) Q := by
 have hex : ∀ ad : Addr,a.eval x = .pointer (some ad) → ∀ u,(loadVar t ad).run P w = .ok u w → (execOp a.eval o).run P w = .ok (.value u) w := by
  intro ad he u hl
  unfold execOp
  rw [ho]
  simp only [Instr.loadAt,he,Instr.sureAddr,Sem.run_bind,Sem.run_pure,Result.andThen_ok,hl]
 unfold z67 at h
 split at h
 ·rename_i cs
  obtain ⟨hk,hK⟩ := h
  obtain ⟨b,off,he,hs⟩ := hx
  obtain ⟨us,hr,hc⟩ := z9C hrel (cs := cs) hs
  have hg := z9w (P := P) (t := t) w hk
  have hl := run_loadCells_list (P := P) w ⟨b,off,none⟩ us hc
  refine z1w hrel (hex _ he (.agg us.toArray) ?_) hK ⟨us,rfl,hr.free⟩
  simp only [loadVar,Sem.run_bind,hg.1,hg.2,Result.andThen_ok,← hr.1,hl,if_true,Sem.run_pure]
 ·rename_i d hne
  obtain ⟨hk,hK⟩ := h
  obtain ⟨b,off,he,hs⟩ := hx
  rw [z6g hne] at hs
  obtain ⟨u,h1,h2,h3⟩ := hrel.still _ _ _ (hs 0 d rfl)
  refine z1w hrel (hex _ he u ?_) hK (z2T ?_)
  ·have := (z98 (P := P) (t := t) w hk).1
   simp only [loadVar,Sem.run_bind,this,Result.andThen_ok]
   simp only [Nat.add_zero] at h1
   simp [load,Sem.run,h1]
  ·unfold repA
   split
   ·exact absurd rfl (hne _)
   ·exact h3.free
 ·rename_i i off
  obtain ⟨ob,hob,h⟩ := h
  obtain ⟨l,hl,hK⟩ := zhU h
  obtain ⟨b,x',hμ,hp,he⟩ := hx
  obtain ⟨cs,us,hc,hr,hus⟩ := zua hrel hμ hob hp hl
  obtain ⟨d,u,hK',hru,hrun⟩ := zij hc hus hr hK rfl
  exact z1w hrel (hex _ he u hrun) hK' hru
 ·exact h.elim
end ops
end Go.Proofs.YtaplemeamcgpkaaDoor

namespace Go.Proofs.YtaplemeamcgpkaaDoor
open Go.RowKit
section
variable {P : Program} {G : Gl} {w : World} {S : SS} {μ : List Value} {H : List AObj} {a : Act} {o : Oper} {K : AV → List AObj → Prop} {Q : Exit → Act → World → Prop}
theorem Rel.still_lt (hr : Rel w S μ H) {b j : Nat} {d : AV} (h : S b j d) : b < w.heap.size := by
 obtain ⟨u,hu,_⟩ := hr.still b j d h
 exact World.block_lt_of_cell? w _ hu
theorem Rel.grow {w' : World} {S' : SS} (hr : Rel w S μ H) (hb : Below w.heap.size w w') (h1 : ∀ b j d,S b j d → S' b j d) (h2 : ∀ b j d,S' b j d → S b j d ∨ w.heap.size ≤ b)
  (h3 : ∀ b j d,S' b j d → w.heap.size ≤ b → ∃ u,w'.cell? ⟨b,j,none⟩ = some u ∧ u.oneCell' = true ∧ rep1 S' [] d u) : Rel w' S' μ H ∧ Step H.length w S μ H w' S' μ H := by
 have he : Ext S μ S' μ := ⟨h1,fun i x hx=>⟨x,hx, .inl rfl⟩⟩
 have he0 : Ext S [] S' [] := ⟨h1,fun i x hx=>by simp at hx⟩
 refine ⟨⟨hr.len,fun b j d hs=>?_,hr.kinds,fun i x o hx ho=>?_,hr.sep,fun i x o b hx ho hk hbk j d hs=>?_⟩,⟨hb.os,hb.tape,hb.output,hb.size,fun b hlt _=>hb.block b hlt,h1,fun i x _ hx=>⟨x,hx, .inl rfl⟩,fun b j d hs hlt=>?_,fun b h _=>h⟩⟩
 ·rcases h2 b j d hs with q|q
  ·obtain ⟨u,hu,h4,h5⟩ := hr.still b j d q
   exact ⟨u,by rw [hb.cell (p := ⟨b,j,none⟩) (hr.still_lt q)];exact hu,h4,h5.ext he0⟩
  ·exact h3 b j d hs q
 ·by_cases hk : o.k = 0
  ·exact objRep.zero hk
  ·exact (hr.objs i x o hx ho).move he fun b hbk=>hb.block b (hr.own_lt hx ho hk hbk)
 ·rcases h2 b j d hs with q|q
  ·exact hr.apart i x o b hx ho hk hbk j d q
  ·have := hr.own_lt hx ho hk hbk;omega
 ·rcases h2 b j d hs with q|q
  ·exact .inl q
  ·omega
theorem z9A {α : Type} (l : List α) (x : α) (i : Nat) (y : α) (h : (l ++ [x])[i]? = some y) : l[i]? = some y ∨ (i = l.length ∧ y = x) := by
 rcases Nat.lt_or_ge i l.length with hi|hi
 ·rw [List.getElem?_append_left hi] at h;exact .inl h
 ·rw [List.getElem?_append_right hi] at h
  rcases Nat.eq_zero_or_pos (i - l.length) with h0|h0
  ·rw [h0] at h;simp at h;exact .inr ⟨by omega,h.symm⟩
  ·rw [List.getElem?_eq_none (by simp;omega)] at h;cases h
theorem zqr {α : Type} (l : List α) (x : α) (i : Nat) (y : α) (h : l[i]? = some y) : (l ++ [x])[i]? = some y := by
 rw [List.getElem?_append_left (List.getElem?_eq_some_iff.1 h).1];exact h
theorem ziK (S : SS) (μ : List Value) (x : Value) : Ext S μ S (μ ++ [x]) := ⟨fun _ _ _ h=>h,fun i y hy=>⟨y,zqr _ _ _ _ hy, .inl rfl⟩⟩
theorem Rel.add (hr : Rel w S μ H) {x : Value} {o : AObj} (hk : o.k = 0 ∨ o.k = 1 ∨ o.k = 2 ∨ o.k = 4 ∨ o.k = 5) (ho : objRep w S (μ ++ [x]) x o) (hb : ∀ b,z2I x = some b → ¬ zDf μ H b ∧ ∀ j d,S b j d → o.k = 2 ∧ j < o.c.length * o.z) : Rel w S (μ ++ [x]) (H ++ [o]) := by
 have he := ziK S μ x
 have hgo : ∀ (i : Nat) (x' : Value) (o' : AObj),(μ ++ [x])[i]? = some x' → (H ++ [o])[i]? = some o' → (μ[i]? = some x' ∧ H[i]? = some o') ∨ (i = μ.length ∧ x' = x ∧ o' = o) := by
  intro i x' o' hx' ho'
  rcases z9A _ _ _ _ hx' with q|⟨q,rfl⟩
  ·rcases z9A _ _ _ _ ho' with q'|⟨q',rfl⟩
   ·exact .inl ⟨q,q'⟩
   ·have := (List.getElem?_eq_some_iff.1 q).1;rw [hr.len] at this;omega
  ·rcases z9A _ _ _ _ ho' with q'|⟨q',rfl⟩
   ·have := (List.getElem?_eq_some_iff.1 q').1;rw [← hr.len] at this;omega
   ·exact .inr ⟨q,rfl,rfl⟩
 refine ⟨by simp [hr.len],hr.still,fun i x' o' hx' ho'=>?_,fun i x' o' hx' ho'=>?_,fun i i' x1 x2 o1 o2 b hx1 ho1 hk1 hb1 hx2 ho2 hk2 hb2=>?_,fun i x' o' b hx' ho' hk' hb' j d hs=>?_⟩
 ·rcases hgo i x' o' hx' ho' with ⟨q1,q2⟩|⟨_,rfl,rfl⟩
  ·exact hr.kinds i x' o' q1 q2
  ·exact hk
 ·rcases hgo i x' o' hx' ho' with ⟨q1,q2⟩|⟨_,rfl,rfl⟩
  ·exact (hr.objs i x' o' q1 q2).move he fun b _=>rfl
  ·exact ho
 ·rcases hgo i x1 o1 hx1 ho1 with ⟨q1,q2⟩|⟨e1,rfl,rfl⟩
  ·rcases hgo i' x2 o2 hx2 ho2 with ⟨q3,q4⟩|⟨e2,rfl,rfl⟩
   ·exact hr.sep i i' x1 x2 o1 o2 b q1 q2 hk1 hb1 q3 q4 hk2 hb2
   ·exact absurd ⟨i,x1,o1,q1,q2,hk1,hb1⟩ (hb b hb2).1
  ·rcases hgo i' x2 o2 hx2 ho2 with ⟨q3,q4⟩|⟨e2,rfl,rfl⟩
   ·exact absurd ⟨i',x2,o2,q3,q4,hk2,hb2⟩ (hb b hb1).1
   ·omega
 ·rcases hgo i x' o' hx' ho' with ⟨q1,q2⟩|⟨_,rfl,rfl⟩
  ·exact hr.apart i x' o' b q1 q2 hk' hb' j d hs
  ·exact (hb b hb').2 j d hs
theorem zvo {x : Value} {o : AObj} (hl : μ.length = H.length) {b : Nat} (h : zDf (μ ++ [x]) (H ++ [o]) b) : zDf μ H b ∨ (o.k ≠ 0 ∧ z2I x = some b) := by
 obtain ⟨i,x',o',hx',ho',hk',hb'⟩ := h
 rcases z9A _ _ _ _ hx' with q|⟨q,rfl⟩
 ·rcases z9A _ _ _ _ ho' with q'|⟨q',rfl⟩
  ·exact .inl ⟨i,x',o',q,q',hk',hb'⟩
  ·have := (List.getElem?_eq_some_iff.1 q).1;omega
 ·rcases z9A _ _ _ _ ho' with q'|⟨q',rfl⟩
  ·have := (List.getElem?_eq_some_iff.1 q').1;omega
  ·exact .inr ⟨hk',hb'⟩
theorem Step.add {n : Nat} {w0 : World} {S0 : SS} {μ0 : List Value} {H0 : List AObj} (hs : Step n w0 S0 μ0 H0 w S μ H) (hl : μ.length = H.length) {x : Value} {o : AObj} (hb : ∀ b,z2I x = some b → w0.heap.size ≤ b) : Step n w0 S0 μ0 H0 w S (μ ++ [x]) (H ++ [o]) :=
 ⟨hs.os,hs.tape,hs.output,hs.size,hs.block,hs.still,fun i y hi hy=>by
  obtain ⟨x',hx',h1⟩ := hs.objs i y hi hy
  exact ⟨x',zqr _ _ _ _ hx',h1⟩,hs.old,fun b hob hlt=>by
  rcases zvo hl hob with q|⟨_,q⟩
  ·exact hs.mine b q hlt
  ·have := hb b q;omega⟩
theorem Rel.new (hr : Rel w S μ H) (e : TypeId) {c : List AV} {cs : List Value} (hc : reps S μ c cs) :
  Rel (w.alloc (.cells cs.toArray e)) S (μ ++ [.pointer (some ⟨w.heap.size,0,none⟩)]) (H ++ [⟨1,e,0,c⟩]) ∧
  Step H.length w S μ H (w.alloc (.cells cs.toArray e)) S (μ ++ [.pointer (some ⟨w.heap.size,0,none⟩)]) (H ++ [⟨1,e,0,c⟩]) := by
 obtain ⟨h1,h2⟩ := hr.grow (w' := w.alloc (.cells cs.toArray e)) ((Below.refl _ _).alloc (Nat.le_refl _) _) (fun _ _ _ h=>h) (fun _ _ _ h=>.inl h) (fun b j d h hb=>by have := hr.still_lt h;omega)
 refine ⟨h1.add (.inr (.inl rfl)) ⟨fun _=>⟨w.heap.size,cs.toArray,rfl,heap_alloc_new w _,by simpa using hc.ext (ziK S μ _)⟩,⟨fun h=>(by simp at h),fun h=>(by simp at h),fun h=>(by simp at h)⟩⟩ fun b hb=>?_,h2.add hr.len fun b hb=>?_⟩
 ·simp [z2I] at hb;subst hb
  refine ⟨?_,fun j d h=>by have := hr.still_lt h;omega⟩
  rintro ⟨i,x,o,hx,ho,hk,hbk⟩
  have := hr.own_lt hx ho hk hbk;omega
 ·simp [z2I] at hb;omega
theorem z9l {d : AV} {v : Value} (h : rep S μ d v) (hs : (cellsOf d).all zCU = true) : reps S μ (cellsOf d) v.cells.toList := by
 unfold rep at h
 split at h
 ·simp [cellsOf,zCU] at hs
 ·unfold repA at h
  split at h
  ·obtain ⟨us,rfl,hr⟩ := h;exact hr
  ·rename_i hne
   rw [z6g hne] at hs ⊢
   have h1 := zj3 h (by simpa using hs)
   have : v.cells.toList = [v] := by cases v <;> first|rfl|cases h1
   rw [this]
   refine ⟨rfl,fun j d u hd hu=>?_⟩
   rcases j with _|j
   ·simp at hd hu;subst hd;subst hu;exact ⟨h1,h⟩
   ·simp at hd
theorem zx1 {e : TypeId} {c : List AV} {cs : List Value} (hl : loud o.op = true) (hrel : Rel w S μ H) (hrun : (execOp a.eval o).run P w = .ok (.value (.pointer (some ⟨w.heap.size,0,none⟩))) (w.alloc (.cells cs.toArray e))) (hc : reps S μ c cs)
  (hK : K (OP H.length 0) (H ++ [⟨1,e,0,c⟩])) : o.wp P a w (z1u w S μ H a o K) Q := by
 obtain ⟨h1,h2⟩ := hrel.new e hc
 unfold Oper.wp
 rw [hrun]
 exact ⟨_,_,_,S,_,hK,rfl,⟨w.heap.size, .pointer (some ⟨w.heap.size,0,none⟩),by rw [← hrel.len];simp,rfl,rfl⟩,h1,h2,fun q=>by rw [hl] at q;cases q⟩
theorem zm2 {t : TypeId} {c : List AV} (hrel : Rel w S μ H) (ho : o.op = .alloc t) (hz : z7r P t = some c) (hK : K (OP H.length 0) (H ++ [⟨1,t,0,c⟩])) : o.wp P a w (z1u w S μ H a o K) Q := by
 unfold z7r at hz
 cases hi : P.info? t with
 |none=>rw [hi] at hz;cases hz
 |some i =>
  rw [hi] at hz
  simp only [Option.map_some] at hz
  cases hzz : i.zero with
  |none=>rw [hzz] at hz;cases hz
  |some z =>
   rw [hzz] at hz
   simp only at hz
   split at hz
   ·rename_i hall
    injection hz with hz;subst hz
    refine zx1 (cs := z.cells.toList) (by rw [ho];rfl) hrel ?_ ⟨by simp,fun j d u hd hu=>?_⟩ hK
    ·unfold execOp
     rw [ho]
     simp [Instr.alloc,zeroValue,typeInfo,hi,hzz,newVar,newRow,newObj,Sem.run]
    ·rw [List.getElem?_map,hu] at hd
     simp at hd;subst hd
     have h1 : u.oneCell' = true := by
      rw [Array.all_eq_true_iff_forall_mem] at hall
      exact hall u (by rw [← Array.mem_toList_iff];exact List.mem_of_getElem? hu)
     exact ⟨h1,rfl,h1⟩
   ·cases hz
theorem zzA {t : TypeId} {x : Operand} {d : AV} (hrel : Rel w S μ H) (ho : o.op = .box t x) (hx : rep S μ d (a.eval x)) (hs : (cellsOf d).all zCU = true) (hK : K (OP H.length 0) (H ++ [⟨1,t,0,cellsOf d⟩])) : o.wp P a w (z1u w S μ H a o K) Q := by
 refine zx1 (cs := (a.eval x).cells.toList) (by rw [ho];rfl) hrel ?_ (z9l hx hs) hK
 unfold execOp
 rw [ho]
 simp [Instr.box,newVar,newRow,newObj,Sem.run]
theorem z27 {α : Type} : ∀ (xs l : List α) (o : Nat),(z0e l o xs).length = l.length
 |[],l,o=>rfl
 |x :: xs,l,o=>by simp [z0e,z27 xs]
theorem z1o {α : Type} : ∀ (xs l : List α) (o : Nat),o + xs.length ≤ l.length → ∀ j,(z0e l o xs)[j]? = if o ≤ j ∧ j < o + xs.length then xs[j - o]? else l[j]?
 |[],l,o,_,j=>by simp only [z0e,List.length_nil,Nat.add_zero];rw [if_neg (by omega)]
 |x :: xs,l,o,h,j=>by
  simp only [List.length_cons] at h
  simp only [z0e]
  rw [z1o xs (l.set o x) (o + 1) (by simp;omega) j]
  simp only [List.length_cons]
  by_cases h1 : j = o
  ·subst h1
   rw [if_neg (by omega),if_pos (by omega)]
   simp
   rw [List.getElem?_set_self (by omega)]
  ·by_cases h2 : o + 1 ≤ j ∧ j < o + 1 + xs.length
   ·rw [if_pos h2,if_pos (by omega)]
    obtain ⟨q,rfl⟩ : ∃ q,j = o + 1 + q := ⟨j - (o + 1),by omega⟩
    rw [show o + 1 + q - (o + 1) = q by omega,show o + 1 + q - o = q + 1 by omega]
    simp
   ·rw [if_neg h2,if_neg (by omega),List.getElem?_set_ne (by omega)]
theorem Rel.write (hr : Rel w S μ H) {i b : Nat} {x : Value} {ob ob' : AObj} {cs' : Array Value} (hμ : μ[i]? = some x) (ho : H[i]? = some ob) (hk : ob.k = 1 ∨ ob.k = 4) (hkk : ob'.k = ob.k) (hbx : z2I x = some b) (hr' : objRep (w.setRow b cs') S μ x ob') :
  Rel (w.setRow b cs') S μ (H.set i ob') ∧ Step H.length w S μ H (w.setRow b cs') S μ (H.set i ob') := by
 have hown : zDf μ H b := ⟨i,_,ob,hμ,ho,by omega,hbx⟩
 have hget : ∀ (i' : Nat) (o' : AObj),(H.set i ob')[i']? = some o' → (i' = i ∧ o' = ob') ∨ (i' ≠ i ∧ H[i']? = some o') := by
  intro i' o' h
  by_cases e : i' = i
  ·subst e
   rw [List.getElem?_set_self (List.getElem?_eq_some_iff.1 ho).1] at h
   injection h with h
   exact .inl ⟨rfl,h.symm⟩
  ·rw [List.getElem?_set_ne (Ne.symm e)] at h;exact .inr ⟨e,h⟩
 have hne : ∀ (i' : Nat) (x' : Value) (o' : AObj) (b' : Nat),i' ≠ i → μ[i']? = some x' → H[i']? = some o' → o'.k ≠ 0 → z2I x' = some b' → b' ≠ b := by
  intro i' x' o' b' hn hx ho' hk' hb' e
  subst e
  exact hn (hr.sep i' i x' _ o' ob b' hx ho' hk' hb' hμ ho (by omega) hbx)
 have hns : ∀ j d,¬ S b j d := fun j d h=>by have := (hr.apart i _ ob b hμ ho (by omega) hbx j d h).1;omega
 have hoo : ∀ b',zDf μ (H.set i ob') b' → zDf μ H b' := by
  rintro b' ⟨i',x',o',hx',ho',hk',hb'⟩
  rcases hget i' o' ho' with ⟨rfl,rfl⟩|⟨hn,q⟩
  ·rw [hμ] at hx';injection hx' with hx';subst hx'
   exact ⟨i',_,ob,hμ,ho,by omega,hb'⟩
  ·exact ⟨i',x',o',hx',q,hk',hb'⟩
 refine ⟨⟨by simpa using hr.len,fun b' j d hs=>?_,fun i' x' o' hx' ho'=>?_,fun i' x' o' hx' ho'=>?_,fun i1 i2 x1 x2 o1 o2 b' hx1 ho1 hk1 hb1 hx2 ho2 hk2 hb2=>?_,fun i' x' o' b' hx' ho' hk' hb' j d hs=>?_⟩,⟨rfl,rfl,rfl,by simp,fun b' hb' hn=>?_,fun _ _ _ h=>h,fun i' x' _ hx'=>⟨x',hx', .inl rfl⟩,fun b' j d h _=>.inl h,fun b' h _=>hoo b' h⟩⟩
 ·obtain ⟨u,hu,r⟩ := hr.still b' j d hs
  have : b' ≠ b := fun e=>hns j d (e ▸ hs)
  exact ⟨u,by rw [World.cell?_of_block (w := w) (w' := w.setRow b cs') (a := ⟨b',j,none⟩) (setRow_other w b b' cs' this)];exact hu,r⟩
 ·rcases hget i' o' ho' with ⟨rfl,rfl⟩|⟨hn,q⟩
  ·omega
  ·exact hr.kinds i' x' o' hx' q
 ·rcases hget i' o' ho' with ⟨rfl,rfl⟩|⟨hn,q⟩
  ·rw [hμ] at hx';injection hx' with hx';subst hx'
   exact hr'
  ·by_cases hk0 : o'.k = 0
   ·exact objRep.zero hk0
   ·exact (hr.objs i' x' o' hx' q).move (Ext.refl _ _) fun b' hb'=>setRow_other w b b' cs' (hne i' x' o' b' hn hx' q hk0 hb')
 ·have f : ∀ (i' : Nat) (x' : Value) (o' : AObj),μ[i']? = some x' → (H.set i ob')[i']? = some o' → o'.k ≠ 0 → ∃ o2,H[i']? = some o2 ∧ o2.k ≠ 0 := by
   intro i' x' o' _ h hk'
   rcases hget i' o' h with ⟨rfl,rfl⟩|⟨_,q⟩
   ·exact ⟨ob,ho,by omega⟩
   ·exact ⟨o',q,hk'⟩
  obtain ⟨o3,q3,q4⟩ := f i1 x1 o1 hx1 ho1 hk1
  obtain ⟨o5,q5,q6⟩ := f i2 x2 o2 hx2 ho2 hk2
  exact hr.sep i1 i2 x1 x2 o3 o5 b' hx1 q3 q4 hb1 hx2 q5 q6 hb2
 ·rcases hget i' o' ho' with ⟨rfl,rfl⟩|⟨hn,q⟩
  ·rw [hμ] at hx';injection hx' with hx';subst hx'
   rw [hbx] at hb';injection hb' with hb';subst hb'
   exact absurd hs (hns j d)
  ·exact hr.apart i' x' o' b' hx' q hk' hb' j d hs
 ·exact setRow_other w b b' cs' (fun e=>hn (e ▸ hown))
theorem zlG {z : Nat} : ∀ {es : List AV} (_ : allC z es) (i : Nat) (_ : i < es.length) (x : AV) (_ : (cellsOf x).length = z),zE2 (es.set i x) = z0e (zE2 es) (i * z) (cellsOf x) ∧ allC z (es.set i x)
 |[],_,i,hi,_,_=>by simp at hi
 |d :: es,h,0,_,x,hx=>by
  have h0 := h d (List.mem_cons_self ..)
  refine ⟨?_,fun y hy=>?_⟩
  ·apply List.ext_getElem?
   intro j
   rw [z1o _ _ _ (by simp only [zE2,List.flatMap_cons,List.length_append];omega)]
   simp only [List.set_cons_zero,zE2,List.flatMap_cons,Nat.zero_mul,Nat.zero_le,true_and,Nat.zero_add,Nat.sub_zero]
   split
   ·rename_i q;rw [List.getElem?_append_left q]
   ·rename_i q
    rw [List.getElem?_append_right (by omega),List.getElem?_append_right (by omega),hx,h0]
  ·rcases List.mem_cons.1 hy with rfl|hy
   ·exact hx
   ·exact h y (List.mem_cons_of_mem _ hy)
 |d :: es,h,i + 1,hi,x,hx=>by
  have h0 := h d (List.mem_cons_self ..)
  have ht : allC z es := fun y hy=>h y (List.mem_cons_of_mem _ hy)
  obtain ⟨e1,e2⟩ := zlG ht i (by simpa using hi) x hx
  have hfl := z1p ht
  have hmul : (i + 1) * z ≤ es.length * z := Nat.mul_le_mul_right _ (Nat.succ_le_of_lt (by simpa using hi))
  have hs : (i + 1) * z = i * z + z := Nat.succ_mul i z
  refine ⟨?_,fun y hy=>?_⟩
  ·have e3 : zE2 (d :: es.set i x) = cellsOf d ++ zE2 (es.set i x) := rfl
   have e4 : zE2 (d :: es) = cellsOf d ++ zE2 es := rfl
   rw [List.set_cons_succ,e3,e1,e4]
   apply List.ext_getElem?
   intro j
   rw [z1o _ _ _ (by rw [List.length_append,hfl];omega)]
   rcases Nat.lt_or_ge j z with hj|hj
   ·rw [List.getElem?_append_left (by omega),if_neg (by omega),List.getElem?_append_left (by omega)]
   ·rw [List.getElem?_append_right (by omega),z1o _ _ _ (by rw [hfl];omega),List.getElem?_append_right (l₁ := cellsOf d) (l₂ := zE2 es) (by omega),h0]
    by_cases hc : i * z ≤ j - z ∧ j - z < i * z + (cellsOf x).length
    ·rw [if_pos hc,if_pos (by omega)]
     congr 1;omega
    ·rw [if_neg hc,if_neg (by omega)]
  ·rcases List.mem_cons.1 hy with rfl|hy
   ·exact h0
   ·exact e2 y hy
theorem zlh {t : TypeId} {x y : Operand} {d e : AV} (hrel : Rel w S μ H) (ho : o.op = .store t x y) (hx : rep S μ d (a.eval x)) (hy : rep S μ e (a.eval y)) (h : z5M (z0z P t) H d e fun H'=>K .nil H') :
  o.wp P a w (z1u w S μ H a o K) Q := by
 unfold z5M at h
 split at h
 ·rename_i i off
  obtain ⟨ob,hob,hk0,hlen,hsure,h⟩ := h
  obtain ⟨b,x',hμ,hp,he⟩ := hx
  have hry := z9l hy hsure
  have hsz := z7m (P := P) (t := t) w hk0
  have hcl : (a.eval y).cells.size = zE7 (z0z P t) := by rw [← hlen,← hry.1];simp
  have h1c : ∀ v ∈ (a.eval y).cells.toList,v.oneCell' = true := fun v hv=>by
   obtain ⟨j,hj⟩ := List.getElem?_of_mem hv
   have hlt : j < (cellsOf e).length := by rw [← hry.1];exact (List.getElem?_eq_some_iff.1 hj).1
   exact (hry.2 j _ v (List.getElem?_eq_getElem hlt) hj).1
  have hput : ∀ (l : List AV) (us rest : List Value),reps S μ l us → off + zE7 (z0z P t) ≤ l.length → reps S μ (z0e l off (cellsOf e)) (us.take off ++ (a.eval y).cells.toList ++ us.drop (off + (a.eval y).cells.toList.length)) := by
   intro l us _ hr hfit
   have hl1 := hr.1
   have hl2 := hry.1
   refine ⟨?_,fun j d u hd hu=>?_⟩
   ·rw [z27]
    simp only [List.length_append,List.length_take,List.length_drop]
    omega
   ·rw [z1o _ _ _ (by omega)] at hd
    split at hd
    ·rename_i hjj
     rw [List.append_assoc,List.getElem?_append_right (by rw [List.length_take];omega),List.length_take,List.getElem?_append_left (by omega),Nat.min_eq_left (by omega)] at hu
     exact hry.2 _ d u hd hu
    ·rename_i hjj
     rcases Nat.lt_or_ge j off with hlt|hge
     ·rw [List.append_assoc,List.getElem?_append_left (by rw [List.length_take];omega),List.getElem?_take,if_pos hlt] at hu
      exact hr.2 j d u hd hu
     ·rw [List.append_assoc,List.getElem?_append_right (by rw [List.length_take];omega),List.length_take,List.getElem?_append_right (by omega),List.getElem?_drop] at hu
      exact hr.2 j d u hd (by rw [← hu];congr 1;omega)
  have hst : ∀ cs : Array Value,w.heap[b]? = some (.cells cs ob.e (0,0)) → off + zE7 (z0z P t) ≤ cs.size →
    (execOp a.eval o).run P w = .ok .skip (w.setRow b (cs.toList.take off ++ (a.eval y).cells.toList ++ cs.toList.drop (off + (a.eval y).cells.toList.length)).toArray) := by
   intro cs hc hfit
   have hst := run_storeCells_at P b off ob.e (a.eval y).cells.toList 0 cs w hc (by simp only [Array.length_toList,Nat.add_zero];rw [hcl];omega) h1c
   simp only [Nat.add_zero] at hst
   unfold execOp
   rw [ho]
   simp only [Instr.storeAt,he,Instr.sureAddr,storeVar,Sem.run_bind,Sem.run_pure,Result.andThen_ok,hsz,hcl,ne_eq,not_true_eq_false,if_false,hst]
  split at h
  ·rename_i hk1
   obtain ⟨hfit,hK⟩ := h
   obtain ⟨b',cs,e1,hc,hr⟩ := (hrel.objs i _ ob hμ hob).1 hk1
   subst e1
   simp only [zsc,Option.some.injEq] at hp
   subst hp
   obtain ⟨h1,h2⟩ := hrel.write (ob' := { ob with c := z0e ob.c off (cellsOf e) }) (cs' := (cs.toList.take off ++ (a.eval y).cells.toList ++ cs.toList.drop (off + (a.eval y).cells.toList.length)).toArray) hμ hob (.inl hk1) rfl rfl
    ⟨fun _=>⟨b',_,rfl,setRow_heap w b' cs _ ob.e (0,0) hc,by simpa using hput _ _ [] hr hfit⟩,fun q=>by simp only at q;omega,fun q=>by simp only at q;omega,fun q=>by simp only at q;omega⟩
   unfold Oper.wp
   rw [hst cs hc (by rw [← Array.length_toList,hr.1];exact hfit)]
   exact ⟨.nil,undef,_,S,μ,hK,rfl,trivial,h1,h2,fun q=>by rw [ho] at q;cases q⟩
  ·rename_i hk4
   obtain ⟨hz0,hzz,hmod,hlt,hK⟩ := h
   obtain ⟨A,c,e1,l1,l2,l3,hc⟩ := (hrel.objs i _ ob hμ hob).2.2.1 hk4
   have hpos : 0 < ob.c.length := Nat.lt_of_le_of_lt (Nat.zero_le _) hlt
   obtain ⟨b',cs,q1,q2,q3,q4⟩ := hc (by omega)
   subst e1 q1
   simp only [zsc,Option.some.injEq] at hp
   subst hp
   have hoff : off / ob.z * ob.z = off := by have := Nat.div_add_mod off ob.z;rw [Nat.mul_comm] at this;omega
   have hm1 : off / ob.z * ob.z + ob.z ≤ ob.c.length * ob.z := by rw [← Nat.succ_mul];exact Nat.mul_le_mul_right _ hlt
   have hm2 : ob.c.length * ob.z ≤ c * ob.z := Nat.mul_le_mul_right _ l1
   obtain ⟨f1,f2⟩ := zlG l3 (off / ob.z) hlt e (by rw [hlen,hzz])
   have hfl := z1p l3
   have hcsl : cs.toList.length = c * ob.z := by rw [Array.length_toList,q3]
   have hyl : (a.eval y).cells.toList.length = ob.z := by rw [Array.length_toList,hcl,hzz]
   have hnew := hput _ _ [] q4 (by rw [hfl];omega)
   have hob2 : objRep (w.setRow b' (cs.toList.take off ++ (a.eval y).cells.toList ++ cs.toList.drop (off + (a.eval y).cells.toList.length)).toArray) S μ (MR (some ⟨b',0,none⟩) ob.c.length c) { ob with c := ob.c.set (off / ob.z) e } := by
    refine ⟨fun q=>by simp only at q;omega,fun q=>by simp only at q;omega,fun _=>⟨some ⟨b',0,none⟩,c,by simp,by simpa using l1,l2,f2,fun _=>⟨b',_,rfl,setRow_heap w b' cs _ ob.e (0,0) q2,?_,?_⟩⟩,fun q=>by simp only at q;omega⟩
    ·simp only [List.size_toArray,List.length_append,List.length_take,List.length_drop,hyl,hcsl]
     omega
    ·rw [hoff] at f1
     simp only [List.length_set]
     rw [f1]
     have : (cs.toList.take off ++ (a.eval y).cells.toList ++ cs.toList.drop (off + (a.eval y).cells.toList.length)).toArray.toList.take (ob.c.length * ob.z) = (cs.toList.take (ob.c.length * ob.z)).take off ++ (a.eval y).cells.toList ++ (cs.toList.take (ob.c.length * ob.z)).drop (off + (a.eval y).cells.toList.length) := by
      simp only [List.append_assoc,hyl]
      rw [List.take_append,List.take_append,List.take_take,List.take_take,List.length_take,hyl,hcsl,List.drop_take,List.take_of_length_le (l := (a.eval y).cells.toList) (by rw [hyl];omega)]
      congr 1
      ·congr 1;omega
      ·congr 1
       congr 1;omega
     rw [this]
     exact hnew
   obtain ⟨h1,h2⟩ := hrel.write (ob' := { ob with c := ob.c.set (off / ob.z) e }) hμ hob (.inr hk4) rfl (by simp only [z2I];rw [if_neg (by omega)]) hob2
   unfold Oper.wp
   rw [hst cs q2 (by rw [q3];omega)]
   exact ⟨.nil,undef,_,S,μ,hK,rfl,trivial,h1,h2,fun q=>by rw [ho] at q;cases q⟩
  ·exact h.elim
 ·exact h.elim
end
end Go.Proofs.YtaplemeamcgpkaaDoor

namespace Go.Proofs.YtaplemeamcgpkaaDoor
open Go.RowKit
section
variable {P : Program} {G : Gl} {w : World} {S : SS} {μ : List Value} {H : List AObj} {a : Act} {o : Oper} {K : AV → List AObj → Prop} {Q : Exit → Act → World → Prop}
theorem zda {s : TypeId} {f off k : Nat} (h : z20 P s f = some (off,k)) : ∃ fs fd,P.underlying s = some (.struct fs) ∧ fs[f]? = some fd ∧ fd.offset = off ∧ z0z P fd.type = k ∧ k ≠ 0 ∧ zE7 k ≠ 0 := by
 unfold z20 at h
 cases hu : P.underlying s with
 |none=>rw [hu] at h;cases h
 |some d =>
  rw [hu] at h
  cases d <;> simp only at h <;> try (cases h;done)
  rename_i fs
  cases hf : fs[f]? with
  |none=>rw [hf] at h;cases h
  |some fd =>
   rw [hf] at h
   simp only at h
   split at h
   ·cases h
   ·rename_i hn
    injection h with h;injection h with h1 h2
    rw [h2] at hn
    exact ⟨fs,fd,rfl,hf,h1,h2,fun e=>hn (.inl e),fun e=>hn (.inr e)⟩
theorem zeK {k : Nat} {l : List AV} {off : Nat} {K : AV → Prop} (h : z0Y k l off K) (hk : k ≠ 0) : ∃ d,K d ∧ ∀ (j : Nat) (y : AV),(cellsOf d)[j]? = some y → l[off + j]? = some y ∨ (∃ cs,l[off]? = some (.agg cs)) := by
 unfold z0Y at h
 split at h
 ·obtain ⟨d,hd,hK⟩ := h
  refine ⟨d,hK,fun j y hy=>?_⟩
  by_cases ha : ∃ cs,d = .agg cs
  ·obtain ⟨cs,rfl⟩ := ha;exact .inr ⟨cs,hd⟩
  ·rw [z6g (fun cs e=>ha ⟨cs,e⟩)] at hy
   rcases j with _|j
   ·simp at hy;subst hy;exact .inl hd
   ·simp at hy
 ·obtain ⟨h2,h3,hK⟩ := h
  refine ⟨_,hK,fun j y hy=>.inl ?_⟩
  simp only [cellsOf] at hy
  rw [List.getElem?_take] at hy
  split at hy
  ·rw [List.getElem?_drop] at hy;exact hy
  ·cases hy
theorem zgx {s : TypeId} {x : Operand} {f : Nat} {d : AV} (hrel : Rel w S μ H) (ho : o.op = .fieldAddr s x f) (hx : rep S μ d (a.eval x)) (h : z6u (z20 P s f) d fun r=>K r H) : o.wp P a w (z1u w S μ H a o K) Q := by
 unfold z6u at h
 split at h
 ·rename_i off k hfk
  obtain ⟨fs,fd,hu,hf,rfl,rfl,hk,hz⟩ := zda hfk
  have hsz := z7m (P := P) (t := fd.type) w hk
  have hex : ∀ b q,a.eval x = .pointer (some ⟨b,q,none⟩) → (execOp a.eval o).run P w = .ok (.value (.pointer (some ⟨b,q + fd.offset,none⟩))) w := by
   intro b q he
   unfold execOp
   rw [ho]
   simp only [Instr.fieldAt,run_underlying hu,Sem.run_bind,Result.andThen_ok,hf,he,Instr.sureAddr,Sem.run_pure,fieldPlace,hsz,hz,if_false,Addr.add_lit]
  split at h
  ·rename_i cs
   obtain ⟨b,q,he,hs⟩ := hx
   obtain ⟨d,hK,hd⟩ := zeK h hk
   refine z1w hrel (hex b q he) hK ⟨b,q + fd.offset,rfl,fun j y hy=>?_⟩
   rcases hd j y hy with h1|⟨cs',h1⟩
   ·rw [Nat.add_assoc];exact hs _ y h1
   ·obtain ⟨u,_,_,h5⟩ := hrel.still _ _ _ (hs _ _ h1)
    exact h5.elim
  ·rename_i i q
   obtain ⟨b,x',hμ,hp,he⟩ := hx
   exact z1w hrel (hex b q he) h ⟨b,x',hμ,hp,rfl⟩
  ·exact h.elim
 ·exact h.elim
theorem zrp {s : TypeId} {x : Operand} {f : Nat} {d : AV} (hrel : Rel w S μ H) (ho : o.op = .field s x f) (hx : rep S μ d (a.eval x)) (h : z3D (z20 P s f) d fun r=>K r H) : o.wp P a w (z1u w S μ H a o K) Q := by
 unfold z3D at h
 split at h
 ·rename_i off k hfk
  obtain ⟨fs,fd,hu,hf,rfl,rfl,hk,hz⟩ := zda hfk
  split at h
  ·rename_i cs
   obtain ⟨us,he,hr⟩ := hx
   have hex : ∀ v,(part fd.type us.toArray fd.offset).run P w = .ok v w → (execOp a.eval o).run P w = .ok (.value v) w := by
    intro v hp
    unfold execOp
    rw [ho]
    simp only [Instr.field,run_underlying hu,Sem.run_bind,Result.andThen_ok,hf,he,asAgg,Sem.run_pure,hp]
   unfold z0Y at h
   split at h
   ·rename_i h1
    obtain ⟨d,hd,hK⟩ := h
    have hlt : fd.offset < us.length := by rw [hr.1];exact (List.getElem?_eq_some_iff.1 hd).1
    have hh := hr.2 _ d _ hd (List.getElem?_eq_getElem hlt)
    refine z1w hrel (hex us[fd.offset] ?_) hK (z2T ?_)
    ·simp only [part,Sem.run_bind,(z98 (P := P) (t := fd.type) w h1).1,Result.andThen_ok]
     simp [hlt,Sem.run_pure]
    ·unfold repA
     split
     ·exact hh.2.elim
     ·exact hh.2
   ·obtain ⟨h2,h3,hK⟩ := h
    obtain ⟨n,hn⟩ : ∃ n,z0z P fd.type = n + 2 := ⟨z0z P fd.type - 2,by omega⟩
    rw [hn] at h3 hK
    simp only [Nat.add_sub_cancel] at h3 hK
    have hg := z9w (P := P) (t := fd.type) w hn
    refine z1w hrel (hex (.agg (us.toArray.extract fd.offset (fd.offset + n))) ?_) hK ⟨(us.drop fd.offset).take n,by simp [List.extract_eq_take_drop],by rw [List.length_take,List.length_take,List.length_drop,List.length_drop,hr.1],fun j d u hd hu'=>?_⟩
    ·simp only [part,Sem.run_bind,hg.1,hg.2,Result.andThen_ok,if_true,Sem.run_pure]
    ·rw [List.getElem?_take] at hd hu'
     split at hd
     ·rw [if_pos (by assumption)] at hu'
      rw [List.getElem?_drop] at hd hu'
      exact hr.2 _ d u hd hu'
     ·cases hd
  ·exact h.elim
 ·exact h.elim
theorem zbb (hrel : Rel w S μ H) {d : AV} {v : Value} (hx : rep S μ d v) {K : List AV → Prop} (h : z1d H d K) :
  ∃ es A c,K es ∧ v = .slice A es.length c ∧ es.length ≤ c ∧ c ≤ maxLen ∧ (es ≠ [] → ∃ b o z,A = some ⟨b,o,none⟩ ∧ inS S b o z es) := by
 unfold z1d at h
 split at h
 ·rename_i es
  obtain ⟨A,c,he,h1,h2,h3⟩ := hx
  exact ⟨es,A,c,h,he,h1,h2,h3⟩
 ·rename_i i n
  obtain ⟨ob,hob,hk,rfl,hK⟩ := h
  obtain ⟨A,m,c,A',c',hμ,hle,he,heq⟩ := hx
  obtain ⟨us,A2,c2,e2,l1,l2,hown,hin⟩ := (hrel.objs i _ ob hμ hob).2.1 hk
  injection e2 with e2 e3 e4
  subst e2 e4
  obtain ⟨rfl,rfl⟩ := heq e3.symm
  refine ⟨ob.c,A',c',hK,he,l1,l2,fun hne=>?_⟩
  obtain ⟨b,e5,e6⟩ := hin hne
  exact ⟨b,0,ob.z,e5,e6⟩
 ·obtain ⟨rfl,_⟩ := hx
  exact ⟨[],none,0,h,rfl,Nat.le_refl _,Nat.zero_le _,fun hne=>absurd rfl hne⟩
 ·obtain ⟨A,rfl⟩ := hx
  exact ⟨[],A,0,h,rfl,Nat.le_refl _,Nat.zero_le _,fun hne=>absurd rfl hne⟩
 ·exact h.elim
theorem z4Y {t e : TypeId} {k : Nat} (h : z1Y P t = some (e,k)) : P.underlying t = some (.slice e) ∧ z0z P e = k ∧ k ≠ 0 ∧ zE7 k ≠ 0 := by
 unfold z1Y at h
 cases hu : P.underlying t with
 |none=>rw [hu] at h;cases h
 |some d =>
  rw [hu] at h
  cases d <;> simp only at h <;> try (cases h;done)
  split at h
  ·cases h
  ·rename_i hn
   injection h with h;injection h with h1 h2
   subst h1
   rw [h2] at hn
   exact ⟨rfl,h2,fun e=>hn (.inl e),fun e=>hn (.inr e)⟩
theorem zcU {t : TypeId} {n k : Nat} (h : z4m P t = some (n,k)) : ∃ e,P.underlying t = some (.array n e) ∧ z0z P e = k ∧ k ≠ 0 ∧ zE7 k ≠ 0 := by
 unfold z4m at h
 cases hu : P.underlying t with
 |none=>rw [hu] at h;cases h
 |some d =>
  rw [hu] at h
  cases d <;> simp only at h <;> try (cases h;done)
  split at h
  ·cases h
  ·rename_i hn
   injection h with h;injection h with h1 h2
   subst h1
   rw [h2] at hn
   exact ⟨_,rfl,h2,fun e=>hn (.inl e),fun e=>hn (.inr e)⟩
def z3c (P : Program) (t : TypeId) (H : List AObj) (x ix : AV) (K : AV → Prop) : Prop :=
 match z1Y P t with
 |some (_,ek)=>z3E ek H x ix K
 |none=>match z4m P t with
  |some (n,ek)=>match ix with
   |.held (.inl (.int _ i))=>0 ≤ i ∧ i < n ∧ (match x with
    |.ptr (.agg cs)=>z0Y ek cs (i.toNat * zE7 ek) fun d=>K (.ptr d)
    |.held (.inr (.inl (j,q)))=>K (OP j (q + i.toNat * zE7 ek))
    |_=>False)
   |_=>False
  |none=>False
theorem zfX {t : TypeId} {x y : Operand} {d e : AV} (hrel : Rel w S μ H) (ho : o.op = .indexAddr t x y) (hx : rep S μ d (a.eval x)) (hy : rep S μ e (a.eval y)) (h : z3c P t H d e fun r=>K r H) : o.wp P a w (z1u w S μ H a o K) Q := by
 unfold z3c at h
 split at h
 ·rename_i et ek hst
  obtain ⟨hu,rfl,hk,hz⟩ := z4Y hst
  have hsz := z7m (P := P) (t := et) w hk
  unfold z3E at h
  split at h
  ·rename_i ki i
   obtain ⟨h0,hel⟩ := h
   obtain ⟨hi,_⟩ := hy
   split at hel
   ·rename_i q n
    obtain ⟨hlt',ob,hob,hk4,hzz,rfl,hK⟩ := hel
    obtain ⟨A,c,hμ,hv,h1,h2⟩ := hx
    obtain ⟨A2,c2,e1,_,_,_,hc⟩ := (hrel.objs q _ ob hμ hob).2.2.1 hk4
    have e1 := List.cons.inj (Array.mk.inj (Value.tuple.inj e1)) |>.1
    injection e1 with e1 e2 e3
    subst e1 e3
    obtain ⟨b,cs,rfl,q2,_⟩ := hc (by omega)
    refine z1w (u := .pointer (some ⟨b,0 + i.toNat * zE7 (z0z P et),none⟩)) hrel ?_ hK ⟨b,_,hμ,rfl,by rw [Nat.zero_add]⟩
    unfold execOp
    rw [ho]
    simp only [Instr.indexAt,hi,hv,asIntOf,run_underlying hu,Sem.run_bind,Sem.run_pure,Result.andThen_ok,hsz,h0,hlt',and_self,if_true,Addr.add_lit]
   rename_i hnp
   obtain ⟨es,A,c,⟨dd,hd,hdl,hK⟩,hv,h1,h2,h3⟩ := zbb hrel hx hel
   have hlt : i.toNat < es.length := (List.getElem?_eq_some_iff.1 hd).1
   obtain ⟨b,q,z,rfl,hin⟩ := h3 (by intro e;subst e;simp at hlt)
   obtain ⟨hz1,hz2⟩ := hin _ dd hd
   refine z1w (u := .pointer (some ⟨b,q + i.toNat * zE7 (z0z P et),none⟩)) hrel ?_ hK ⟨b,_,rfl,fun j y hy=>?_⟩
   ·unfold execOp
    rw [ho]
    have hlt' : i < es.length := by omega
    simp only [Instr.indexAt,hi,hv,asIntOf,run_underlying hu,Sem.run_bind,Sem.run_pure,Result.andThen_ok,hsz,h0,hlt',and_self,if_true,Addr.add_lit]
   ·have := hz2 j y hy
    rw [← hdl,hz1];exact this
  ·exact h.elim
 ·split at h
  ·rename_i n ek hat
   obtain ⟨et,hu,rfl,hk,hz⟩ := zcU hat
   have hsz := z7m (P := P) (t := et) w hk
   split at h
   ·rename_i ki i
    obtain ⟨h0,h1,h⟩ := h
    obtain ⟨hi,_⟩ := hy
    have hex : ∀ b q,a.eval x = .pointer (some ⟨b,q,none⟩) → (execOp a.eval o).run P w = .ok (.value (.pointer (some ⟨b,q + i.toNat * zE7 (z0z P et),none⟩))) w := by
     intro b q he
     unfold execOp
     rw [ho]
     simp only [Instr.indexAt,hi,he,asIntOf,run_underlying hu,Instr.sureAddr,Sem.run_bind,Sem.run_pure,Result.andThen_ok,hsz,h0,h1,and_self,if_true,Addr.add_lit]
    split at h
    ·rename_i cs
     obtain ⟨b,q,he,hs⟩ := hx
     obtain ⟨d,hK,hd⟩ := zeK h hk
     refine z1w hrel (hex b q he) hK ⟨b,_,rfl,fun j y hy=>?_⟩
     rcases hd j y hy with h1|⟨cs',h1⟩
     ·rw [Nat.add_assoc];exact hs _ y h1
     ·obtain ⟨u,_,_,h5⟩ := hrel.still _ _ _ (hs _ _ h1)
      exact h5.elim
    ·rename_i j q
     obtain ⟨b,x',hμ,hp,he⟩ := hx
     exact z1w hrel (hex b q he) h ⟨b,x',hμ,hp,rfl⟩
    ·exact h.elim
   ·exact h.elim
  ·exact h.elim
def zCJ (P : Program) (t : TypeId) (H : List AObj) (x : AV) (K : AV → Prop) : Prop :=
 match x with
 |.held (.inl (.string s))=>P.underlying t = some .string ∧ K (V (.int .i64 s.size))
 |.slice _ [.held (.inr (.inl (_,n)))]=>(z1Y P t).isSome = true ∧ K (V (.int .i64 n))
 |.held (.inr (.inr (_,n)))=>(z1Y P t).isSome = true ∧ K (V (.int .i64 n))
 |x=>(z1Y P t).isSome = true ∧ z1d H x fun es=>K (V (.int .i64 es.length))
theorem zz9 {x : Operand} {t : TypeId} {d : AV} (hrel : Rel w S μ H) (ho : o.op = .call { callee := .builtin .len,args := #[x],argTypes := #[t] }) (hx : rep S μ d (a.eval x)) (h : zCJ P t H d fun r=>K r H) : o.wp P a w (z1u w S μ H a o K) Q := by
 have hex : ∀ n : Int,(Builtin.len_ #[t] o.type #[a.eval x]).run P w = .ok (.int .i64 n) w → (execOp a.eval o).run P w = .ok (.value (.int .i64 n)) w := by
  intro n hl
  unfold execOp
  rw [ho]
  simp only [resolve,invoke,builtin,Sem.run_bind,Sem.run_pure,Result.andThen_ok,List.map_toArray,List.map_cons,List.map_nil,hl]
 unfold zCJ at h
 split at h
 ·obtain ⟨hu,hK⟩ := h
  obtain ⟨he,_⟩ := hx
  refine z1w hrel (hex _ ?_) hK (zjI rfl)
  rw [he]
  simp [Builtin.len_,run_underlying hu,goInt]
 ·obtain ⟨hs,hK⟩ := h
  obtain ⟨⟨et,ek⟩,hst⟩ := Option.isSome_iff_exists.1 hs
  obtain ⟨hu,_⟩ := z4Y hst
  obtain ⟨A,c,hμ,hv,h1,h2⟩ := hx
  refine z1w hrel (hex _ ?_) hK (zjI rfl)
  rw [hv]
  simp [Builtin.len_,run_underlying hu,goInt]
 ·obtain ⟨hs,hK⟩ := h
  obtain ⟨⟨et,ek⟩,hst⟩ := Option.isSome_iff_exists.1 hs
  obtain ⟨hu,_⟩ := z4Y hst
  obtain ⟨A,m,c,A',c',_,_,hv,_⟩ := hx
  refine z1w hrel (hex _ ?_) hK (zjI rfl)
  rw [hv]
  simp [Builtin.len_,run_underlying hu,goInt]
 ·obtain ⟨hs,hel⟩ := h
  obtain ⟨⟨et,ek⟩,hst⟩ := Option.isSome_iff_exists.1 hs
  obtain ⟨hu,_⟩ := z4Y hst
  obtain ⟨es,A,c,hK,hv,_⟩ := zbb hrel hx hel
  refine z1w hrel (hex _ ?_) hK (zjI rfl)
  rw [hv]
  simp [Builtin.len_,run_underlying hu,goInt]
def zEm (x : AV) (K : AV → Prop) : Prop := match x with
 |.held (.inr (.inl (i,q)))=>K (OP i q)
 |.ptr d=>K (.ptr d)
 |_=>False
theorem zjc {x : Operand} {d : AV} (hrel : Rel w S μ H) (ho : o.op = .nilCheck x) (hx : rep S μ d (a.eval x)) (h : zEm d fun r=>K r H) : o.wp P a w (z1u w S μ H a o K) Q := by
 have hex : ∀ ad : Addr,a.eval x = .pointer (some ad) → (execOp a.eval o).run P w = .ok (.value (a.eval x)) w := by
  intro ad he
  unfold execOp
  rw [ho]
  simp only [he,Sem.run_pure]
 unfold zEm at h
 split at h
 ·obtain ⟨b,x',hμ,hp,he⟩ := hx
  exact z1w hrel (hex _ he) h ⟨b,x',hμ,hp,he⟩
 ·obtain ⟨b,q,he,hs⟩ := hx
  exact z1w hrel (hex _ he) h ⟨b,q,he,hs⟩
 ·exact h.elim
def zF0 (P : Program) (t : TypeId) : Option IntKind := match P.underlying t with|some (.int k)=>some k|_=>none
def z6b : List AV → Option (List UInt8)
 |[]=>some []
 |.held (.inl (.int .u8 n)) :: r=>if 0 ≤ n ∧ n < 256 then (match z6b r with|some l=>some (UInt8.ofNat n.toNat :: l)|none=>none) else none
 |_=>none
theorem zbX : ∀ {es : List AV} {l : List UInt8},z6b es = some l → es = l.map fun b=>V (.int .u8 (b.toNat : Int))
 |[],l,h=>by unfold z6b at h;injection h with h;subst h;rfl
 |x :: r,l,h=>by
  unfold z6b at h
  split at h
  ·rename_i e;cases e
  ·rename_i n r' e
   injection e with e1 e2
   subst e1 e2
   split at h
   ·rename_i hn
    split at h
    ·rename_i l' hl
     injection h with h;subst h
     have := zbX hl
     rw [List.map_cons,← this]
     congr 1
     have : ((UInt8.ofNat n.toNat).toNat : Int) = n := by simp;omega
     rw [this]
    ·cases h
   ·cases h
  ·cases h
theorem zcy : ∀ (l : List UInt8),z6b (l.map fun b=>V (.int .u8 (b.toNat : Int))) = some l
 |[]=>rfl
 |b :: r=>by
  have h := zcy r
  have hb := b.toNat_lt
  rw [List.map_cons]
  unfold z6b
  rw [if_pos ⟨by omega,by omega⟩,h]
  simp
def zCB (P : Program) (t : TypeId) : Bool := match P.underlying t with|some (.slice e)=>(match P.underlying e with|some (.int .u8)=>true|_=>false)|_=>false
theorem zq1 {P : Program} {t : TypeId} (h : zCB P t = true) : ∃ e,P.underlying t = some (.slice e) ∧ P.underlying e = some (.int .u8) := by
 unfold zCB at h
 split at h
 ·rename_i e he
  split at h
  ·rename_i h2;exact ⟨e,he,h2⟩
  ·cases h
 ·cases h
def zFB (q : ByteArray) : List AV := q.data.toList.map fun b=>V (.int .u8 b.toNat)
def zec (P : Program) (src dst : TypeId) (x : AV) (K : AV → Prop) : Prop := match x with
 |.held (.inl (.int _ n))=>(P.underlying src).isSome = true ∧ (match zF0 P dst with|some k=>K (V (.int k (k.wrap n)))|none=>False)
 |.held (.inl (.string s))=>(P.underlying src = some .string ∧ P.underlying dst = some .string ∧ K (V (.string s))) ∨ (P.underlying src = some .string ∧ zCB P dst = true ∧ s.size ≤ 34359738368 ∧ K (SL (zFB s)))
 |.slice es []=>zCB P src = true ∧ P.underlying dst = some .string ∧ (match z6b es with|some l=>K (V (.string ⟨l.toArray⟩))|none=>False)
 |_=>False
theorem op_conv {src dst : TypeId} {x : Operand} {d : AV} (hrel : Rel w S μ H) (ho : o.op = .convert src dst x) (hx : rep S μ d (a.eval x)) (h : zec   P src dst d fun r => K r H) : o.wp P a w (z1u    w S μ H a o K) Q := by
  have hex : ∀ v, (convert src dst (a.eval x)).run P w = .ok v w → (execOp a.eval o).run P w = .ok (.value v) w := by
    intro v hl
    unfold execOp
    rw [ho]
    simp only [Sem.run_bind, Sem.run_pure, Result.andThen_ok, hl]
  unfold zec   at h
  split at h
  · obtain ⟨hs, h⟩ := h
    obtain ⟨he, _⟩ := hx
    split at h
    · rename_i k hk
      have hd : P.underlying dst = some (.int k) := by
        unfold zF0  at hk
        split at hk
        · injection hk with hk; subst hk; assumption
        · cases hk
      obtain ⟨ds, hs⟩ := Option.isSome_iff_exists.1 hs
      refine z1w    hrel (hex _ ?_) h (zjI   rfl)
      rw [he]
      simp [convert, run_underlying hs, run_underlying hd, Conv.intToInt, Sem.run_pure]
    · exact h.elim
  · rename_i s
    obtain ⟨he, _⟩ := hx
    rcases h with ⟨hs, hd, hK⟩ | ⟨hs, hd, hsz, hK⟩
    · refine z1w    hrel (hex _ ?_) hK (zjI   rfl)
      rw [he]
      simp [convert, run_underlying hs, run_underlying hd, Sem.run_pure]
    · obtain ⟨e, hde, hue⟩ := zq1     hd
      have hrun := run_bytes_of_string (P := P) w src dst e s hs hde hue
      have hcap1 := grownCap_ge w s.size 0 e
      have hcap2 := grownCap_le_maxLen w s.size 0 e (by unfold maxLen; omega)
      generalize grownCap w s.size 0 e = cap at *
      have hfl : zE2  (zFB  s) = zFB  s := by
        unfold zE2  zFB 
        generalize s.data.toList = l
        induction l with
        | nil => rfl
        | cons b l ih => rw [List.map_cons, List.flatMap_cons, ih]; rfl
      have hall : allC 1 (zFB  s) := fun d hd => by
        obtain ⟨b, _, rfl⟩ := List.mem_map.1 hd
        rfl
      have hlen : (zFB  s).length = s.size := by unfold zFB ; rw [List.length_map, Array.length_toList]; rfl
      have hrow : ∀ (j : Nat) (d : AV), (zFB  s)[j]? = some d → ∃ u, (bytesRow s cap)[j]? = some u ∧ u.oneCell' = true ∧ d = V u := by
        intro j d hd
        unfold zFB  at hd
        rw [List.getElem?_map] at hd
        obtain ⟨b, hb, rfl⟩ := Option.map_eq_some_iff.1 hd
        refine ⟨.int .u8 b.toNat, ?_, rfl, rfl⟩
        unfold bytesRow
        rw [Array.getElem?_append_left (by
          have := (List.getElem?_eq_some_iff.1 hb).1
          rw [Array.length_toList] at this
          simpa using this)]
        rw [Array.getElem?_map]
        rw [Array.getElem?_toList] at hb
        rw [hb]; rfl
      have hB : Below w.heap.size w (w.drew.alloc (.cells (bytesRow s cap) e ((bytesRow s cap).size, (bytesRow s cap).size + 1))) := ((Below.refl _ w).drew).alloc (Nat.le_refl _) _
      have hnew : ∀ j : Nat, (w.drew.alloc (.cells (bytesRow s cap) e ((bytesRow s cap).size, (bytesRow s cap).size + 1))).cell? ⟨w.heap.size, j, none⟩ = (bytesRow s cap)[j]? := fun j => cell_of_row _ _ j _ _ _ (heap_alloc_new w.drew _)
      obtain ⟨r2, s2⟩ := hrel.grow (S' := fun b j d => S b j d ∨ (b = w.heap.size ∧ (zFB  s)[j]? = some d)) hB (fun _ _ _ h => .inl h)
        (by
          rintro b j d (q | ⟨q, _⟩)
          · exact .inl q
          · exact .inr (by omega))
        (by
          rintro b j d (q | ⟨rfl, q⟩) hb
          · have := hrel.still_lt q; omega
          · obtain ⟨u, h1, h2, rfl⟩ := hrow j d q
            exact ⟨u, (hnew j).trans h1, h2, rfl, h2⟩)
      unfold Oper.wp
      have hx2 : (execOp a.eval o).run P w = .ok (.value (.slice (some ⟨w.heap.size, 0, none⟩) s.size cap)) (w.drew.alloc (.cells (bytesRow s cap) e ((bytesRow s cap).size, (bytesRow s cap).size + 1))) := by
        unfold execOp
        rw [ho]
        dsimp only
        rw [he]
        simp only [Sem.run_bind, Sem.run_pure, Result.andThen_ok, hrun]
      rw [hx2]
      refine ⟨SL (zFB  s), _, H, _, μ, hK, rfl, ⟨_, cap, by rw [hlen], by rw [hlen]; exact hcap1, hcap2, fun hne => ⟨w.heap.size, 0, 1, rfl, fun i d hd => ⟨hall d (List.mem_of_getElem? hd), fun j y hy => ?_⟩⟩⟩, r2, s2, fun _ => ⟨hB, rfl, rfl, ?_⟩⟩
      · obtain ⟨u, _, _, rfl⟩ := hrow i d hd
        rcases j with _ | j
        · simp only [cellsOf, List.getElem?_cons_zero, Option.some.injEq] at hy
          subst hy
          refine .inr ⟨rfl, ?_⟩
          rw [Nat.zero_add, Nat.mul_one, Nat.add_zero]; exact hd
        · simp [cellsOf] at hy
      · rintro b j d (q | ⟨q, _⟩)
        · exact .inl q
        · exact .inr (by omega)
  · rename_i es
    obtain ⟨hs, hd, h⟩ := h
    obtain ⟨e, hse, hue⟩ := zq1     hs
    split at h
    · rename_i l hl
      have hes := zbX          hl
      have hlen : es.length = l.length := by rw [hes]; simp
      refine z1w    hrel (hex _ ?_) h (zjI   rfl)
      obtain ⟨A, c, hv, _, _, hS⟩ := hx
      rw [hv, hlen]
      cases A with
      | none =>
        have : es = [] := by
          refine Classical.byContradiction fun q => ?_
          obtain ⟨b, o, z, q2, _⟩ := hS q
          cases q2
        have : l = [] := List.eq_nil_of_length_eq_zero (by rw [← hlen, this]; rfl)
        subst this
        exact run_convert_bytes_nil w src e hse hue _ c dst hd
      | some ad =>
        refine run_convert_bytes_back w src dst e ad c l hse hue hd fun j hj => ?_
        obtain ⟨b, o, z, q2, hin⟩ := hS (by intro q; rw [q] at hlen; simp at hlen; omega)
        injection q2 with q2
        subst q2
        have hej : es[j]? = some (V (.int .u8 (l[j].toNat : Int))) := by rw [hes, List.getElem?_map, List.getElem?_eq_getElem hj]; rfl
        obtain ⟨hz, hc⟩ := hin j _ hej
        have hz1 : z = 1 := hz.symm
        subst hz1
        obtain ⟨u, h1, _, h2⟩ := hrel.still _ _ _ (hc 0 _ rfl)
        have h2 : u = .int .u8 (l[j].toNat : Int) := h2.1
        rw [show (⟨b, o, none⟩ : Addr).add j = ⟨b, o + j * 1 + 0, none⟩ from by unfold Addr.add; split <;> simp_all, h1, h2]
    · exact h.elim
  · exact h.elim
end
end Go.Proofs.YtaplemeamcgpkaaDoor

namespace Go.Proofs.YtaplemeamcgpkaaDoor
open Go.RowKit
theorem zsh {S : SS} {b z : Nat} : ∀ {es : List AV} {o : Nat},inS S b o z es → ∀ (j : Nat) (y : AV),(zE2 es)[j]? = some y → S b (o + j) y
 |[],o,_,j,y,hy=>by simp [zE2] at hy
 |d :: es,o,h,j,y,hy=>by
  have h0 := h 0 d rfl
  have ht : inS S b (o + z) z es := fun i d' hd'=>by
   have := h (i + 1) d' (by simpa using hd')
   refine ⟨this.1,fun j y hy=>?_⟩
   have := this.2 j y hy
   rw [show o + z + i * z + j = o + (i + 1) * z + j by rw [Nat.succ_mul];omega];exact this
  simp only [zE2,List.flatMap_cons] at hy
  rcases Nat.lt_or_ge j z with hj|hj
  ·rw [List.getElem?_append_left (by rw [h0.1];exact hj)] at hy
   have := h0.2 j y hy
   simpa using this
  ·rw [List.getElem?_append_right (by rw [h0.1];exact hj),h0.1] at hy
   have := zsh ht (j - z) y hy
   rw [show o + z + (j - z) = o + j by omega] at this;exact this
theorem zbD {S : SS} {b z : Nat} : ∀ {es : List AV} {o : Nat},allC z es → (∀ (j : Nat) (y : AV),(zE2 es)[j]? = some y → S b (o + j) y) → inS S b o z es
 |[],o,_,_=>fun i d hd=>by simp at hd
 |d :: es,o,hc,h=>by
  have h0 := hc d (List.mem_cons_self ..)
  have ht : inS S b (o + z) z es := zbD (fun x hx=>hc x (List.mem_cons_of_mem _ hx)) fun j y hy=>by
   have := h (z + j) y (by
    simp only [zE2,List.flatMap_cons]
    rw [List.getElem?_append_right (by omega),h0,show z + j - z = j by omega];exact hy)
   rw [show o + z + j = o + (z + j) by omega];exact this
  intro i d' hd'
  rcases i with _|i
  ·simp at hd';subst hd'
   refine ⟨h0,fun j y hy=>?_⟩
   have := h j y (by
    simp only [zE2,List.flatMap_cons]
    rw [List.getElem?_append_left (List.getElem?_eq_some_iff.1 hy).1];exact hy)
   simpa using this
  ·have := ht i d' (by simpa using hd')
   refine ⟨this.1,fun j y hy=>?_⟩
   have := this.2 j y hy
   rw [show o + (i + 1) * z + j = o + z + i * z + j by rw [Nat.succ_mul];omega];exact this
theorem inS.allC {S : SS} {b o z : Nat} {es : List AV} (h : inS S b o z es) : allC z es := fun d hd=>by
 obtain ⟨i,hi⟩ := List.getElem?_of_mem hd
 exact (h i d hi).1
theorem ziT (a b : List AV) : zE2 (a ++ b) = zE2 a ++ zE2 b := by simp [zE2]
section
variable {P : Program} {G : Gl} {w : World} {S : SS} {μ : List Value} {H : List AObj} {a : Act} {o : Oper} {K : AV → List AObj → Prop} {Q : Exit → Act → World → Prop}
theorem Rel.regrow {w' : World} {S' : SS} {i : Nat} {v v' : Value} {ob ob' : AObj} (hr : Rel w S μ H) (hμ : μ[i]? = some v) (ho : H[i]? = some ob) (hk : ob.k = 2) (hk' : ob'.k = 2)
  (hos : w'.os = w.os ∧ w'.tape = w.tape ∧ w'.output = w.output ∧ w.heap.size ≤ w'.heap.size) (hb : ∀ b,b < w.heap.size → z2I v ≠ some b → w'.heap[b]? = w.heap[b]?)
  (hc : ∀ b j d,S b j d → w'.cell? ⟨b,j,none⟩ = w.cell? ⟨b,j,none⟩) (h1 : ∀ b j d,S b j d → S' b j d)
  (h2 : ∀ b j d,S' b j d → S b j d ∨ (z2I v' = some b ∧ j < ob'.c.length * ob'.z ∧ ∃ u,w'.cell? ⟨b,j,none⟩ = some u ∧ u.oneCell' = true ∧ rep1 S' [] d u))
  (hv : ∀ b,z2I v' = some b → z2I v = some b ∨ w.heap.size ≤ b) (hle : ob.c.length * ob.z ≤ ob'.c.length * ob'.z)
  (he : v' = v ∨ ∃ (A : Option Addr) (m c : Nat) (A' : Option Addr) (m' c' : Nat),v = Value.slice A m c ∧ v' = Value.slice A' m' c' ∧ m < m')
  (hob : objRep w' S' (μ.set i v') v' ob') : Rel w' S' (μ.set i v') (H.set i ob') ∧ Step H.length w S μ H w' S' (μ.set i v') (H.set i ob') := by
 have hil : i < μ.length := (List.getElem?_eq_some_iff.1 hμ).1
 have hiH : i < H.length := (List.getElem?_eq_some_iff.1 ho).1
 have hext : Ext S μ S' (μ.set i v') := ⟨h1,fun i' x hx=>by
  by_cases e : i' = i
  ·subst e
   rw [hμ] at hx;injection hx with hx;subst hx
   exact ⟨v',List.getElem?_set_self hil,he.elim .inl fun q=>.inr (.inl q)⟩
  ·exact ⟨x,by rw [List.getElem?_set_ne (Ne.symm e)];exact hx, .inl rfl⟩⟩
 have hext0 : Ext S [] S' [] := ⟨h1,fun i x hx=>by simp at hx⟩
 have hget : ∀ (i' : Nat) (x' : Value) (o' : AObj),(μ.set i v')[i']? = some x' → (H.set i ob')[i']? = some o' → (i' = i ∧ x' = v' ∧ o' = ob') ∨ (i' ≠ i ∧ μ[i']? = some x' ∧ H[i']? = some o') := by
  intro i' x' o' hx' ho'
  by_cases e : i' = i
  ·subst e
   rw [List.getElem?_set_self hil] at hx'
   rw [List.getElem?_set_self hiH] at ho'
   injection hx' with hx';injection ho' with ho'
   exact .inl ⟨rfl,hx'.symm,ho'.symm⟩
  ·rw [List.getElem?_set_ne (Ne.symm e)] at hx' ho';exact .inr ⟨e,hx',ho'⟩
 have hne : ∀ (i' : Nat) (x' : Value) (o' : AObj) (b : Nat),i' ≠ i → μ[i']? = some x' → H[i']? = some o' → o'.k ≠ 0 → z2I x' = some b → z2I v ≠ some b := by
  intro i' x' o' b hn hx ho' hk0 hb' e
  exact hn (hr.sep i' i x' v o' ob b hx ho' hk0 hb' hμ ho (by omega) e)
 have hne' : ∀ (i' : Nat) (x' : Value) (o' : AObj) (b : Nat),i' ≠ i → μ[i']? = some x' → H[i']? = some o' → o'.k ≠ 0 → z2I x' = some b → z2I v' ≠ some b := by
  intro i' x' o' b hn hx ho' hk0 hb' e
  rcases hv b e with q|q
  ·exact hne i' x' o' b hn hx ho' hk0 hb' q
  ·have := hr.own_lt hx ho' hk0 hb';omega
 refine ⟨⟨by simpa using hr.len,fun b j d hs=>?_,fun i' x' o' hx' ho'=>?_,fun i' x' o' hx' ho'=>?_,fun i1 i2 x1 x2 o1 o2 b hx1 ho1 hk1 hb1 hx2 ho2 hk2 hb2=>?_,fun i' x' o' b hx' ho' hk0 hb' j d hs=>?_⟩,
  ⟨hos.1,hos.2.1,hos.2.2.1,hos.2.2.2,fun b hlt hn=>hb b hlt fun e=>hn ⟨i,v,ob,hμ,ho,by omega,e⟩,h1,fun i' x _ hx=>hext.objs i' x hx,fun b j d hs hlt=>?_,fun b hob' hlt=>?_⟩⟩
 ·rcases h2 b j d hs with q|⟨_,_,q⟩
  ·obtain ⟨u,hu,h4,h5⟩ := hr.still b j d q
   exact ⟨u,by rw [hc b j d q];exact hu,h4,h5.ext hext0⟩
  ·exact q
 ·rcases hget i' x' o' hx' ho' with ⟨_,rfl,rfl⟩|⟨hn,q1,q2⟩
  ·exact .inr (.inr (.inl hk'))
  ·exact hr.kinds i' x' o' q1 q2
 ·rcases hget i' x' o' hx' ho' with ⟨_,rfl,rfl⟩|⟨hn,q1,q2⟩
  ·exact hob
  ·by_cases hk0 : o'.k = 0
   ·exact objRep.zero hk0
   ·exact (hr.objs i' x' o' q1 q2).move hext fun b hb'=>hb b (hr.own_lt q1 q2 hk0 hb') (hne i' x' o' b hn q1 q2 hk0 hb')
 ·rcases hget i1 x1 o1 hx1 ho1 with ⟨rfl,rfl,rfl⟩|⟨hn,q1,q2⟩
  ·rcases hget i2 x2 o2 hx2 ho2 with ⟨rfl,_,_⟩|⟨hn2,q3,q4⟩
   ·rfl
   ·exact absurd hb1 (hne' i2 x2 o2 b hn2 q3 q4 hk2 hb2)
  ·rcases hget i2 x2 o2 hx2 ho2 with ⟨rfl,rfl,rfl⟩|⟨hn2,q3,q4⟩
   ·exact absurd hb2 (hne' i1 x1 o1 b hn q1 q2 hk1 hb1)
   ·exact hr.sep i1 i2 x1 x2 o1 o2 b q1 q2 hk1 hb1 q3 q4 hk2 hb2
 ·rcases hget i' x' o' hx' ho' with ⟨rfl,rfl,rfl⟩|⟨hn,q1,q2⟩
  ·refine ⟨hk',?_⟩
   rcases h2 b j d hs with q|⟨_,q,_⟩
   ·rcases hv b hb' with q2|q2
    ·have := (hr.apart i' v ob b hμ ho (by omega) q2 j d q).2;omega
    ·have := hr.still_lt q;omega
   ·exact q
  ·rcases h2 b j d hs with q|⟨q,_,_⟩
   ·exact hr.apart i' x' o' b q1 q2 hk0 hb' j d q
   ·exact absurd q (hne' i' x' o' b hn q1 q2 hk0 hb')
 ·rcases h2 b j d hs with q|⟨q,_,_⟩
  ·exact .inl q
  ·rcases hv b q with q2|q2
   ·exact .inr ⟨i,v,ob,hμ,ho,by omega,q2⟩
   ·omega
 ·obtain ⟨i',x',o',hx',ho',hk0,hb'⟩ := hob'
  rcases hget i' x' o' hx' ho' with ⟨rfl,rfl,rfl⟩|⟨hn,q1,q2⟩
  ·rcases hv b hb' with q|q
   ·exact ⟨i',v,ob,hμ,ho,by omega,q⟩
   ·omega
  ·exact ⟨i',x',o',q1,q2,hk0,hb'⟩
end
end Go.Proofs.YtaplemeamcgpkaaDoor

namespace Go.Proofs.YtaplemeamcgpkaaDoor
open Go.RowKit
def zEP (P : Program) (t : TypeId) : Option (TypeId × Nat) :=
 match P.underlying t with
 |some (.slice e)=>match P.info? e with
  |some i=>match i.zero with
   |some z=>if z.cells.size = i.size ∧ 0 < i.size ∧ i.bytes ≤ 4096 ∧ z.cells.all (·.oneCell') = true then some (e,i.size) else none
   |none=>none
  |none=>none
 |_=>none
theorem zaV {P : Program} {t e : TypeId} {z : Nat} (h : zEP P t = some (e,z)) : P.underlying t = some (.slice e) ∧ ∃ i v,P.info? e = some i ∧ i.zero = some v ∧ v.cells.size = i.size ∧ i.size = z ∧ 0 < z ∧ i.bytes ≤ 4096 ∧ v.cells.all (·.oneCell') = true := by
 unfold zEP at h
 cases hu : P.underlying t with
 |none=>rw [hu] at h;cases h
 |some d =>
  rw [hu] at h
  cases d <;> simp only at h <;> try (cases h;done)
  rename_i e'
  cases hi : P.info? e' with
  |none=>rw [hi] at h;cases h
  |some i =>
   rw [hi] at h
   simp only at h
   cases hz : i.zero with
   |none=>rw [hz] at h;cases h
   |some v =>
    rw [hz] at h
    simp only at h
    split at h
    ·rename_i hh
     injection h with h;injection h with h1 h2
     subst h1
     exact ⟨rfl,i,v,hi,hz,hh.1,h2,by omega,hh.2.2⟩
    ·cases h
section
variable {P : Program} {G : Gl} {w : World} {S : SS} {μ : List Value} {H : List AObj} {a : Act} {o : Oper} {K : AV → List AObj → Prop} {Q : Exit → Act → World → Prop}
theorem ziN {base e z : Nat} {v : Value} {n : Nat} {us : List Value} (h : w.ownsRow base e z v n us) : ∃ A c,v = .slice A n c ∧ n ≤ c ∧ c ≤ maxLen := by
 rcases h.2 with ⟨rfl,rfl⟩|⟨g,cap,cur,rfl,_,_,h1,h2,_⟩
 ·exact ⟨none,0,rfl,Nat.le_refl _,Nat.zero_le _⟩
 ·exact ⟨_,cap,rfl,h1,h2⟩
theorem row_appS {t tx : TypeId} (ty : TypeId) {e : TypeId} {z : Nat} (hT : zEP  P t = some (e, z)) (hr : Rel w S μ H) {i : Nat} {v : Value} {ob : AObj} (hμ : μ[i]? = some v) (ho : H[i]? = some ob) (hk : ob.k = 2) (he : ob.e = e) (hz : ob.z = z)
    {es : List AV} {x : Value} {news : List Value} (hs : Src P z tx x es.length news w) (hnr : reps S [] (zE2  es) news) (hall : allC z es) (hroom : ob.c.length + es.length ≤ 34359738368) :
    ∃ A' c' w' S', (Builtin.append_ #[t, tx] ty #[v, x]).run P w = .ok (.slice A' (ob.c.length + es.length) c') w' ∧
      Rel w' S' (μ.set i (.slice A' (ob.c.length + es.length) c')) (H.set i { ob with c := ob.c ++ es }) ∧ Step H.length w S μ H w' S' (μ.set i (.slice A' (ob.c.length + es.length) c')) (H.set i { ob with c := ob.c ++ es }) := by
  obtain ⟨ht, inf, zv, hi, hzv, hzs, hsz, hz0, hby, _⟩ := zaV       hT
  subst hsz he
  obtain ⟨us, A0, c0, hv, hl1, hl2, hown, hrow⟩ := (hr.objs i v ob hμ ho).2.1 hk
  have hil : i < μ.length := (List.getElem?_eq_some_iff.1 hμ).1
  have hiH : i < H.length := (List.getElem?_eq_some_iff.1 ho).1
  rw [hz] at hown
  by_cases hes : es = []
  · subst hes
    refine ⟨A0, c0, w, S, ?_, ?_⟩
    · have hn0 : news = [] := List.eq_nil_of_length_eq_zero (by have := hs.newsLen; simpa using this)
      subst hn0
      rw [hv]; exact run_append_nothing w t tx ty ob.e inf ht hi A0 _ c0 hl1 x hs
    · have h2 : μ.set i (.slice A0 (ob.c.length + ([] : List AV).length) c0) = μ := by
        rw [List.length_nil, Nat.add_zero, ← hv]
        apply List.ext_getElem?
        intro j
        by_cases e : j = i
        · subst e; rw [List.getElem?_set_self hil, hμ]
        · rw [List.getElem?_set_ne (Ne.symm e)]
      have h3 : H.set i { ob with c := ob.c ++ [] } = H := by
        apply List.ext_getElem?
        intro j
        by_cases e : j = i
        · subst e; rw [List.getElem?_set_self hiH, ho, List.append_nil]
        · rw [List.getElem?_set_ne (Ne.symm e)]
      rw [h2, h3]
      exact ⟨hr, Step.refl _ _ _ _ _⟩
  · have hm : 0 < es.length := List.length_pos_iff.2 hes
    have hnl : news.length = es.length * inf.size := hs.newsLen
    have hn1 : ∀ u ∈ news, u.oneCell' = true := hs.one
    have hallc : allC inf.size ob.c := by
      by_cases hc : ob.c = []
      · rw [hc]; intro d hd; cases hd
      · obtain ⟨b, _, h⟩ := hrow hc
        rw [hz] at h; exact h.allC
    have hcl := z1p          hallc
    have hbytes : (ob.c.length + es.length) * inf.bytes ≤ 140737488355328 := by have := Nat.mul_le_mul hroom hby; omega
    have hml : ob.c.length + es.length ≤ 9223372036854775807 := by omega
    obtain ⟨us, hown⟩ : ∃ us', (c0 = 0 → us' = []) ∧ us'.length = ob.c.length * inf.size ∧ (c0 ≠ 0 → w.ownsRow 0 ob.e inf.size v ob.c.length us') := by
      by_cases h0 : c0 = 0
      · exact ⟨[], fun _ => rfl, by have : ob.c.length = 0 := by omega
                                    rw [this, Nat.zero_mul]; rfl, fun q => absurd h0 q⟩
      · exact ⟨us, fun q => absurd q h0, (hown h0).1, fun _ => hown h0⟩
    obtain ⟨hus0, hulen, hown⟩ := hown
    have hus : reps S [] (zE2  ob.c) us := by
      refine ⟨by rw [hulen, hcl], fun j d u hd hu => ?_⟩
      have hjl := (List.getElem?_eq_some_iff.1 hd).1
      have hc : ob.c ≠ [] := by intro e; rw [e] at hjl; simp [zE2 ] at hjl
      obtain ⟨b, e2, h⟩ := hrow hc
      rw [hz] at h
      obtain ⟨u', h1, h2, h3⟩ := hr.still _ _ _ (zsh    h j d hd)
      have hc0 : c0 ≠ 0 := by
        intro q
        have : ob.c.length = 0 := by omega
        exact hc (List.eq_nil_of_length_eq_zero this)
      have h4 := (hown hc0).cells (g := b) (by rw [hv, e2]; rfl) j u hu
      rw [Addr.add_lit] at h4
      rw [h1] at h4; injection h4 with h4; subst h4
      exact ⟨h2, h3⟩
    have hrep : reps S [] (zE2  (ob.c ++ es)) (us ++ news) := by
      rw [ziT        ]
      refine ⟨by simp [hus.1, hnr.1], fun j d u hd hu => ?_⟩
      rcases Nat.lt_or_ge j (zE2  ob.c).length with hj | hj
      · rw [List.getElem?_append_left hj] at hd
        rw [List.getElem?_append_left (by rw [hus.1]; exact hj)] at hu
        exact hus.2 j d u hd hu
      · rw [List.getElem?_append_right hj] at hd
        rw [List.getElem?_append_right (by rw [hus.1]; exact hj), hus.1] at hu
        exact hnr.2 _ d u hd hu
    have hlen : (us ++ news).length = (ob.c.length + es.length) * inf.size := by rw [List.length_append, hulen, hnl, Nat.add_mul]
    have hall2 : allC inf.size (ob.c ++ es) := fun d hd => (List.mem_append.1 hd).elim (hallc d) (hall d)
    have hne2 : v ≠ .slice (some ⟨0, 0, none⟩) 0 0 ∨ True := .inr trivial
    have fin : ∀ (g cap : Nat) (w' : World), (Builtin.append_ #[t, tx] ty #[v, x]).run P w = .ok (.slice (some ⟨g, 0, none⟩) (ob.c.length + es.length) cap) w' →
        (w'.os = w.os ∧ w'.tape = w.tape ∧ w'.output = w.output ∧ w.heap.size ≤ w'.heap.size) → (∀ b, b < w.heap.size → z2I   v ≠ some b → w'.heap[b]? = w.heap[b]?) →
        (∀ b j d, S b j d → w'.cell? ⟨b, j, none⟩ = w.cell? ⟨b, j, none⟩) → (z2I   v = some g ∨ w.heap.size ≤ g) → w'.ownsRow 0 ob.e inf.size (.slice (some ⟨g, 0, none⟩) (ob.c.length + es.length) cap) (ob.c.length + es.length) (us ++ news) →
        ∃ A' c' w' S', (Builtin.append_ #[t, tx] ty #[v, x]).run P w = .ok (.slice A' (ob.c.length + es.length) c') w' ∧
          Rel w' S' (μ.set i (.slice A' (ob.c.length + es.length) c')) (H.set i { ob with c := ob.c ++ es }) ∧ Step H.length w S μ H w' S' (μ.set i (.slice A' (ob.c.length + es.length) c')) (H.set i { ob with c := ob.c ++ es }) := by
      intro g cap w' hrun hos hb hc hg hown'
      refine ⟨some ⟨g, 0, none⟩, cap, w', fun b j d => S b j d ∨ (b = g ∧ (zE2  (ob.c ++ es))[j]? = some d), hrun, ?_⟩
      have h1 : ∀ b j d, S b j d → (fun b j d => S b j d ∨ (b = g ∧ (zE2  (ob.c ++ es))[j]? = some d)) b j d := fun b j d h => .inl h
      refine hr.regrow (ob' := { ob with c := ob.c ++ es }) hμ ho hk hk hos hb hc h1 ?_ ?_ ?_ ?_ ?_
      · rintro b j d (q | ⟨rfl, q⟩)
        · exact .inl q
        · have hjl := (List.getElem?_eq_some_iff.1 q).1
          have hjl' : j < (us ++ news).length := by rw [hrep.1]; exact hjl
          refine .inr ⟨by simp only [z2I  ]; rw [if_neg (by obtain ⟨_, _, q3, q4, _⟩ := ziN    hown'; injection q3 with _ _ q5; omega)], ?_, (us ++ news)[j], ?_, (hrep.2 j d _ q (List.getElem?_eq_getElem hjl')).1, ((hrep.2 j d _ q (List.getElem?_eq_getElem hjl')).2).ext ⟨h1, fun i x hx => by simp at hx⟩⟩
          · rw [z1p          hall2] at hjl
            show j < (ob.c ++ es).length * ob.z
            rw [hz]; exact hjl
          · have := hown'.cells (g := b) rfl j _ (List.getElem?_eq_getElem hjl')
            rw [Addr.add_lit] at this
            simpa using this
      · intro b hb'
        have : g = b := by
          simp only [z2I  ] at hb'
          split at hb'
          · cases hb'
          · injection hb'
        subst this; exact hg
      · show ob.c.length * ob.z ≤ (ob.c ++ es).length * ob.z
        exact Nat.mul_le_mul_right _ (by simp)
      · exact .inr ⟨A0, ob.c.length, c0, _, _, _, hv, rfl, by omega⟩
      · obtain ⟨A9, c9, q3, q4, q5⟩ := ziN    hown'
        injection q3 with _ _ q3
        subst q3
        refine ⟨fun h => by simp only at h; omega, fun _ => ⟨us ++ news, some ⟨g, 0, none⟩, cap, by simp, by simpa using q4, q5, fun _ => by simp only [hz, List.length_append]; exact hown', fun _ => ⟨g, rfl, ?_⟩⟩, fun h => by simp only at h; omega, fun h => by simp only at h; omega⟩
        simp only [hz]
        exact zbD      hall2 fun j y hy => .inr ⟨rfl, by simpa using hy⟩
    by_cases hc00 : c0 = 0
    · have h0 : ob.c.length = 0 := by omega
      have hc0 : ob.c = [] := List.eq_nil_of_length_eq_zero h0
      have hus0 := hus0 hc00
      have fin2 : ∀ (cp : Nat), es.length ≤ cp → cp ≤ maxLen → (Builtin.append_ #[t, tx] ty #[v, x]).run P w = .ok (.slice (some ⟨w.heap.size, 0, none⟩) (ob.c.length + es.length) cp) (w.drew.alloc (.cells (news.toArray ++ Builtin.zeroCells zv.cells (cp - es.length)) ob.e)) →
          ∃ A' c' w' S', (Builtin.append_ #[t, tx] ty #[v, x]).run P w = .ok (.slice A' (ob.c.length + es.length) c') w' ∧
          Rel w' S' (μ.set i (.slice A' (ob.c.length + es.length) c')) (H.set i { ob with c := ob.c ++ es }) ∧ Step H.length w S μ H w' S' (μ.set i (.slice A' (ob.c.length + es.length) c')) (H.set i { ob with c := ob.c ++ es }) := by
        intro cp hge hcm hrn2
        refine fin w.heap.size cp _ hrn2 ⟨rfl, rfl, rfl, by simp⟩ (fun b hb _ => heap_alloc_old w.drew _ hb) (fun b j d hs => World.cell?_of_block (heap_alloc_old w.drew _ (hr.still_lt hs))) (.inr (Nat.le_refl _)) ?_
        rw [hus0, h0]
        simp only [List.nil_append, Nat.zero_add]
        refine ⟨hnl, .inr ⟨w.heap.size, _, _, rfl, Nat.zero_le _, heap_alloc_new w.drew _, hge, hcm, ?_, ?_⟩⟩
        · simp only [Array.size_append, List.size_toArray, size_zeroCells, hzs, hnl, ← Nat.add_mul]
          congr 1; omega
        · simp only [Array.toList_append]
          rw [← hnl]; exact List.take_left
      have hold : (Builtin.firstCells inf.size 0 (.slice A0 0 0)).run P w.drew = .ok ([] : List Value).toArray w.drew := by
        cases A0 with
        | none => exact run_firstCells_none w.drew inf.size 0 0 0
        | some ad => exact run_firstCells_some w.drew inf.size 0 ad 0 0 [] (by simp) (fun j u hj => by simp at hj)
      have hrn := run_append_grow_src (P := P) w t tx ty ob.e inf zv ht hi hzv A0 0 0 [] hold x es.length news hs (by omega) (by omega) (growslice_fits (by omega) (by rw [h0] at hbytes; exact hbytes))
      simp only [Nat.zero_add] at hrn
      refine fin2 _ (grownCap_ge w es.length 0 ob.e) (grownCap_le_maxLen w es.length 0 ob.e (by unfold maxLen; omega)) ?_
      rw [hv, h0, hc00, Nat.zero_add]
      simpa using hrn
    have hown := hown hc00
    rcases hown.2 with ⟨hnil, h0⟩ | ⟨g, cap, cur, hvv, _, hg, hnc2, hcm, hcs, htake⟩
    · rw [hv] at hnil; injection hnil with _ _ q; exact absurd q hc00
    · have hcap0 : cap ≠ 0 := by rw [hv] at hvv; injection hvv with _ _ q; omega
      have hvb : z2I   v = some g := by rw [hvv]; simp only [z2I  ]; rw [if_neg hcap0]
      by_cases hfit : ob.c.length + es.length ≤ cap
      · have hfit2 : ob.c.length * inf.size + news.length ≤ cur.size := by rw [hnl, hcs, ← Nat.add_mul]; exact Nat.mul_le_mul_right _ hfit
        have hst := run_storeCells_at P g (ob.c.length * inf.size) ob.e news 0 cur w hg (by simpa using hfit2) hn1
        simp only [Nat.add_zero] at hst
        have hrn : (Builtin.append_ #[t, tx] ty #[.slice (some ⟨g, 0, none⟩) ob.c.length cap, x]).run P w = .ok (.slice (some ⟨g, 0, none⟩) (ob.c.length + es.length) cap) (w.setRow g (cur.toList.take (ob.c.length * inf.size) ++ news ++ cur.toList.drop (ob.c.length * inf.size + news.length)).toArray) := by
          rcases hs.kind with ⟨e', hk'⟩ | hk' <;> simp [Builtin.append_, run_underlying ht, run_underlying hk', sizeOf, typeInfo, hi, hs.len, hfit, hs.cells, Addr.add_lit, hst]
        rw [← hvv] at hrn
        refine fin g cap _ hrn ⟨rfl, rfl, rfl, by simp⟩ (fun b _ hb => setRow_other w g b _ (fun e => hb (by rw [hvb, e]))) (fun b j d hs => ?_) (.inl hvb) ?_
        · by_cases e : b = g
          · subst e
            have hap := (hr.apart i v ob b hμ ho (by omega) hvb j d hs).2
            rw [hz] at hap
            rw [cell_of_row _ b j _ ob.e (0, 0) (setRow_heap w b cur _ ob.e _ hg), cell_of_row w b j cur ob.e (0, 0) hg]
            have hjc : j < cur.size := by rw [hcs]; exact Nat.lt_of_lt_of_le hap (Nat.mul_le_mul_right _ hnc2)
            simp only [List.getElem?_toArray]
            rw [List.append_assoc, List.getElem?_append_left (by rw [List.length_take]; simp only [Array.length_toList]; omega), List.getElem?_take, if_pos hap]
            simp
          · exact World.cell?_of_block (setRow_other w g b _ e)
        · refine ⟨hlen, .inr ⟨g, cap, _, rfl, Nat.zero_le _, setRow_heap w g cur _ ob.e _ hg, hfit, hcm, ?_, ?_⟩⟩
          · simp only [List.size_toArray, List.length_append, List.length_take, List.length_drop, Array.length_toList]
            omega
          · rw [htake, ← hlen]
            exact List.take_left
      · have hbl : ∀ j u, us[j]? = some u → w.cell? ((⟨g, 0, none⟩ : Addr).add j) = some u := hown.cells (g := g) (by rw [hvv]; rfl)
        have hrn := run_append_grow_src (P := P) w t tx ty ob.e inf zv ht hi hzv (some ⟨g, 0, none⟩) ob.c.length cap us (run_firstCells_some w.drew inf.size ob.c.length ⟨g, 0, none⟩ ob.c.length cap us hown.1 (by simpa using hbl)) x es.length news hs (by omega) (by omega) (growslice_fits (by omega) hbytes)
        have hge := grownCap_ge w (ob.c.length + es.length) cap ob.e
        have hcm2 := grownCap_le_maxLen w (ob.c.length + es.length) cap ob.e (by unfold maxLen; omega)
        rw [← hvv] at hrn
        refine fin w.heap.size (grownCap w (ob.c.length + es.length) cap ob.e) _ hrn ⟨rfl, rfl, rfl, by simp⟩ (fun b hb _ => heap_alloc_old w.drew _ hb) (fun b j d hs => World.cell?_of_block (heap_alloc_old w.drew _ (hr.still_lt hs))) (.inr (Nat.le_refl _)) ?_
        refine ⟨hlen, .inr ⟨w.heap.size, _, _, rfl, Nat.zero_le _, heap_alloc_new w.drew _, hge, hcm2, ?_, ?_⟩⟩
        · simp only [Array.size_append, List.size_toArray, List.length_append, size_zeroCells, hzs, hown.1, hnl, ← Nat.add_mul]
          congr 1; omega
        · simp only [Array.toList_append, List.append_assoc]
          rw [← List.append_assoc, ← hlen]
          exact List.take_left
theorem zqs {t : TypeId} (ty : TypeId) {e : TypeId} {z : Nat} (hT : zEP P t = some (e,z)) (hr : Rel w S μ H) {i : Nat} {v : Value} {ob : AObj} (hμ : μ[i]? = some v) (ho : H[i]? = some ob) (hk : ob.k = 2) (he : ob.e = e) (hz : ob.z = z)
  {es : List AV} {A : Option Addr} {c : Nat} (hin : es ≠ [] → ∃ b o z',A = some ⟨b,o,none⟩ ∧ inS S b o z' es) (hall : allC z es) (hroom : ob.c.length + es.length ≤ 34359738368) :
  ∃ A' c' w' S',(Builtin.append_ #[t,t] ty #[v, .slice A es.length c]).run P w = .ok (.slice A' (ob.c.length + es.length) c') w' ∧
   Rel w' S' (μ.set i (.slice A' (ob.c.length + es.length) c')) (H.set i { ob with c := ob.c ++ es }) ∧ Step H.length w S μ H w' S' (μ.set i (.slice A' (ob.c.length + es.length) c')) (H.set i { ob with c := ob.c ++ es }) := by
 obtain ⟨ht,inf,zv,hi,hzv,hzs,hsz,hz0,hby,_⟩ := zaV hT
 by_cases hes : es = []
 ·subst hes
  have hc : ∀ w' : World,(Builtin.firstCells z 0 (.slice A 0 c)).run P w' = .ok ([] : List Value).toArray w' := fun w'=>by
   cases A with
   |none=>exact run_firstCells_none w' z 0 0 c
   |some ad=>exact run_firstCells_some w' z 0 ad 0 c [] (by simp) (fun j u hj=>by simp at hj)
  exact row_appS ty hT hr hμ ho hk he hz ⟨.inl ⟨_,ht⟩,fun _=>rfl,hc w,hc w.drew,by simp,fun u hu=>by cases hu⟩ ⟨rfl,fun j d u hd hu=>by simp at hu⟩ hall hroom
 ·obtain ⟨b1,o1,z1,rfl,hin1⟩ := hin hes
  have hm : 0 < es.length := List.length_pos_iff.2 hes
  have hz1 : z1 = z := by
   obtain ⟨d,hd⟩ := List.exists_mem_of_length_pos hm
   rw [← hin1.allC d hd,hall d hd]
  subst hz1
  obtain ⟨news,hnr,hnc⟩ := z9C hr (cs := zE2 es) (fun j y hy=>zsh hin1 j y hy)
  have hnl : news.length = es.length * z1 := by rw [hnr.1,z1p hall]
  have hn1 : ∀ u ∈ news,u.oneCell' = true := by
   intro u hu
   obtain ⟨j,hj⟩ := List.getElem?_of_mem hu
   have hlt : j < (zE2 es).length := by rw [← hnr.1];exact (List.getElem?_eq_some_iff.1 hj).1
   exact (hnr.2 j _ u (List.getElem?_eq_getElem hlt) hj).1
  exact row_appS ty hT hr hμ ho hk he hz (Src.ofSlice w ht _ es.length c news hnl hnc hn1) hnr hall hroom
end
end Go.Proofs.YtaplemeamcgpkaaDoor

namespace Go.Proofs.YtaplemeamcgpkaaDoor
open Go.RowKit
section
variable {P : Program} {G : Gl} {w : World} {S : SS} {μ : List Value} {H : List AObj} {a : Act} {o : Oper} {K : AV → List AObj → Prop} {Q : Exit → Act → World → Prop}
def zDr (P : Program) (t : TypeId) (H : List AObj) (x y : AV) (K : AV → List AObj → Prop) : Prop :=
 match zEP P t with
 |some (e,z)=>z1d H y fun es=>allC z es ∧ (match x with
  |.held (.inl (.slice none 0 0))=>es.length ≤ 34359738368 ∧ K (OW H.length es.length) (H ++ [⟨2,e,z,es⟩])
  |.slice _ [.held (.inl (.bool _))]=>es.length ≤ 34359738368 ∧ K (OW H.length es.length) (H ++ [⟨2,e,z,es⟩])
  |.held (.inr (.inr (i,n)))=>zEG H i fun ob=>ob.k = 2 ∧ ob.e = e ∧ ob.z = z ∧ n = ob.c.length ∧ n + es.length ≤ 34359738368 ∧ K (OW i (n + es.length)) (H.set i { ob with c := ob.c ++ es })
  |_=>False)
 |none=>False
theorem zkJ (A : Option Addr) (n : Nat) : z2I (.slice A n 0) = none := by cases A <;> simp [z2I]
theorem Rel.nilRow (hr : Rel w S μ H) (A : Option Addr) (e : TypeId) (z : Nat) : Rel w S (μ ++ [.slice A 0 0]) (H ++ [⟨2,e,z,[]⟩]) ∧ Step H.length w S μ H w S (μ ++ [.slice A 0 0]) (H ++ [⟨2,e,z,[]⟩]) :=
 ⟨hr.add (o := ⟨2,e,z,[]⟩) (.inr (.inr (.inl rfl))) ⟨fun h=>(by simp at h),fun _=>⟨[],A,0,rfl,Nat.le_refl _,Nat.zero_le _,fun h=>absurd rfl h,fun h=>absurd rfl h⟩,fun h=>(by simp at h),fun h=>(by simp at h)⟩ (fun b hb=>(by rw [zkJ] at hb;cases hb)),
  (Step.refl H.length w S μ H).add hr.len (fun b hb=>(by rw [zkJ] at hb;cases hb))⟩
theorem zmX {x y : Operand} {t : TypeId} {d e : AV} (hrel : Rel w S μ H) (ho : o.op = .call { callee := .builtin .append,args := #[x,y],argTypes := #[t,t] }) (hx : rep S μ d (a.eval x)) (hy : rep S μ e (a.eval y)) (h : zDr P t H d e K) : o.wp P a w (z1u w S μ H a o K) Q := by
 have hex : ∀ v w',(Builtin.append_ #[t,t] o.type #[a.eval x,a.eval y]).run P w = .ok v w' → (execOp a.eval o).run P w = .ok (.value v) w' := by
  intro v w' hl
  unfold execOp
  rw [ho]
  simp only [resolve,invoke,builtin,Sem.run_bind,Sem.run_pure,Result.andThen_ok,List.map_toArray,List.map_cons,List.map_nil,hl]
 unfold zDr at h
 split at h
 ·rename_i et z hT
  obtain ⟨es,A,c,⟨hall,hK⟩,hv,h1,h2,h3⟩ := zbb hrel hy h
  have nilc : ∀ (A0 : Option Addr),a.eval x = .slice A0 0 0 → es.length ≤ 34359738368 → K (OW H.length es.length) (H ++ [⟨2,et,z,es⟩]) → o.wp P a w (z1u w S μ H a o K) Q := by
   intro A0 he hroom hK
   obtain ⟨r1,s1⟩ := hrel.nilRow A0 et z
   have g1 : (μ ++ [Value.slice A0 0 0])[H.length]? = some (.slice A0 0 0) := by rw [← hrel.len];simp
   have g2 : (H ++ [(⟨2,et,z,[]⟩ : AObj)])[H.length]? = some ⟨2,et,z,[]⟩ := by simp
   obtain ⟨A',c',w',S',hrun,r2,s2⟩ := zqs (P := P) o.type hT r1 g1 g2 rfl rfl rfl h3 hall (by simpa using hroom)
   have e1 : (H ++ [(⟨2,et,z,[]⟩ : AObj)]).set H.length { (⟨2,et,z,[]⟩ : AObj) with c := [] ++ es } = H ++ [⟨2,et,z,es⟩] := by simp
   rw [e1] at r2 s2
   simp only [List.length_nil,Nat.zero_add] at hrun r2 s2
   unfold Oper.wp
   rw [hex _ _ (by rw [he,hv];exact hrun)]
   refine ⟨_,_,_,S',_,hK,rfl,⟨A',es.length,c',A',c',?_,Nat.le_refl _,rfl,fun _=>⟨rfl,rfl⟩⟩,r2,s1.trans (s2.less (by simp)),fun q=>by rw [ho] at q;cases q⟩
   rw [← hrel.len,List.getElem?_set_self (by simp)]
  split at hK
  ·exact nilc none hx.1 hK.1 hK.2
  ·obtain ⟨A0,he⟩ := hx
   exact nilc A0 he hK.1 hK.2
  ·rename_i i n
   obtain ⟨ob,hob,hk,he,hz,rfl,hroom,hK⟩ := hK
   obtain ⟨A0,m,c0,A1,c1,hμ,hle,hxv,heq⟩ := hx
   obtain ⟨us,A2,c2,e2,_⟩ := (hrel.objs i _ ob hμ hob).2.1 hk
   injection e2 with e2 e3 e4
   obtain ⟨rfl,rfl⟩ := heq e3.symm
   subst e3
   obtain ⟨A',c',w',S',hrun,r2,s2⟩ := zqs (P := P) o.type hT hrel hμ hob hk he hz h3 hall hroom
   unfold Oper.wp
   rw [hex _ _ (by rw [hxv,hv];exact hrun)]
   refine ⟨_,_,_,S',_,hK,rfl,⟨A',ob.c.length + es.length,c',A',c',?_,Nat.le_refl _,rfl,fun _=>⟨rfl,rfl⟩⟩,r2,s2,fun q=>by rw [ho] at q;cases q⟩
   rw [List.getElem?_set_self (List.getElem?_eq_some_iff.1 hμ).1]
  ·exact hK.elim
 ·exact h.elim
def zqi (P : Program) (t : TypeId) (H : List AObj) (x y : AV) (K : AV → List AObj → Prop) : Prop := match y with
 |.held (.inl (.string q))=>zDr P t H x (SL (zFB q)) K
 |_=>False
theorem zon (q : ByteArray) : zE2 (zFB q) = zFB q := by
 unfold zFB zE2
 induction q.data.toList with
 |nil=>rfl
 |cons b r ih=>rw [List.map_cons,List.flatMap_cons,ih];rfl
theorem znM (S : SS) (q : ByteArray) : reps S [] (zE2 (zFB q)) (byteCells q) := by
 rw [zon]
 unfold zFB byteCells
 refine ⟨by simp,fun j d u hd hu=>?_⟩
 rw [List.getElem?_map] at hd hu
 cases hb : q.data.toList[j]? with
 |none=>rw [hb] at hd;cases hd
 |some b =>
  rw [hb] at hd hu
  cases hd;cases hu
  exact ⟨rfl,rfl,rfl⟩
theorem zjm (q : ByteArray) : (zFB q).length = q.size := by
 unfold zFB
 rw [List.length_map,Array.length_toList];rfl
theorem zkY {x y : Operand} {t t' : TypeId} {d e : AV} (hrel : Rel w S μ H) (ho : o.op = .call { callee := .builtin .append,args := #[x,y],argTypes := #[t,t'] }) (hx : rep S μ d (a.eval x)) (hy : rep S μ e (a.eval y)) (ht' : P.underlying t' = some .string) (h : zqi P t H d e K) : o.wp P a w (z1u w S μ H a o K) Q := by
 have hex : ∀ v w',(Builtin.append_ #[t,t'] o.type #[a.eval x,a.eval y]).run P w = .ok v w' → (execOp a.eval o).run P w = .ok (.value v) w' := by
  intro v w' hl
  unfold execOp
  rw [ho]
  simp only [resolve,invoke,builtin,Sem.run_bind,Sem.run_pure,Result.andThen_ok,List.map_toArray,List.map_cons,List.map_nil,hl]
 unfold zqi at h
 split at h
 rotate_left
 ·exact h.elim
 rename_i q
 have hv : a.eval y = .string q := hy.1
 generalize hes : zFB q = es at h
 have hlen : es.length = q.size := by rw [← hes,zjm]
 unfold zDr at h
 split at h
 ·rename_i et z hT
  have h : allC z es ∧ _ := h
  obtain ⟨hall,hK⟩ := h
  obtain ⟨_,inf,zv,hi,hzv,hzs,hsz,hz0,hby,_⟩ := zaV hT
  have hnr : ∀ S' : SS,reps S' [] (zE2 es) (byteCells q) := fun S'=>by rw [← hes];exact znM S' q
  have hs : ∀ w0 : World,Src P z t' (a.eval y) es.length (byteCells q) w0 := by
   intro w0
   rw [hv]
   have hc : ∀ w1 : World,(Builtin.firstCells z es.length (.string q)).run P w1 = .ok (byteCells q).toArray w1 := fun w1=>by
    have := firstCells_string (P := P) q w1
    rw [hlen]
    exact this
   refine ⟨.inr ht',fun _=>by rw [hlen];rfl,hc w0,hc _,?_,?_⟩
   ·rw [byteCells_length,← hlen]
    rcases Nat.eq_zero_or_pos es.length with q0|q0
    ·rw [q0,Nat.zero_mul]
    ·obtain ⟨d0,hd0⟩ := List.exists_mem_of_length_pos q0
     have h1 := hall d0 hd0
     rw [← hes] at hd0
     obtain ⟨b0,_,rfl⟩ := List.mem_map.1 hd0
     have h1 : 1 = z := h1
     rw [← h1,Nat.mul_one]
   ·intro u hu
    obtain ⟨_,_,rfl⟩ := List.mem_map.1 hu
    rfl
  have nilc : ∀ (A0 : Option Addr),a.eval x = .slice A0 0 0 → es.length ≤ 34359738368 → K (OW H.length es.length) (H ++ [⟨2,et,z,es⟩]) → o.wp P a w (z1u w S μ H a o K) Q := by
   intro A0 he hroom hK
   obtain ⟨r1,s1⟩ := hrel.nilRow A0 et z
   have g1 : (μ ++ [Value.slice A0 0 0])[H.length]? = some (.slice A0 0 0) := by rw [← hrel.len];simp
   have g2 : (H ++ [(⟨2,et,z,[]⟩ : AObj)])[H.length]? = some ⟨2,et,z,[]⟩ := by simp
   obtain ⟨A',c',w',S',hrun,r2,s2⟩ := row_appS (P := P) o.type hT r1 g1 g2 rfl rfl rfl (hs w) (hnr S) hall (by simpa using hroom)
   have e1 : (H ++ [(⟨2,et,z,[]⟩ : AObj)]).set H.length { (⟨2,et,z,[]⟩ : AObj) with c := [] ++ es } = H ++ [⟨2,et,z,es⟩] := by simp
   rw [e1] at r2 s2
   simp only [List.length_nil,Nat.zero_add] at hrun r2 s2
   unfold Oper.wp
   rw [hex _ _ (by rw [he];exact hrun)]
   refine ⟨_,_,_,S',_,hK,rfl,⟨A',es.length,c',A',c',?_,Nat.le_refl _,rfl,fun _=>⟨rfl,rfl⟩⟩,r2,s1.trans (s2.less (by simp)),fun q=>by rw [ho] at q;cases q⟩
   rw [← hrel.len,List.getElem?_set_self (by simp)]
  split at hK
  ·exact nilc none hx.1 hK.1 hK.2
  ·obtain ⟨A0,he⟩ := hx
   exact nilc A0 he hK.1 hK.2
  ·rename_i i n
   obtain ⟨ob,hob,hk,he,hz,rfl,hroom,hK⟩ := hK
   obtain ⟨A0,m,c0,A1,c1,hμ,hle,hxv,heq⟩ := hx
   obtain ⟨us,A2,c2,e2,_⟩ := (hrel.objs i _ ob hμ hob).2.1 hk
   injection e2 with e2 e3 e4
   obtain ⟨rfl,rfl⟩ := heq e3.symm
   subst e3
   obtain ⟨A',c',w',S',hrun,r2,s2⟩ := row_appS (P := P) o.type hT hrel hμ hob hk he hz (hs w) (hnr S) hall hroom
   unfold Oper.wp
   rw [hex _ _ (by rw [hxv];exact hrun)]
   refine ⟨_,_,_,S',_,hK,rfl,⟨A',ob.c.length + es.length,c',A',c',?_,Nat.le_refl _,rfl,fun _=>⟨rfl,rfl⟩⟩,r2,s2,fun q=>by rw [ho] at q;cases q⟩
   rw [List.getElem?_set_self (List.getElem?_eq_some_iff.1 hμ).1]
  ·exact hK.elim
 ·exact h.elim
def asI (x : Option AV) (d : Int) (K : Int → Prop) : Prop :=
 match x with
 |none=>K d
 |some (.held (.inl (.int _ i)))=>K i
 |_=>False
def zD0 (es : List AV) (l h : Int) : List AV := (es.take h.toNat).drop l.toNat
def z4X (P : Program) (t : TypeId) (H : List AObj) (x : AV) (lo hi : Option AV) (K : AV → Prop) : Prop :=
 match x with
 |.held (.inl (.string s))=>P.underlying t = some .string ∧ asI lo 0 fun l=>asI hi s.size fun h=>0 ≤ l ∧ l ≤ h ∧ h ≤ s.size ∧ K (V (.string (s.extract l.toNat h.toNat)))
 |x=>match z1Y P t with
  |some (_,ek)=>z1d H x fun es=>allC (zE7 ek) es ∧ asI lo 0 fun l=>asI hi es.length fun h=>0 ≤ l ∧ l ≤ h ∧ h ≤ es.length ∧ K (SL (zD0 es l h))
  |none=>False
theorem zit {x : Option AV} {v : Option Value} (hx : ∀ d,x = some d → ∃ u,v = some u ∧ rep S μ d u) (hn : x = none → v = none) {d : Int} {K : Int → Prop} (h : asI x d K) :
  ∃ i,K i ∧ ((x = none ∧ v = none ∧ i = d) ∨ ∃ k,v = some (.int k i)) := by
 unfold asI at h
 split at h
 ·exact ⟨d,h, .inl ⟨rfl,hn rfl,rfl⟩⟩
 ·rename_i k i
  obtain ⟨u,e1,e2,_⟩ := hx _ rfl
  exact ⟨i,h, .inr ⟨k,by rw [e1,e2]⟩⟩
 ·exact h.elim
theorem zeN {isS : Bool} {n c : Nat} {lo hi : Option Value} {l h : Int} (hl : (lo = none ∧ l = 0) ∨ ∃ k,lo = some (.int k l)) (hh : (hi = none ∧ h = n) ∨ ∃ k,hi = some (.int k h)) (h0 : 0 ≤ l) (h1 : l ≤ h) (h2 : h ≤ n) (hc : n ≤ c) :
  (Instr.sliceBounds isS n c lo hi none).run P w = .ok (l.toNat,h.toNat,c) w := by
 have b1 : ∀ (k : IntKind) (y : Nat) (code : BoundsCode) (i : Int),0 ≤ i → i ≤ y → (Instr.sliceBound (.int k i) y code).run P w = .ok i.toNat w := by
  intro k y code i hi1 hi2
  simp only [Instr.sliceBound,asIntOf,Sem.run_bind,Sem.run_pure,Result.andThen_ok,hi1,hi2,and_self,if_true]
 have e1 : h ≤ (c : Int) := by omega
 rcases hl with ⟨rfl,rfl⟩|⟨k,rfl⟩ <;> rcases hh with ⟨rfl,rfl⟩|⟨k',rfl⟩
 ·simp [Instr.sliceBounds,Sem.run_pure]
 ·have := b1 k' c (if isS then .sliceAcap else .sliceAlen) h (by omega) e1
  simp [Instr.sliceBounds,Sem.run_pure,this]
 ·have := b1 k n .sliceB l h0 (by omega)
  simp [Instr.sliceBounds,Sem.run_pure,this]
 ·have := b1 k' c (if isS then .sliceAcap else .sliceAlen) h (by omega) e1
  have := b1 k h.toNat .sliceB l h0 (by omega)
  simp [Instr.sliceBounds,Sem.run_pure, *]
theorem ztE {b q z : Nat} {es : List AV} (h : inS S b q z es) (l k : Nat) : inS S b (q + l * z) z ((es.take k).drop l) := by
 intro i d hd
 rw [List.getElem?_drop] at hd
 rw [List.getElem?_take] at hd
 split at hd
 ·obtain ⟨h1,h2⟩ := h _ d hd
  refine ⟨h1,fun j y hy=>?_⟩
  have := h2 j y hy
  rw [show q + l * z + i * z + j = q + (l + i) * z + j by rw [Nat.add_mul];omega];exact this
 ·cases hd
theorem zs2 {t : TypeId} {x : Operand} {lo hi : Option Operand} {d : AV} {dl dh : Option AV} (hrel : Rel w S μ H) (ho : o.op = .slice t x lo hi none) (hx : rep S μ d (a.eval x))
  (hl : ∀ y,dl = some y → ∃ u,lo.map a.eval = some u ∧ rep S μ y u) (hl0 : dl = none → lo.map a.eval = none) (hh : ∀ y,dh = some y → ∃ u,hi.map a.eval = some u ∧ rep S μ y u) (hh0 : dh = none → hi.map a.eval = none)
  (h : z4X P t H d dl dh fun r=>K r H) : o.wp P a w (z1u w S μ H a o K) Q := by
 have hex : ∀ v,(Instr.sliceAt t (a.eval x) (lo.map a.eval) (hi.map a.eval) none).run P w = .ok v w → (execOp a.eval o).run P w = .ok (.value v) w := by
  intro v hr
  unfold execOp
  rw [ho]
  simp only [Option.map_none,Sem.run_bind,hr,Result.andThen_ok,Sem.run_pure]
 unfold z4X at h
 split at h
 ·rename_i s
  obtain ⟨hu,h⟩ := h
  obtain ⟨he,_⟩ := hx
  obtain ⟨l,h,h1⟩ := zit hl hl0 h
  obtain ⟨k,⟨c0,c1,c2,hK⟩,h2⟩ := zit hh hh0 h
  refine z1w hrel (hex (.string (s.extract l.toNat k.toNat)) ?_) hK (zjI rfl)
  rw [he]
  have hb := zeN (P := P) (w := w) (isS := false) (n := s.size) (c := s.size) (lo := lo.map a.eval) (hi := hi.map a.eval) (l := l) (h := k) (h1.elim (fun q=>.inl q.2) .inr) (h2.elim (fun q=>.inl q.2) .inr) c0 c1 c2 (Nat.le_refl _)
  simp only [Instr.sliceAt,run_underlying hu,Sem.run_bind,Result.andThen_ok,Instr.slice,Option.isSome_none,Bool.false_eq_true,if_false,hb,Sem.run_pure]
 ·rename_i hne
  split at h
  case h_2=>exact h.elim
  rename_i et ek hst
  obtain ⟨hu,hkk,hk,hz⟩ := z4Y hst
  have hsz := z7m (P := P) (t := et) w (by rw [hkk];exact hk)
  obtain ⟨es,A,c,⟨hall,h⟩,hv,b1,b2,b3⟩ := zbb hrel hx h
  obtain ⟨l,h,h1⟩ := zit hl hl0 h
  obtain ⟨k,⟨c0,c1,c2,hK⟩,h2⟩ := zit hh hh0 h
  have hb := zeN (P := P) (w := w) (isS := true) (n := es.length) (c := c) (lo := lo.map a.eval) (hi := hi.map a.eval) (l := l) (h := k) (h1.elim (fun q=>.inl q.2) .inr) (h2.elim (fun q=>.inl q.2) .inr) c0 c1 c2 b1
  refine z1w hrel (hex (.slice (if c = l.toNat then A else A.map (·.add (l.toNat * zE7 (z0z P et)))) (k.toNat - l.toNat) (c - l.toNat)) ?_) hK ?_
  ·rw [hv]
   simp only [Instr.sliceAt,run_underlying hu,Sem.run_bind,Result.andThen_ok,Instr.slice,hb,hsz,Sem.run_pure]
  ·have hlen : (zD0 es l k).length = k.toNat - l.toNat := by
    simp only [zD0,List.length_drop,List.length_take];omega
   refine ⟨_,c - l.toNat,by rw [hlen],by rw [hlen];omega,by omega,fun hne2=>?_⟩
   have hpos : 0 < k.toNat - l.toNat := by rw [← hlen];exact List.length_pos_iff.2 hne2
   have hesne : es ≠ [] := by
    intro e
    have e0 : es.length = 0 := by rw [e];rfl
    omega
   obtain ⟨b,q,z,rfl,hin⟩ := b3 hesne
   have hzz : z = zE7 (z0z P et) := by
    obtain ⟨d,hd⟩ := List.exists_mem_of_length_pos (List.length_pos_iff.2 hesne)
    rw [← hin.allC d hd,hall d hd,hkk]
   rw [if_neg (by omega)]
   refine ⟨b,q + l.toNat * z,z,?_,ztE hin _ _⟩
   rw [hzz]
   simp only [Option.map_some,Addr.add_lit]
def z39 (P : Program) (t : TypeId) (x ix : AV) (K : AV → Prop) : Prop :=
 match ix with
 |.held (.inl (.int _ i))=>(match x with
  |.held (.inl (.string s))=>P.underlying t = some .string ∧ 0 ≤ i ∧ i < s.size ∧ K (V (.int .u8 ((s.data.toList.getD i.toNat 0).toNat : Int)))
  |.agg cs=>(match z4m P t with
   |some (n,ek)=>0 ≤ i ∧ i < n ∧ z0Y ek cs (i.toNat * zE7 ek) K
   |none=>False)
  |_=>False)
 |_=>False
theorem zrd {t : TypeId} {x y : Operand} {d e : AV} (hrel : Rel w S μ H) (ho : o.op = .index t x y) (hx : rep S μ d (a.eval x)) (hy : rep S μ e (a.eval y)) (h : z39 P t d e fun r=>K r H) : o.wp P a w (z1u w S μ H a o K) Q := by
 have hex : ∀ v,(Instr.index t (a.eval x) (a.eval y)).run P w = .ok v w → (execOp a.eval o).run P w = .ok (.value v) w := by
  intro v hr
  unfold execOp
  rw [ho]
  simp only [Sem.run_bind,hr,Result.andThen_ok,Sem.run_pure]
 unfold z39 at h
 split at h
 ·rename_i k i
  obtain ⟨hi,_⟩ := hy
  split at h
  ·rename_i s
   obtain ⟨hu,h0,h1,hK⟩ := h
   obtain ⟨he,_⟩ := hx
   refine z1w hrel (hex _ ?_) hK (zjI rfl)
   rw [he,hi]
   have hlt : i.toNat < s.size := by omega
   have e1 : s[i.toNat]? = some s[i.toNat] := by simp [hlt]
   have e2 : s.data.toList.getD i.toNat 0 = s[i.toNat] := by
    have : i.toNat < s.data.size := hlt
    simp only [List.getD_eq_getElem?_getD,Array.getElem?_toList,Array.getElem?_eq_getElem this,Option.getD_some];rfl
   simp only [Instr.index,asIntOf,run_underlying hu,Sem.run_bind,Sem.run_pure,Result.andThen_ok,h0,if_true,e1,e2]
  ·rename_i cs
   split at h
   ·rename_i n ek hat
    obtain ⟨h0,h1,h⟩ := h
    obtain ⟨et,hu,rfl,hk,hz⟩ := zcU hat
    have hsz := z7m (P := P) (t := et) w hk
    obtain ⟨us,he,hr⟩ := hx
    have hix : ∀ v,(part et us.toArray (i.toNat * zE7 (z0z P et))).run P w = .ok v w → (Instr.index t (a.eval x) (a.eval y)).run P w = .ok v w := by
     intro v hp
     rw [he,hi]
     simp only [Instr.index,asIntOf,run_underlying hu,Sem.run_bind,Sem.run_pure,Result.andThen_ok,h0,h1,and_self,if_true,hsz,hp]
    unfold z0Y at h
    split at h
    ·rename_i h2
     obtain ⟨d,hd,hK⟩ := h
     have hlt : i.toNat * zE7 (z0z P et) < us.length := by rw [hr.1];exact (List.getElem?_eq_some_iff.1 hd).1
     have hh := hr.2 _ d _ hd (List.getElem?_eq_getElem hlt)
     refine z1w hrel (hex us[i.toNat * zE7 (z0z P et)] (hix _ ?_)) hK (z2T ?_)
     ·simp only [part,Sem.run_bind,(z98 (P := P) (t := et) w h2).1,Result.andThen_ok]
      simp [hlt,Sem.run_pure]
     ·unfold repA
      split
      ·exact hh.2.elim
      ·exact hh.2
    ·obtain ⟨h2,h3,hK⟩ := h
     obtain ⟨n,hn⟩ : ∃ n,z0z P et = n + 2 := ⟨z0z P et - 2,by omega⟩
     have hg := z9w (P := P) (t := et) w hn
     rw [hn] at h3 hK
     simp only [Nat.add_sub_cancel] at h3 hK
     refine z1w hrel (hex (.agg (us.toArray.extract (i.toNat * zE7 (z0z P et)) (i.toNat * zE7 (z0z P et) + n))) (hix _ ?_)) hK ⟨(us.drop (i.toNat * zE7 (z0z P et))).take n,by simp [List.extract_eq_take_drop],by rw [hn];rw [List.length_take,List.length_take,List.length_drop,List.length_drop,hr.1],fun j d u hd hu'=>?_⟩
     ·simp only [part,Sem.run_bind,hg.1,hg.2,Result.andThen_ok,if_true,Sem.run_pure]
     ·rw [hn] at hu'
      rw [List.getElem?_take] at hd hu'
      split at hd
      ·rw [if_pos (by assumption)] at hu'
       rw [List.getElem?_drop] at hd hu'
       exact hr.2 _ d u hd hu'
      ·cases hd
   ·exact h.elim
  ·exact h.elim
 ·exact h.elim
end
end Go.Proofs.YtaplemeamcgpkaaDoor

namespace Go.Proofs.YtaplemeamcgpkaaDoor
open Go.RowKit
theorem zfu {α : Type} (x : Sem α) : x.bind Sem.pure = x := by
 induction x with
 |pure a=>rfl
 |load m a k ih=>simp [Sem.bind,ih]
 |store m a v k ih=>simp [Sem.bind,ih]
 |new o k ih=>simp [Sem.bind,ih]
 |shape r k ih=>simp [Sem.bind,ih]
 |freeze a n k ih=>simp [Sem.bind,ih]
 |frozen a k ih=>simp [Sem.bind,ih]
 |getObj r k ih=>simp [Sem.bind,ih]
 |setObj r o k ih=>simp [Sem.bind,ih]
 |choose q k ih=>simp [Sem.bind,ih]
 |sys c k ih=>simp [Sem.bind,ih]
 |program k ih=>simp [Sem.bind,ih]
 |mark m k ih=>simp [Sem.bind,ih]
 |halt h=>rfl
theorem zdJ {α β γ : Type} (x : Sem α) (f : α → Sem β) (g : β → Sem γ) : (x.bind f).bind g = x.bind fun a=>(f a).bind g := by
 induction x with
 |pure a=>rfl
 |load m a k ih=>simp [Sem.bind,ih]
 |store m a v k ih=>simp [Sem.bind,ih]
 |new o k ih=>simp [Sem.bind,ih]
 |shape r k ih=>simp [Sem.bind,ih]
 |freeze a n k ih=>simp [Sem.bind,ih]
 |frozen a k ih=>simp [Sem.bind,ih]
 |getObj r k ih=>simp [Sem.bind,ih]
 |setObj r o k ih=>simp [Sem.bind,ih]
 |choose q k ih=>simp [Sem.bind,ih]
 |sys c k ih=>simp [Sem.bind,ih]
 |program k ih=>simp [Sem.bind,ih]
 |mark m k ih=>simp [Sem.bind,ih]
 |halt h=>rfl
theorem z7c : LawfulMonad Sem := LawfulMonad.mk' Sem (fun x=>zfu x) (fun a f=>rfl) (fun x f g=>zdJ x f g)
theorem z9W {P : Program} {w : World} {α β : Type} {f : α → Sem β} {g : α → Option β} (h : ∀ x y,g x = some y → (f x).run P w = .ok y w) : ∀ {l : List α} {r : List β},l.mapM g = some r → (l.mapM f).run P w = .ok r w
 |[],r,hr=>by
  simp at hr;subst hr
  have := z7c
  simp [Sem.run_pure]
 |x :: l,r,hr=>by
  have := z7c
  rw [List.mapM_cons] at hr ⊢
  cases hx : g x with
  |none=>rw [hx] at hr;simp at hr
  |some y =>
   rw [hx] at hr
   cases hl : l.mapM g with
   |none=>rw [hl] at hr;simp at hr
   |some ys =>
    rw [hl] at hr
    simp at hr;subst hr
    simp only [Sem.run_bind,h x y hx,Result.andThen_ok,z9W h hl,Sem.run_pure]
theorem zrQ {P : Program} {w : World} {α β : Type} {f : α → Sem β} {g : α → Option β} (h : ∀ x y,g x = some y → (f x).run P w = .ok y w) {l : Array α} {r : List β} (hl : l.toList.mapM g = some r) : (l.mapM f).run P w = .ok r.toArray w := by
 have := z7c
 rw [Array.mapM_eq_mapM_toList]
 simp only [map_eq_pure_bind,Sem.run_bind,z9W h hl,Result.andThen_ok,Sem.run_pure]
theorem z8j {α : Type} (off : Nat) : ∀ (l : List α) (k : Nat) (cells : Array α),((l.zipIdx k).foldl (fun cs (cj : α × Nat)=>cs.setIfInBounds (off + cj.2) cj.1) cells).toList = z0e cells.toList (off + k) l
 |[],k,cells=>rfl
 |x :: l,k,cells=>by
  simp only [List.zipIdx_cons,List.foldl_cons,z0e]
  rw [z8j off l (k + 1)]
  simp only [Array.toList_setIfInBounds]
  rfl
theorem zfi {S : SS} {μ : List Value} {c : List AV} {u : List Value} (h : reps S μ c u) {xs : List AV} {vs : List Value} (hx : reps S μ xs vs) {o : Nat} (hf : o + xs.length ≤ c.length) : reps S μ (z0e c o xs) (z0e u o vs) := by
 refine ⟨by rw [z27,z27,h.1],fun j d v hd hv=>?_⟩
 rw [z1o _ _ _ hf] at hd
 rw [z1o _ _ _ (by rw [hx.1,h.1];exact hf),hx.1] at hv
 split at hd
 ·rw [if_pos (by assumption)] at hv;exact hx.2 _ d v hd hv
 ·rw [if_neg (by assumption)] at hv;exact h.2 _ d v hd hv
def aFill (place : Nat → Option (Nat × Nat)) : List (Nat × AV) → List AV → Option (List AV)
  | [], cs => some cs
  | (i, d) :: r, cs => match place i with
    | none => none
    | some (off, size) => if (cellsOf d).length = size ∧ off + (cellsOf d).length ≤ cs.length ∧ (cellsOf d).all zCU  = true then aFill place r (z0e      cs off (cellsOf d)) else none
theorem fill_reps {S : SS} {μ : List Value} {place : Nat → Option (Nat × Nat)} : ∀ {ds : List (Nat × AV)} {vs : List (Nat × Value)} {cs cs' : List AV} {cells : Array Value}, reps S μ cs cells.toList → aFill place ds cs = some cs' →
    vs.length = ds.length → (∀ (j : Nat) (x : Nat × AV) (y : Nat × Value), ds[j]? = some x → vs[j]? = some y → y.1 = x.1 ∧ rep S μ x.2 y.2) → ∃ cells', Instr.fill place cells vs = some cells' ∧ reps S μ cs' cells'.toList
  | [], [], cs, cs', cells, hr, hf, _, _ => by
    simp [aFill] at hf; subst hf; exact ⟨cells, rfl, hr⟩
  | [], _ :: _, _, _, _, _, _, hl, _ => by simp at hl
  | _ :: _, [], _, _, _, _, _, hl, _ => by simp at hl
  | (i, d) :: ds, (i', v) :: vs, cs, cs', cells, hr, hf, hl, hv => by
    obtain ⟨e1, e2⟩ := hv 0 (i, d) (i', v) rfl rfl
    simp only at e1 e2
    subst e1
    simp only [aFill] at hf
    cases hp : place i' with
    | none => rw [hp] at hf; cases hf
    | some os =>
      obtain ⟨off, size⟩ := os
      rw [hp] at hf
      simp only at hf
      split at hf
      · rename_i hh
        obtain ⟨h1, h2, h3⟩ := hh
        have hrv := z9l         e2 h3
        have hvl : v.cells.size = (cellsOf d).length := by rw [← hrv.1]; simp
        have hcl : cells.size = cs.length := by rw [← hr.1]; simp
        have hst := zfi           hr hrv (o := off) h2
        have hfo : (v.cells.zipIdx.foldl (fun cs (cj : Value × Nat) => cs.setIfInBounds (off + cj.2) cj.1) cells).toList = z0e      cells.toList off v.cells.toList := by
          rw [← Array.foldl_toList, Array.toList_zipIdx]
          exact z8j            off v.cells.toList 0 cells
        rw [← hfo] at hst
        obtain ⟨cells', hfill, hrep⟩ := fill_reps hst hf (by simpa using hl) fun j x y hx hy => hv (j + 1) x y (by simpa using hx) (by simpa using hy)
        refine ⟨cells', ?_, hrep⟩
        unfold Instr.fill
        rw [hp]
        simp only
        rw [if_neg (by simp only [Bool.or_eq_true, decide_eq_true_eq, not_or]; omega)]
        exact hfill
      · cases hf
end Go.Proofs.YtaplemeamcgpkaaDoor

