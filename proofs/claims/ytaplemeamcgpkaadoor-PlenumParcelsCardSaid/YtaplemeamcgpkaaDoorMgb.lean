/-
  Texts laid together, part 2 of 7: laws of a walk over data, contracts of functions, each whole by itself.
-/
import Derived.Test.YtaplemeamcgpkaaDoorMga
import Derived.Carry
import Derived.RegionTactic
import Derived.ProofKit
import Derived.OpenShut
import Derived.ShutString
import Derived.ChangeOld
import Derived.Deep.Slices
set_option maxRecDepth 100000
noncomputable section
set_option linter.unusedVariables false
set_option linter.unusedSimpArgs false
namespace Go.Proofs.YtaplemeamcgpkaaDoor
open Go.RowKit
def z7I (P : Program) (t : TypeId) : Option (List (Nat × Nat)) :=
 match P.underlying t with
 |some (.struct fs)=>fs.toList.mapM fun f=>(P.info? f.type).map fun i=>(f.offset,i.size)
 |_=>none
theorem zfO {P : Program} {t : TypeId} {c : List AV} (h : z7r P t = some c) : ∃ i z,P.info? t = some i ∧ i.zero = some z ∧ c = z.cells.toList.map (fun u=>V u) ∧ ∀ S μ,reps S μ c z.cells.toList := by
 unfold z7r at h
 cases hi : P.info? t with
 |none=>rw [hi] at h;cases h
 |some i =>
  rw [hi] at h
  simp only [Option.map_some] at h
  cases hzz : i.zero with
  |none=>rw [hzz] at h;cases h
  |some z =>
   rw [hzz] at h
   simp only at h
   split at h
   ·rename_i hall
    injection h with h;subst h
    refine ⟨i,z,rfl,hzz,rfl,fun S μ=>⟨by simp,fun j d u hd hu=>?_⟩⟩
    rw [List.getElem?_map,hu] at hd
    simp at hd;subst hd
    have h1 : u.oneCell' = true := by
     rw [Array.all_eq_true_iff_forall_mem] at hall
     exact hall u (by rw [← Array.mem_toList_iff];exact List.mem_of_getElem? hu)
    exact ⟨h1,rfl,h1⟩
   ·cases h
section
variable {P : Program} {G : Gl} {w : World} {S : SS} {μ : List Value} {H : List AObj} {a : Act} {o : Oper} {K : AV → List AObj → Prop} {Q : Exit → Act → World → Prop} {T : Tm} {N : FS}
def z7o (P : Program) (t : TypeId) (ps : List (Nat × AV)) (K : AV → Prop) : Prop :=
 match z7I P t,z7r P t with
 |some pl,some z=>(match aFill (pl[·]?) ps z with|some cs=>K (.agg cs)|none=>False)
 |_,_=>False
theorem zhQ (hf : Fr S μ N T a) (hg : GOk G S) (parts : Array (Nat × Operand)) : ((parts.map fun (i,x)=>(i,a.eval x)).toList).length = (parts.toList.map fun p=>(p.1,ev G T p.2)).length ∧
  ∀ (j : Nat) (x : Nat × AV) (y : Nat × Value),(parts.toList.map fun p=>(p.1,ev G T p.2))[j]? = some x → (parts.map fun (i,x)=>(i,a.eval x)).toList[j]? = some y → y.1 = x.1 ∧ rep S μ x.2 y.2 := by
 refine ⟨by simp,fun j x y hx hy=>?_⟩
 rw [List.getElem?_map] at hx
 simp only [Array.toList_map,List.getElem?_map] at hy
 cases hp : parts.toList[j]? with
 |none=>rw [hp] at hx;cases hx
 |some p =>
  rw [hp] at hx hy
  simp at hx hy
  subst hx hy
  exact ⟨rfl,hf.ev hg p.2⟩
theorem zsz {t : TypeId} {parts : Array (Nat × Operand)} (hrel : Rel w S μ H) (hf : Fr S μ N T a) (hg : GOk G S) (ho : o.op = .build t parts) (h : z7o P t (parts.toList.map fun p=>(p.1,ev G T p.2)) fun r=>K r H) :
  o.wp P a w (z1u w S μ H a o K) Q := by
 unfold z7o at h
 split at h
 ·rename_i pl z hpl hz
  split at h
  ·rename_i cs hcs
   obtain ⟨i,zv,hi,hzv,rfl,hzr⟩ := zfO hz
   obtain ⟨hl,hp⟩ := zhQ hf hg parts
   obtain ⟨cells',hfill,hrep⟩ := fill_reps (hzr S μ) hcs hl hp
   unfold z7I at hpl
   cases hu : P.underlying t with
   |none=>rw [hu] at hpl;cases hpl
   |some d =>
    rw [hu] at hpl
    cases d <;> simp only at hpl <;> try (cases hpl;done)
    rename_i fs
    have hm := zrQ (P := P) (w := w) (f := fun f : Field=>(do pure (f.offset,← sizeOf f.type) : Sem (Nat × Nat))) (g := fun f : Field=>(P.info? f.type).map fun i=>(f.offset,i.size)) (fun x y hxy=>by
     cases hx : P.info? x.type with
     |none=>rw [hx] at hxy;cases hxy
     |some ix =>
      rw [hx] at hxy
      simp at hxy;subst hxy
      simp [sizeOf,typeInfo,hx]) hpl
    refine z1w (u := .agg cells') hrel ?_ h ⟨cells'.toList,by simp,hrep⟩
    unfold execOp
    rw [ho]
    have hfill' : Instr.fill (pl.toArray[·]?) zv.cells (parts.map fun (i,x)=>(i,a.eval x)).toList = some cells' := by
     rw [← hfill];congr 1;funext i;simp
    simp only [Instr.build,zeroValue,typeInfo,run_program,hi,hzv,run_underlying hu,Sem.run_bind,Sem.run_pure,Result.andThen_ok,hm,hfill']
  ·exact h.elim
 ·exact h.elim
def zmt (d : AV) : Bool := (cellsOf d).all fun y=>zCU y && lt1 0 y
def bsV : List AV → AV
 |[]=>ZV
 |es=>SL es
theorem zin : bsV [] = ZV := rfl
theorem zds {x : AV} {es : List AV} : bsV (x :: es) = SL (x :: es) := rfl
def z3F (P : Program) (t : TypeId) (n : Nat) (ps : List (Nat × AV)) (K : AV → Prop) : Prop :=
 match zEP P t with
 |some (_,z)=>ps.map (·.1) = List.range n ∧ allC z (ps.map (·.2)) ∧ (ps.map (·.2)).all zmt = true ∧ n * z ≤ 16777216 ∧ K (bsV (ps.map (·.2)))
 |none=>False
theorem z1r {α : Type} : ∀ (xs l : List α) (o : Nat),o + xs.length ≤ l.length → z0e l o xs = l.take o ++ xs ++ l.drop (o + xs.length) := by
 intro xs l o h
 apply List.ext_getElem?
 intro j
 rw [z1o _ _ _ h]
 split
 ·rename_i hh
  rw [List.append_assoc,List.getElem?_append_right (by rw [List.length_take];omega),List.length_take,List.getElem?_append_left (by omega),Nat.min_eq_left (by omega)]
 ·rename_i hh
  rcases Nat.lt_or_ge j o with hlt|hge
  ·rw [List.append_assoc,List.getElem?_append_left (by rw [List.length_take];omega),List.getElem?_take,if_pos hlt]
  ·rw [List.append_assoc,List.getElem?_append_right (by rw [List.length_take];omega),List.length_take,List.getElem?_append_right (by omega),List.getElem?_drop]
   congr 1;omega
theorem zhA {z : Nat} : ∀ (ds : List AV) (k : Nat) (cs : List AV),allC z ds → ds.all zmt = true → cs.length = (k + ds.length) * z →
  aFill (fun i=>some (i * z,z)) ((List.range' k ds.length).zip ds) cs = some (cs.take (k * z) ++ zE2 ds)
 |[],k,cs,_,_,hl=>by
  simp only [List.length_nil,Nat.add_zero] at hl
  simp [aFill,zE2,← hl]
 |d :: ds,k,cs,hc,hp,hl=>by
  have h0 := hc d (List.mem_cons_self ..)
  simp only [List.all_cons,Bool.and_eq_true] at hp
  have hs : (cellsOf d).all zCU = true := by
   have := hp.1
   simp only [zmt,List.all_eq_true,Bool.and_eq_true] at this ⊢
   exact fun x hx=>(this x hx).1
  simp only [List.length_cons] at hl
  have hlen : k * z + z ≤ cs.length := by rw [hl,Nat.add_mul,Nat.succ_mul];omega
  simp only [List.length_cons,List.range'_succ,List.zip_cons_cons,aFill]
  rw [if_pos ⟨h0,by rw [h0];exact hlen,hs⟩]
  rw [zhA ds (k + 1) _ (fun x hx=>hc x (List.mem_cons_of_mem _ hx)) hp.2 (by rw [z27,hl];congr 1;omega)]
  rw [z1r _ _ _ (by rw [h0];exact hlen),h0]
  congr 1
  have e1 : (cs.take (k * z) ++ cellsOf d).length = (k + 1) * z := by rw [List.length_append,List.length_take,h0,Nat.succ_mul];omega
  rw [← e1,List.take_left]
  simp [zE2]
theorem op_buildSlice {t : TypeId} {n : Nat} {parts : Array (Nat × Operand)} (hrel : Rel w S μ H) (hf : Fr S μ N T a) (hg : GOk G S) (ho : o.op = .buildSlice t n parts) (h : z3F     P t n (parts.toList.map fun p => (p.1, ev G T p.2)) fun r => K r H) :
    o.wp P a w (z1u    w S μ H a o K) Q := by
  unfold z3F     at h
  split at h
  · rename_i e z hT
    obtain ⟨hidx, hall, hpure, hroom, hK⟩ := h
    obtain ⟨hu, inf, zv, hi, hzv, hzs, hsz, hz0, hby, hone⟩ := zaV       hT
    obtain ⟨hl, hp⟩ := zhQ       hf hg parts
    have hln : (parts.toList.map fun p => (p.1, ev G T p.2)).length = n := by
      have := congrArg List.length hidx
      simpa using this
    generalize (parts.toList.map fun p => (p.1, ev G T p.2)) = ds at *
    have hzip : (List.range' 0 (ds.map (·.2)).length).zip (ds.map (·.2)) = ds := by
      rw [List.length_map, ← List.range_eq_range', hln, ← hidx]
      apply List.ext_getElem?
      intro j
      cases hd : ds[j]? with
      | none =>
        rw [List.getElem?_eq_none]
        have := List.getElem?_eq_none_iff.1 hd
        simp; omega
      | some x =>
        rw [(List.getElem?_zip_eq_some (z := x)).2 ⟨by rw [List.getElem?_map, hd]; rfl, by rw [List.getElem?_map, hd]; rfl⟩]
    have hzc : ∀ zero : Array Value, zero = (if n * z = 0 then #[] else zv.cells) → reps S μ (List.replicate (n * z) DataW.nil) ((Array.range (n * z)).map (fun i => zero[i % zero.size]!)).toList := by
      intro zero hzero
      refine ⟨by simp, fun j d u hd hu' => ?_⟩
      have hj : j < n * z := by have := (List.getElem?_eq_some_iff.1 hd).1; simpa using this
      rw [if_neg (by omega)] at hzero
      subst hzero
      simp only [Array.toList_map, Array.toList_range, List.getElem?_map, List.getElem?_range hj, Option.map_some, Option.some.injEq] at hu'
      have hm : j % zv.cells.size < zv.cells.size := Nat.mod_lt _ (by omega)
      rw [getElem!_pos zv.cells _ hm] at hu'
      subst hu'
      rw [List.getElem?_replicate, if_pos hj] at hd
      injection hd with hd; subst hd
      rw [Array.all_eq_true_iff_forall_mem] at hone
      exact ⟨hone _ (Array.getElem_mem hm), trivial⟩
    have hfs := zhA       (z := z) (ds.map (·.2)) 0 (List.replicate (n * z) DataW.nil) hall hpure (by simp [hln])
    rw [hzip] at hfs
    simp only [Nat.zero_mul, List.take_zero, List.nil_append] at hfs
    obtain ⟨cells', hfill, hrep⟩ := fill_reps (hzc _ rfl) hfs hl hp
    have hfl := z1p          hall
    rw [List.length_map, hln] at hfl
    have hp0 : ∀ d ∈ zE2  (ds.map (·.2)), lt1 0 d = true := by
      intro d hd
      simp only [zE2 , List.mem_flatMap] at hd
      obtain ⟨x, hx, hd⟩ := hd
      have := (List.all_eq_true.1 hpure) x hx
      simp only [zmt  , List.all_eq_true, Bool.and_eq_true] at this
      exact (this d hd).2
    have hrep0 : reps S [] (zE2  (ds.map (·.2))) cells'.toList := by simpa using hrep.take hp0
    have h1 : ∀ b j d, S b j d → (fun b j d => S b j d ∨ (b = w.heap.size ∧ (zE2  (ds.map (·.2)))[j]? = some d)) b j d := fun b j d h => .inl h
    obtain ⟨r2, s2⟩ := hrel.grow (w' := w.alloc (.cells cells' e)) (S' := fun b j d => S b j d ∨ (b = w.heap.size ∧ (zE2  (ds.map (·.2)))[j]? = some d)) ((Below.refl _ _).alloc (Nat.le_refl _) _) h1
      (by
        rintro b j d (q | ⟨q, _⟩)
        · exact .inl q
        · exact .inr (by omega))
      (by
        rintro b j d (q | ⟨rfl, q⟩) hb
        · have := hrel.still_lt q; omega
        · have hlt : j < cells'.toList.length := by rw [hrep0.1]; exact (List.getElem?_eq_some_iff.1 q).1
          have hh := hrep0.2 j d _ q (List.getElem?_eq_getElem hlt)
          refine ⟨cells'.toList[j], ?_, hh.1, hh.2.ext ⟨h1, fun i x hx => by simp at hx⟩⟩
          rw [cell_of_row _ w.heap.size j cells' e (0, 0) (heap_alloc_new w _)]
          simp at hlt; simp [hlt])
    unfold Oper.wp
    have hex : (execOp a.eval o).run P w = .ok (.value (.slice (some ⟨w.heap.size, 0, none⟩) n n)) (w.alloc (.cells cells' e)) := by
      unfold execOp
      rw [ho]
      have hlim : ¬ (n * z > 2 ^ 24) := by omega
      by_cases h0 : n * z = 0
      · rw [if_pos h0] at hfill
        simp only [Instr.buildSlice, run_underlying hu, sizeOf, zeroValue, typeInfo, run_program, hi, hzv, hsz, Sem.run_bind, Sem.run_pure, Result.andThen_ok, hlim, if_false, if_pos h0, hfill]
        simp [newRow, newObj, Sem.run]
      · rw [if_neg h0] at hfill
        simp only [Instr.buildSlice, run_underlying hu, sizeOf, zeroValue, typeInfo, run_program, hi, hzv, hsz, Sem.run_bind, Sem.run_pure, Result.andThen_ok, hlim, if_false, h0, hfill]
        simp [newRow, newObj, Sem.run]
    rw [hex]
    have hrepS : rep (fun b j d => S b j d ∨ (b = w.heap.size ∧ (zE2  (ds.map (·.2)))[j]? = some d)) μ (bsV (ds.map (·.2))) (.slice (some ⟨w.heap.size, 0, none⟩) n n) := by
      have h9 : rep (fun b j d => S b j d ∨ (b = w.heap.size ∧ (zE2  (ds.map (·.2)))[j]? = some d)) μ (SL (ds.map (·.2))) (.slice (some ⟨w.heap.size, 0, none⟩) n n) := ⟨_, n, by simp [hln], by simp [hln], by unfold maxLen; have := Nat.le_mul_of_pos_right n hz0; omega, fun hne => ⟨w.heap.size, 0, z, rfl, zbD      hall fun j y hy => .inr ⟨rfl, by simpa using hy⟩⟩⟩
      rcases ds with _ | ⟨d, r⟩
      · simp at hln; subst hln; exact ⟨_, rfl⟩
      · exact h9
    refine ⟨_, _, H, _, μ, hK, rfl, hrepS, r2, s2, fun _ => ⟨(Below.refl _ _).alloc (Nat.le_refl _) _, rfl, rfl, fun b j d q => q.elim .inl fun q => .inr (by omega)⟩⟩
  · exact h.elim
end
end Go.Proofs.YtaplemeamcgpkaaDoor

namespace Go.Proofs.YtaplemeamcgpkaaDoor
open Go.RowKit
open Go.Maps (Keyed)
section
variable {P : Program} {G : Gl} {w : World} {S : SS} {μ : List Value} {H : List AObj} {a : Act} {o : Oper} {K : AV → List AObj → Prop} {Q : Exit → Act → World → Prop}
def zDq : List AV → Option (List Value)
 |[]=>some []
 |.held (.inl u) :: cs=>(zDq cs).map (u :: ·)
 |_ :: _=>none
def zFk : AV → Option Value
 |.held (.inl u)=>some u
 |.agg cs=>(zDq cs).map fun us=>.agg us.toArray
 |_=>none
theorem zi7 : ∀ {cs : List AV} {us vs : List Value},zDq cs = some us → reps S μ cs vs → vs = us
 |[],us,vs,h,hr=>by cases h;exact List.eq_nil_of_length_eq_zero hr.1
 |d :: cs,us,vs,h,hr=>by
  cases vs with
  |nil=>have := hr.1;simp at this
  |cons v vs =>
   have h0 := hr.2 0 d v rfl rfl
   cases d with
   |held u0 =>
    cases u0 with
    |inl u =>
     have h : (zDq cs).map (u :: ·) = some us := h
     cases hc : zDq cs with
     |none=>rw [hc] at h;cases h
     |some us' =>
      rw [hc] at h
      simp at h;subst h
      have e : v = u := h0.2.1
      have := zi7 hc (vs := vs) ⟨by have := hr.1;simpa using this,fun j d' u' hd hu=>hr.2 (j + 1) d' u' hd hu⟩
      rw [e,this]
    |inr u=>cases h
   |_=>cases h
theorem zm0 {d : AV} {k v : Value} (h : zFk d = some k) (hr : rep S μ d v) : v = k := by
 cases d with
 |held u0 =>
  cases u0 with
  |inl u=>cases h;exact hr.1
  |inr u=>cases h
 |agg cs =>
  obtain ⟨us,rfl,hu⟩ := (show ∃ us : List Value,v = .agg us.toArray ∧ reps S μ cs us from hr)
  have h : (zDq cs).map (fun us=>Value.agg us.toArray) = some k := h
  cases hc : zDq cs with
  |none=>rw [hc] at h;cases h
  |some us' =>
   rw [hc] at h
   simp at h;subst h
   rw [zi7 hc hu]
 |_=>cases h
def LookP (P : Program) (t : TypeId) (H : List AObj) (m x : AV) (ok : Bool) (d : AV) : Prop :=
 P = Tryd.prog ∧ ∃ i ob q key kl c,m = MP i ∧ H[i]? = some ob ∧ ob.k = 5 ∧ Keyed P ob.e ∧ P.underlying t = some (.map ob.e ob.z) ∧ P.underlying ob.z = some (.int q) ∧ (∀ w,(zeroValue ob.z).run P w = .ok (.int q 0) w) ∧
  zFk x = some key ∧ keyOf P ob.e key = some kl ∧ (zDd ob.c).atKey kl (.lit (.int q 0)) = .lit (.int q c) ∧ d = (if ok = true then TU [V (.int q c),V (.bool (Maps.has (zDd ob.c) kl))] else V (.int q c))
theorem zuN {i j : Nat} (h : MP i = MP j) : i = j := by injection h with _ h;injection h with h;injection h with h;injection h with h;injection h with h;injection h
theorem LookP.det {t : TypeId} {m x : AV} {ok : Bool} {d d' : AV} (h : LookP P t H m x ok d) (h' : LookP P t H m x ok d') : d = d' := by
 obtain ⟨_,i,ob,q,key,kl,c,rfl,h1,_,_,_,h2,_,h3,h4,h5,rfl⟩ := h
 obtain ⟨_,i',ob',q',key',kl',c',e,g1,_,_,_,g2,_,g3,g4,g5,rfl⟩ := h'
 have := zuN e
 subst this
 rw [h1] at g1;cases g1
 rw [h2] at g2;cases g2
 rw [h3] at g3;cases g3
 rw [h4] at g4;cases g4
 rw [h5] at g5;cases g5
 rfl
theorem LookP.more {t : TypeId} {m x : AV} {ok : Bool} {d : AV} (h : LookP P t H m x ok d) (X : List AObj) : LookP P t (H ++ X) m x ok d := by
 obtain ⟨h0,i,ob,q,key,kl,c,rfl,h1,rest⟩ := h
 exact ⟨h0,i,ob,q,key,kl,c,rfl,by rw [List.getElem?_append_left (List.getElem?_eq_some_iff.1 h1).1];exact h1,rest⟩
def zAl (P : Program) (t : TypeId) (H : List AObj) (m x : AV) (ok : Bool) (K : AV → Prop) : Prop := ∃ d,LookP P t H m x ok d ∧ K d
theorem zB9 (hr : Rel w S μ H) {i : Nat} {ob : AObj} (hi : H[i]? = some ob) (hk : ob.k = 5) {v : Value} (hm : rep S μ (MP i) v) : ∃ b,μ[i]? = some (.map (some b)) ∧ v = .map (some b) ∧ w.ownsMap Tryd.prog ob.e (plainElem Tryd.prog ob.z) b ob.c.length (zDd ob.c) := by
 obtain ⟨b,h1,rfl⟩ := (show ∃ b,μ[i]? = some (.map (some b)) ∧ v = .map (some b) from hm)
 obtain ⟨b',h2,h3⟩ := (hr.objs i _ ob h1 hi).2.2.2 hk
 cases h2
 exact ⟨b,h1,rfl,h3⟩
theorem zvP {t : TypeId} {x y : Operand} {ok : Bool} {m k : AV} (hrel : Rel w S μ H) (ho : o.op = .lookup t x y ok) (hx : rep S μ m (a.eval x)) (hy : rep S μ k (a.eval y)) (h : zAl P t H m k ok fun r=>K r H) : o.wp P a w (z1u w S μ H a o K) Q := by
 obtain ⟨d,⟨rfl,i,ob,q,key,kl,c,rfl,h1,h2,h3,h4,h5,h6,h7,h8,h9,rfl⟩,hK⟩ := h
 obtain ⟨b,_,hv,hown⟩ := zB9 hrel h1 h2 hx
 have hkey := zm0 h7 hy
 cases ok with
 |false =>
  obtain ⟨c',hrun,hat,_⟩ := hown.lookup_int h3 h4 h5 (h6 w) h8
  rw [h9] at hat
  cases hat
  refine z1w hrel (u := .int q c) ?_ hK ⟨rfl,rfl⟩
  unfold execOp
  rw [ho]
  simp only [hv,hkey,hrun,Sem.run_bind,Sem.run_pure,Result.andThen_ok]
 |true =>
  have hw0 : (Lit.int q 0).wf = true := by cases q <;> decide
  obtain ⟨v,ps,hrun,hR⟩ := hown.look_ok h3 h4 (h6 w) (plainElem_int h5 hw0) h8
  obtain ⟨c',rfl,hc,_⟩ := plainElem_int_inv h5 hR
  rw [h9] at hc
  simp only [Prod.mk.injEq] at hc
  cases hc.1
  refine z1w hrel (u := .tuple #[.int q c, .bool (Maps.has (zDd ob.c) kl)]) ?_ hK ⟨[.int q c, .bool (Maps.has (zDd ob.c) kl)],rfl,rfl,fun j d u hd hu=>?_⟩
  ·unfold execOp
   rw [ho]
   simp only [hv,hkey,hrun,Sem.run_bind,Sem.run_pure,Result.andThen_ok]
  ·match j,hd,hu with
   |0,hd,hu=>cases hd;cases hu;exact ⟨rfl,rfl⟩
   |1,hd,hu=>cases hd;cases hu;exact ⟨rfl,rfl⟩
theorem Rel.turn (hr : Rel w S μ H) {w' : World} {i b : Nat} {x : Value} {ob ob' : AObj} (hμ : μ[i]? = some x) (ho : H[i]? = some ob) (hk : ob.k ≠ 0 ∧ ob.k ≠ 2) (hkk : ob'.k = ob.k) (hbx : z2I x = some b)
  (h0 : w'.os = w.os ∧ w'.tape = w.tape ∧ w'.output = w.output ∧ w.heap.size ≤ w'.heap.size) (hb : ∀ b',b' < w.heap.size → b' ≠ b → w'.heap[b']? = w.heap[b']?) (hr' : objRep w' S μ x ob') :
  Rel w' S μ (H.set i ob') ∧ Step H.length w S μ H w' S μ (H.set i ob') := by
 have hown : zDf μ H b := ⟨i,_,ob,hμ,ho,hk.1,hbx⟩
 have hget : ∀ (i' : Nat) (o' : AObj),(H.set i ob')[i']? = some o' → (i' = i ∧ o' = ob') ∨ (i' ≠ i ∧ H[i']? = some o') := by
  intro i' o' h
  by_cases e : i' = i
  ·subst e
   rw [List.getElem?_set_self (List.getElem?_eq_some_iff.1 ho).1] at h
   injection h with h
   exact .inl ⟨rfl,h.symm⟩
  ·rw [List.getElem?_set_ne (Ne.symm e)] at h;exact .inr ⟨e,h⟩
 have hne : ∀ (i' : Nat) (x' : Value) (o' : AObj) (b' : Nat),i' ≠ i → μ[i']? = some x' → H[i']? = some o' → o'.k ≠ 0 → z2I x' = some b' → b' ≠ b := by
  intro i' x' o' b' hn hx ho' hk' hb' e
  subst e
  exact hn (hr.sep i' i x' _ o' ob b' hx ho' hk' hb' hμ ho hk.1 hbx)
 have hns : ∀ j d,¬ S b j d := fun j d h=>hk.2 (hr.apart i _ ob b hμ ho hk.1 hbx j d h).1
 have hoo : ∀ b',zDf μ (H.set i ob') b' → zDf μ H b' := by
  rintro b' ⟨i',x',o',hx',ho',hk',hb'⟩
  rcases hget i' o' ho' with ⟨rfl,rfl⟩|⟨hn,q⟩
  ·rw [hμ] at hx';injection hx' with hx';subst hx'
   exact ⟨i',_,ob,hμ,ho,hk.1,hb'⟩
  ·exact ⟨i',x',o',hx',q,hk',hb'⟩
 refine ⟨⟨by simpa using hr.len,fun b' j d hs=>?_,fun i' x' o' hx' ho'=>?_,fun i' x' o' hx' ho'=>?_,fun i1 i2 x1 x2 o1 o2 b' hx1 ho1 hk1 hb1 hx2 ho2 hk2 hb2=>?_,fun i' x' o' b' hx' ho' hk' hb' j d hs=>?_⟩,⟨h0.1,h0.2.1,h0.2.2.1,h0.2.2.2,fun b' hb' hn=>?_,fun _ _ _ h=>h,fun i' x' _ hx'=>⟨x',hx', .inl rfl⟩,fun b' j d h _=>.inl h,fun b' h _=>hoo b' h⟩⟩
 ·obtain ⟨u,hu,r⟩ := hr.still b' j d hs
  have : b' ≠ b := fun e=>hns j d (e ▸ hs)
  exact ⟨u,by rw [World.cell?_of_block (w := w) (w' := w') (a := ⟨b',j,none⟩) (hb b' (hr.still_lt hs) this)];exact hu,r⟩
 ·rcases hget i' o' ho' with ⟨rfl,rfl⟩|⟨hn,q⟩
  ·rw [hkk];rw [hμ] at hx';injection hx' with hx';subst hx';exact hr.kinds i' _ ob hμ ho
  ·exact hr.kinds i' x' o' hx' q
 ·rcases hget i' o' ho' with ⟨rfl,rfl⟩|⟨hn,q⟩
  ·rw [hμ] at hx';injection hx' with hx';subst hx'
   exact hr'
  ·by_cases hk0 : o'.k = 0
   ·exact objRep.zero hk0
   ·exact (hr.objs i' x' o' hx' q).move (Ext.refl _ _) fun b' hb'=>hb b' (hr.own_lt hx' q hk0 hb') (hne i' x' o' b' hn hx' q hk0 hb')
 ·have f : ∀ (i' : Nat) (x' : Value) (o' : AObj),μ[i']? = some x' → (H.set i ob')[i']? = some o' → o'.k ≠ 0 → ∃ o2,H[i']? = some o2 ∧ o2.k ≠ 0 := by
   intro i' x' o' _ h hk'
   rcases hget i' o' h with ⟨rfl,rfl⟩|⟨_,q⟩
   ·exact ⟨ob,ho,hk.1⟩
   ·exact ⟨o',q,hk'⟩
  obtain ⟨o3,q3,q4⟩ := f i1 x1 o1 hx1 ho1 hk1
  obtain ⟨o5,q5,q6⟩ := f i2 x2 o2 hx2 ho2 hk2
  exact hr.sep i1 i2 x1 x2 o3 o5 b' hx1 q3 q4 hb1 hx2 q5 q6 hb2
 ·rcases hget i' o' ho' with ⟨rfl,rfl⟩|⟨hn,q⟩
  ·rw [hμ] at hx';injection hx' with hx';subst hx'
   rw [hbx] at hb';injection hb' with hb';subst hb'
   exact absurd hs (hns j d)
  ·exact hr.apart i' x' o' b' hx' q hk' hb' j d hs
 ·exact hb b' hb' (fun e=>hn (e ▸ hown))
def zDc (kb : List UInt8) (q : IntKind) (c : Int) : AV := TU [V (.string ⟨kb.toArray⟩),V (.int q c)]
theorem zmH {c : List AV} {kb : List UInt8} {q : IntKind} {v : Int} : zDd (c ++ [zDc kb q v]) = (zDd c).put (.string kb) (.lit (.int q v)) := by
 unfold zDd
 rw [List.foldl_append]
 rfl
def PutP (P : Program) (t : TypeId) (H : List AObj) (m x y : AV) (H' : List AObj) : Prop :=
 P = Tryd.prog ∧ ∃ i ob q key kb c,m = MP i ∧ H[i]? = some ob ∧ ob.k = 5 ∧ Keyed P ob.e ∧ P.underlying t = some (.map ob.e ob.z) ∧ P.underlying ob.z = some (.int q) ∧
  zFk x = some key ∧ keyOf P ob.e key = some (.string kb) ∧ y = V (.int q c) ∧ (Lit.int q c).wf = true ∧ ob.c.length < maxLen ∧ H' = H.set i ⟨5,ob.e,ob.z,ob.c ++ [zDc kb q c]⟩
theorem PutP.det {t : TypeId} {m x y : AV} {H1 H2 : List AObj} (h : PutP P t H m x y H1) (h' : PutP P t H m x y H2) : H1 = H2 := by
 obtain ⟨_,i,ob,q,key,kl,c,rfl,h1,_,_,_,h2,h3,h4,rfl,_,_,rfl⟩ := h
 obtain ⟨_,i',ob',q',key',kl',c',e,g1,_,_,_,g2,g3,g4,e2,_,_,rfl⟩ := h'
 have := zuN e
 subst this
 rw [h1] at g1;cases g1
 rw [h3] at g3;cases g3
 rw [h4] at g4;cases g4
 cases e2
 rfl
def zEM (P : Program) (t : TypeId) (H : List AObj) (m x y : AV) (K : List AObj → Prop) : Prop := ∃ H',PutP P t H m x y H' ∧ K H'
theorem zAn {t : TypeId} {x y z : Operand} {m k e : AV} (hrel : Rel w S μ H) (ho : o.op = .mapUpdate t x y z) (hx : rep S μ m (a.eval x)) (hy : rep S μ k (a.eval y)) (hz : rep S μ e (a.eval z)) (h : zEM P t H m k e fun H'=>K .nil H') : o.wp P a w (z1u w S μ H a o K) Q := by
 obtain ⟨H',⟨rfl,i,ob,q,key,kb,c,rfl,h1,h2,h3,h4,h5,h7,h8,rfl,h9,h10,rfl⟩,hK⟩ := h
 obtain ⟨b,hμ,hv,hown⟩ := zB9 hrel h1 h2 hx
 have hkey := zm0 h7 hy
 have hval : a.eval z = .int q c := hz.1
 obtain ⟨w',hrun,hown',hg⟩ := hown.update h3 h4 h10 h8 (plainElem_int h5 h9)
 have hob : objRep w' S μ (.map (some b)) ⟨5,ob.e,ob.z,ob.c ++ [zDc kb q c]⟩ := by
  refine ⟨fun q=>by simp at q,fun q=>by simp at q,fun q=>by simp at q,fun _=>⟨b,rfl,?_⟩⟩
  dsimp only
  rw [zmH,List.length_append,List.length_singleton]
  exact hown'
 obtain ⟨g1,g2,g3,g4,g5⟩ := hg
 obtain ⟨r1,r2⟩ := hrel.turn (w' := w') (ob' := ⟨5,ob.e,ob.z,ob.c ++ [zDc kb q c]⟩) hμ h1 ⟨by omega,by omega⟩ h2.symm rfl ⟨g1,g2,g3,g4⟩ (fun b' hb' hne=>g5 b' hb' (fun e=>hne (by injection e))) hob
 unfold Oper.wp
 have hex : (execOp a.eval o).run Tryd.prog w = .ok .skip w' := by
  unfold execOp
  rw [ho]
  simp only [hv,hkey,hval,hrun,Sem.run_bind,Sem.run_pure,Result.andThen_ok]
 rw [hex]
 exact ⟨.nil,undef,_,S,μ,hK,rfl,trivial,r1,r2,fun q=>by rw [ho] at q;cases q⟩
def zt5 (P : Program) (t : TypeId) (H : List AObj) (K : AV → List AObj → Prop) : Prop :=
 match P.underlying t with
 |some (.map k e)=>K (MP H.length) (H ++ [⟨5,k,e,[]⟩])
 |_=>False
theorem zwe {t : TypeId} (hrel : Rel w S μ H) (ho : o.op = .makeMap t none) (h : zt5 P t H K) : o.wp P a w (z1u w S μ H a o K) Q := by
 unfold zt5 at h
 split at h
 ·rename_i k e hu
  have hown := World.ownsMap_made (H := Unit) w Tryd.prog k (plainElem Tryd.prog e)
  obtain ⟨h1,h2⟩ := hrel.grow (w' := w.alloc (.map #[] 0)) ((Below.refl _ _).alloc (Nat.le_refl _) _) (fun _ _ _ h=>h) (fun _ _ _ h=>.inl h) (fun b j d h hb=>by have := hrel.still_lt h;omega)
  have hnb : ∀ b,z2I (.map (some w.heap.size)) = some b → ¬ zDf μ H b ∧ ∀ j d,S b j d → (⟨5,k,e,[]⟩ : AObj).k = 2 ∧ j < (⟨5,k,e,[]⟩ : AObj).c.length * (⟨5,k,e,[]⟩ : AObj).z := by
   intro b hb
   simp [z2I] at hb;subst hb
   refine ⟨?_,fun j d h=>by have := hrel.still_lt h;omega⟩
   rintro ⟨i,x,o,hx,ho,hk,hbk⟩
   have := hrel.own_lt hx ho hk hbk;omega
  have r1 := h1.add (x := .map (some w.heap.size)) (o := ⟨5,k,e,[]⟩) (by simp) ⟨fun q=>by simp at q,fun q=>by simp at q,fun q=>by simp at q,fun _=>⟨w.heap.size,rfl,hown⟩⟩ hnb
  have r2 := h2.add hrel.len (x := .map (some w.heap.size)) (o := ⟨5,k,e,[]⟩) fun b hb=>by simp [z2I] at hb;omega
  unfold Oper.wp
  have hex : (execOp a.eval o).run P w = .ok (.value (.map (some w.heap.size))) (w.alloc (.map #[] 0)) := by
   unfold execOp
   rw [ho]
   simp only [Option.map_none,run_makeMap,Sem.run_bind,Sem.run_pure,Result.andThen_ok]
  rw [hex]
  exact ⟨MP H.length,_,_,S,_,h,rfl,⟨w.heap.size,by rw [← hrel.len];simp,rfl⟩,r1,r2,fun q=>by rw [ho] at q;cases q⟩
 ·exact h.elim
end
end Go.Proofs.YtaplemeamcgpkaaDoor

namespace Go.Proofs.YtaplemeamcgpkaaDoor
open Go.RowKit
def ro1 (H : List AObj) : AV → AV
 |.held (.inr (.inr (i,n)))=>match H[i]? with
  |some o=>if o.k = 2 ∧ n = o.c.length then SL o.c else OW i n
  |none=>OW i n
 |.held (.inl (.slice none 0 0))=>SL []
 |d=>d
def roA (H : List AObj) : AV → AV
 |.agg cs=>.agg (cs.map (ro1 H))
 |d=>ro1 H d
def ro (H : List AObj) : AV → AV
 |.iface s (.agg ds)=>.iface s (.agg (ds.map (roA H)))
 |d=>roA H d
section
variable {P : Program} {G : Gl} {w : World} {S : SS} {μ : List Value} {H : List AObj} {a : Act} {o : Oper} {K : AV → List AObj → Prop} {Q : Exit → Act → World → Prop} {T : Tm} {N : FS}
theorem rep1.toRo (hr : Rel w S μ H) {d : AV} {v : Value} (h : rep1 S μ d v) : rep1 S μ (ro1 H d) v := by
 unfold ro1
 split
 ·rename_i i n
  split
  ·rename_i ob hob
   split
   ·rename_i hh
    obtain ⟨hk,hn⟩ := hh
    obtain ⟨es,A,c,hK,hv,h1,h2,h3⟩ := zbb (K := fun es=>es = ob.c) hr (d := OW i n) (v := v) h ⟨ob,hob,hk,hn,rfl⟩
    subst hK
    exact ⟨A,c,hv,h1,h2,h3⟩
   ·exact h
  ·exact h
 ·obtain ⟨rfl,_⟩ := h
  exact ⟨none,0,rfl,Nat.le_refl _,Nat.zero_le _,fun hne=>absurd rfl hne⟩
 ·exact h
theorem zhD {d : AV} (h : ∀ cs,d ≠ DataW.agg cs) : ∀ cs,ro1 H d ≠ DataW.agg cs := by
 intro cs e
 unfold ro1 at e
 split at e
 ·split at e
  ·split at e <;> cases e
  ·cases e
 ·cases e
 ·exact h cs e
theorem zov {d : AV} {s : String} {x : AV} (h : ro1 H d = .iface s x) : d = .iface s x := by
 unfold ro1 at h
 split at h
 ·split at h
  ·split at h <;> cases h
  ·cases h
 ·cases h
 ·exact h
theorem repA.toRo (hr : Rel w S μ H) {d : AV} {v : Value} (h : repA S μ d v) : repA S μ (roA H d) v := by
 unfold repA at h
 split at h
 ·rename_i cs
  obtain ⟨us,e,hl,hu⟩ := h
  refine ⟨us,e,by simpa using hl,fun j d u hd hu'=>?_⟩
  rw [List.getElem?_map] at hd
  cases hc : cs[j]? with
  |none=>rw [hc] at hd;cases hd
  |some c =>
   rw [hc] at hd
   simp at hd;subst hd
   exact ⟨(hu j c u hc hu').1,(hu j c u hc hu').2.toRo hr⟩
 ·rename_i hne
  have e : roA H d = ro1 H d := by
   unfold roA
   split
   ·exact absurd rfl (hne _)
   ·rfl
  rw [e]
  have h2 := rep1.toRo hr h
  unfold repA
  split
  ·rename_i cs hcs;exact absurd hcs (zhD hne cs)
  ·exact h2
theorem rep.toRo (hr : Rel w S μ H) {d : AV} {v : Value} (h : rep S μ d v) : rep S μ (ro H d) v := by
 unfold rep at h
 split at h
 ·rename_i s ds
  obtain ⟨us,e,hl,hu⟩ := h
  refine ⟨us,e,by simpa using hl,fun j d u hd hu'=>?_⟩
  rw [List.getElem?_map] at hd
  cases hc : ds[j]? with
  |none=>rw [hc] at hd;cases hd
  |some c =>
   rw [hc] at hd
   simp at hd;subst hd
   exact (hu j c u hc hu').toRo hr
 ·rename_i hne
  have e : ro H d = roA H d := by
   unfold ro
   split
   ·exact absurd rfl (hne _ _)
   ·rfl
  rw [e]
  exact z2T (repA.toRo hr h)
def roF (_ : FuncId) (H : List AObj) (l : List AV) : List AV := l.map (ro H)
theorem zwh {f : FuncId} {l : List AV} : (roF f H l).length = l.length := by
 unfold roF
 exact List.length_map ..
theorem zt9 {f : FuncId} {l : List AV} {j : Nat} {d : AV} (h : (roF f H l)[j]? = some d) : ∃ x,l[j]? = some x ∧ (d = x ∨ d = ro H x) := by
 unfold roF at h
 ·rw [List.getElem?_map] at h
  cases hx : l[j]? with
  |none=>rw [hx] at h;cases h
  |some x =>
   rw [hx] at h
   simp at h
   exact ⟨x,rfl, .inr h.symm⟩
theorem ztj {f : FuncId} {args : Array Operand} {ts : Array TypeId} (hrel : Rel w S μ H) (hf : Fr S μ N T a) (hg : GOk G S) (ho : o.op = .call { callee := .value (.func f),args := args,argTypes := ts })
  (h : AC P G f (roF f H (args.toList.map (ev G T))) H K) : o.wp P a w (z1u w S μ H a o K) Q := by
 unfold Oper.wp
 rw [z8h h.1 ho rfl]
 have hc := h.2 w S μ (args.toList.map a.eval) hrel hg (by rw [zwh,List.length_map,List.length_map]) (fun j d v hd hv=>by
  obtain ⟨y,hy,hdy⟩ := zt9 hd
  rw [List.getElem?_map] at hy hv
  cases hx : args.toList[j]? with
  |none=>rw [hx] at hy;cases hy
  |some x =>
   rw [hx] at hy hv
   simp only [Option.map_some,Option.some.injEq] at hy hv
   subst hy hv
   rcases hdy with rfl|rfl
   ·exact hf.ev hg x
   ·exact (hf.ev hg x).toRo hrel)
 have e : (args.toList.map a.eval).toArray = args.map a.eval := by rw [← Array.toList_map,Array.toArray_toList]
 rw [e] at hc
 refine hc.mono fun e w' ⟨v,r,H',S',μ',he,hR,hrel',hrep,hst⟩=>?_
 subst he
 exact ⟨r,v,H',S',μ',hR,rfl,hrep,hrel',hst,fun q=>by rw [ho] at q;cases q⟩
end
section
variable {P : Program} {G : Gl} {w : World} {S : SS} {μ : List Value} {H : List AObj} {a : Act} {o : Oper} {K : AV → List AObj → Prop} {Q : Exit → Act → World → Prop} {T : Tm} {N : FS}
def zDh : AV → Bool
 |.nil=>true
 |.held (.inl _)=>true
 |.held (.inr (.inl _))=>true
 |.ptr _=>true
 |_=>false
theorem zuf {d : AV} {v : Value} (h : rep S μ d v) (hc : zDh d = true) : rep0 S μ d v := by
 match d,h,hc with
 |.nil,_,_=>trivial
 |.held (.inl u),h,_=>exact h
 |.held (.inr (.inl (i,q))),h,_=>exact h
 |.ptr d,h,_=>exact h
theorem zcE {d : AV} {v : Value} (h : rep0 S μ d v) : rep S μ d v := by
 match d,h with
 |.nil,_=>trivial
 |.held (.inl u),h=>exact h
 |.held (.inr (.inl (i,q))),h=>exact h
 |.ptr d,h=>exact h
theorem zjf {fn : Fn} {first caps : Array Operand} (hrel : Rel w S μ H) (hf : Fr S μ N T a) (hg : GOk G S) (ho : o.op = .makeFunc fn first caps) (hc : ((first.toList ++ caps.toList).map (ev G T)).all zDh = true)
  (hK : K (CL fn first.toList.length ((first.toList ++ caps.toList).map (ev G T))) H) : o.wp P a w (z1u w S μ H a o K) Q := by
 refine z1w (u := .func fn (first.map a.eval) (caps.map a.eval)) hrel ?_ hK ?_
 ·unfold execOp
  rw [ho]
  simp only [Instr.makeFunc,Sem.run_bind,Sem.run_pure,Result.andThen_ok]
 ·refine ⟨(first.toList ++ caps.toList).map a.eval,?_,by simp,fun j d u hd hu=>?_⟩
  ·have e1 : ((first.toList ++ caps.toList).map a.eval).take first.toList.length = (first.map a.eval).toList := by
    rw [List.map_append,List.take_append_of_le_length (by simp),List.take_of_length_le (by simp)];simp
   have e2 : ((first.toList ++ caps.toList).map a.eval).drop first.toList.length = (caps.map a.eval).toList := by
    rw [List.map_append,List.drop_append_of_le_length (by simp),List.drop_of_length_le (by simp)];simp
   rw [e1,e2]
  ·rw [List.getElem?_map] at hd hu
   cases hx : (first.toList ++ caps.toList)[j]? with
   |none=>rw [hx] at hd;cases hd
   |some x =>
    have hxm := List.mem_of_getElem? hx
    rw [hx] at hd hu
    simp only [Option.map_some,Option.some.injEq] at hd hu
    subst hd hu
    exact zuf (hf.ev hg x) ((List.all_eq_true.1 hc) _ (List.mem_map.2 ⟨x,hxm,rfl⟩))
def zcj (P : Program) (G : Gl) (x : AV) (args : List AV) (H : List AObj) (K : AV → List AObj → Prop) : Prop :=
 match x with
 |.slice caps [.held (.inl (.func (.func f) _ _)), .held (.inr (.inl (k,_)))]=>AC P G f ((caps.take k ++ args ++ caps.drop k).map (ro H)) H K
 |.held (.inl (.func (.func f) ⟨[]⟩ ⟨[]⟩))=>AC P G f (args.map (ro H)) H K
 |_=>False
theorem z9B {t : Tmp} {args : Array Operand} {ts : Array TypeId} {f : FuncId} {fs cs : Array Value} (hf : z5e P f = true) (ho : o.op = .call { callee := .value (.tmp t),args := args,argTypes := ts }) (ht : a.eval (.tmp t) = .func (.func f) fs cs) :
  (execOp a.eval o).run P w = .ok (.enter f (fs ++ args.map a.eval ++ cs)) w := by
 unfold z5e at hf
 cases h : P.funcs[f]? with
 |none=>rw [h] at hf;cases hf
 |some fn =>
  rw [h] at hf
  simp only [Bool.and_eq_true,Bool.not_eq_true',Option.isSome_iff_ne_none] at hf
  obtain ⟨h1,h2⟩ := hf
  have h3 : fn.body.isNone = false := by cases hb : fn.body with|none=>exact absurd hb h2|some _=>rfl
  unfold execOp
  rw [ho]
  simp only [resolve,ht,Deferred.ofValue,Sem.run_bind,Sem.run_pure,Result.andThen_ok,invoke,callFunc,run_program,h,h1,h3]
  simp [Sem.run_pure]
theorem zqK {t : Tmp} {args : Array Operand} {ts : Array TypeId} (hrel : Rel w S μ H) (hf : Fr S μ N T a) (hg : GOk G S) (ho : o.op = .call { callee := .value (.tmp t),args := args,argTypes := ts })
  (h : zcj P G (get T t) (args.toList.map (ev G T)) H K) : o.wp P a w (z1u w S μ H a o K) Q := by
 have hl : loud o.op = true := by rw [ho];rfl
 unfold zcj at h
 split at h
 ·rename_i caps f f1 f2 k k2 hT
  have hs := hf.slot t
  rw [hT] at hs
  obtain ⟨us,hu,hul,hur⟩ := hs
  have ht : a.eval (.tmp t) = .func (.func f) (us.take k).toArray (us.drop k).toArray := hu
  unfold Oper.wp
  rw [z9B h.1 ho ht]
  have hrc : ∀ (j : Nat) (d : AV) (v : Value),caps[j]? = some d → us[j]? = some v → rep S μ d v := fun j d v hd hv=>zcE (hur j d v hd hv)
  have hc := h.2 w S μ (us.take k ++ args.toList.map a.eval ++ us.drop k) hrel hg (by simp [hul]) (fun j d v hd hv=>by
   rw [List.getElem?_map] at hd
   cases hx : (caps.take k ++ args.toList.map (ev G T) ++ caps.drop k)[j]? with
   |none=>rw [hx] at hd;cases hd
   |some x =>
    rw [hx] at hd
    simp only [Option.map_some,Option.some.injEq] at hd
    subst hd
    refine rep.toRo hrel ?_
    have hlt : (us.take k).length = (caps.take k).length := by simp [hul]
    rcases Nat.lt_or_ge j (caps.take k ++ args.toList.map (ev G T)).length with hj|hj
    ·rw [List.getElem?_append_left hj] at hx
     rw [List.getElem?_append_left (by simp only [List.length_append,List.length_map,hlt] at hj ⊢;exact hj)] at hv
     rcases Nat.lt_or_ge j (caps.take k).length with hj2|hj2
     ·rw [List.getElem?_append_left hj2] at hx
      rw [List.getElem?_append_left (by rw [hlt];exact hj2)] at hv
      rw [List.getElem?_take] at hx hv
      split at hx
      ·rw [if_pos (by assumption)] at hv;exact hrc j x v hx hv
      ·cases hx
     ·rw [List.getElem?_append_right hj2] at hx
      rw [List.getElem?_append_right (by rw [hlt];exact hj2),hlt] at hv
      rw [List.getElem?_map] at hx hv
      cases hy : args.toList[j - (caps.take k).length]? with
      |none=>rw [hy] at hx;cases hx
      |some y =>
       rw [hy] at hx hv
       simp only [Option.map_some,Option.some.injEq] at hx hv
       subst hx hv
       exact hf.ev hg y
    ·rw [List.getElem?_append_right hj] at hx
     have hle : (us.take k ++ args.toList.map a.eval).length = (caps.take k ++ args.toList.map (ev G T)).length := by simp [hul]
     rw [List.getElem?_append_right (by rw [hle];exact hj),hle] at hv
     rw [List.getElem?_drop] at hx hv
     exact hrc _ x v hx hv)
  have e : (us.take k ++ args.toList.map a.eval ++ us.drop k).toArray = (us.take k).toArray ++ args.map a.eval ++ (us.drop k).toArray := by
   apply Array.ext'
   simp
  rw [e] at hc
  refine hc.mono fun e w' ⟨v,r,H',S',μ',he,hR,hrel',hrep,hst⟩=>?_
  subst he
  exact ⟨r,v,H',S',μ',hR,rfl,hrep,hrel',hst,fun q=>by rw [hl] at q;cases q⟩
 ·rename_i f hT
  have hs := hf.slot t
  rw [hT] at hs
  have ht : a.eval (.tmp t) = .func (.func f) #[] #[] := hs.1
  unfold Oper.wp
  rw [z9B h.1 ho ht]
  have hc := h.2 w S μ (args.toList.map a.eval) hrel hg (by simp) (fun j d v hd hv=>by
   rw [List.getElem?_map,List.getElem?_map] at hd
   rw [List.getElem?_map] at hv
   cases hx : args.toList[j]? with
   |none=>rw [hx] at hd;cases hd
   |some x =>
    rw [hx] at hd hv
    simp only [Option.map_some,Option.some.injEq] at hd hv
    subst hd hv
    exact (hf.ev hg x).toRo hrel)
  have e : (args.toList.map a.eval).toArray = #[] ++ args.map a.eval ++ #[] := by
   apply Array.ext'
   simp
  rw [e] at hc
  refine hc.mono fun e w' ⟨v,r,H',S',μ',he,hR,hrel',hrep,hst⟩=>?_
  subst he
  exact ⟨r,v,H',S',μ',hR,rfl,hrep,hrel',hst,fun q=>by rw [hl] at q;cases q⟩
 ·exact h.elim
end
def aMM (mx : Bool) (x y : AV) (K : AV → Prop) : Prop := match x,y with
 |.held (.inl (.int k a)), .held (.inl (.int k' b))=>k = k' ∧ K (V (.int k (if mx = true then (if b > a then b else a) else (if b < a then b else a))))
 |_,_=>False
theorem zBi {P : Program} {w : World} {S : SS} {μ : List Value} {H : List AObj} {a : Act} {o : Oper} {K : AV → List AObj → Prop} {Q : Exit → Act → World → Prop} {x y : Operand} {ts : Array TypeId} {d e : AV} (mx : Bool) (hrel : Rel w S μ H) (ho : o.op = .call { callee := .builtin (if mx = true then .max else .min),args := #[x,y],argTypes := ts }) (hx : rep S μ d (a.eval x)) (hy : rep S μ e (a.eval y)) (h : aMM mx d e fun r=>K r H) : o.wp P a w (z1u w S μ H a o K) Q := by
 unfold aMM at h
 split at h
 ·rename_i k i k' j
  obtain ⟨rfl,hK⟩ := h
  obtain ⟨e1,_⟩ := hx
  obtain ⟨e2,_⟩ := hy
  refine z1w hrel ?_ hK (zjI rfl)
  unfold execOp
  rw [ho]
  cases mx <;> simp [resolve,invoke,builtin,Sem.run_bind,Sem.run_pure,Result.andThen_ok,e1,e2,Builtin.max_,Builtin.min_,Builtin.max2,Builtin.min2]
 ·exact h.elim
def z08 (P : Program) (G : Gl) (o : Oper) (s : ASt) (K : AV → List AObj → Prop) : Prop :=
 match o.op with
 |.move x=>K (ev G s.T x) s.H
 |.assign x=>K (ev G s.T x) s.H
 |.pick c x y=>zdk (ev G s.T c) (ev G s.T x) (ev G s.T y) fun r=>K r s.H
 |.binOp op t x y _=>zF5 P t op (ev G s.T x) (ev G s.T y) fun r=>K r s.H
 |.unOp op _ x=>aUn op (ev G s.T x) fun r=>K r s.H
 |.alloc t=>match z7r P t with
  |some c=>K (OP s.H.length 0) (s.H ++ [⟨1,t,0,c⟩])
  |none=>False
 |.box t x=>(cellsOf (ev G s.T x)).all zCU = true ∧ K (OP s.H.length 0) (s.H ++ [⟨1,t,0,cellsOf (ev G s.T x)⟩])
 |.build t ps=>z7o P t (ps.toList.map fun p=>(p.1,ev G s.T p.2)) fun r=>K r s.H
 |.buildSlice t n ps=>z3F P t n (ps.toList.map fun p=>(p.1,ev G s.T p.2)) fun r=>K r s.H
 |.load t x=>z67 (z0z P t) s.H (ev G s.T x) fun r=>K r s.H
 |.store t x y=>z5M (z0z P t) s.H (ev G s.T x) (ev G s.T y) fun H'=>K .nil H'
 |.nilCheck x=>zEm (ev G s.T x) fun r=>K r s.H
 |.convert src dst x=>zec P src dst (ro s.H (ev G s.T x)) fun r=>K r s.H
 |.extract x i=>z1Z (ev G s.T x) i fun r=>K r s.H
 |.fieldAddr t x f=>z6u (z20 P t f) (ev G s.T x) fun r=>K r s.H
 |.field t x f=>z3D (z20 P t f) (ev G s.T x) fun r=>K r s.H
 |.indexAddr t x y=>z3c P t s.H (ev G s.T x) (ev G s.T y) fun r=>K r s.H
 |.index t x y=>z39 P t (ev G s.T x) (ev G s.T y) fun r=>K r s.H
 |.slice t x lo hi none=>z4X P t s.H (ev G s.T x) (lo.map (ev G s.T)) (hi.map (ev G s.T)) fun r=>K r s.H
 |.call { callee := .value (.func f),args := args,argTypes := _ }=>AC P G f (roF f s.H (args.toList.map (ev G s.T))) s.H K
 |.makeFunc fn first caps=>((first.toList ++ caps.toList).map (ev G s.T)).all zDh = true ∧ K (CL fn first.toList.length ((first.toList ++ caps.toList).map (ev G s.T))) s.H
 |.call { callee := .value (.tmp t),args := args,argTypes := _ }=>zcj P G (get s.T t) (args.toList.map (ev G s.T)) s.H K
 |.call { callee := .builtin .len,args := ⟨[x]⟩,argTypes := ⟨[t]⟩ }=>zCJ P t s.H (ev G s.T x) fun r=>K r s.H
 |.call { callee := .builtin .append,args := ⟨[x,y]⟩,argTypes := ⟨[t,t']⟩ }=>if t' = t then zDr P t s.H (ev G s.T x) (ev G s.T y) K else P.underlying t' = some .string ∧ zqi P t s.H (ev G s.T x) (ev G s.T y) K
 |.call { callee := .builtin .max,args := ⟨[x,y]⟩,argTypes := _ }=>aMM true (ev G s.T x) (ev G s.T y) fun r=>K r s.H
 |.call { callee := .builtin .min,args := ⟨[x,y]⟩,argTypes := _ }=>aMM false (ev G s.T x) (ev G s.T y) fun r=>K r s.H
 |.lookup t x y ok=>zAl P t s.H (ev G s.T x) (ev G s.T y) ok fun r=>K r s.H
 |.mapUpdate t x y z=>zEM P t s.H (ev G s.T x) (ev G s.T y) (ev G s.T z) fun H'=>K .nil H'
 |.makeMap t none=>zt5 P t s.H K
 |_=>False
theorem zoi {S : SS} {μ : List Value} {N : FS} {T : Tm} {a : Act} {G : Gl} (hf : Fr S μ N T a) (hg : GOk G S) (x : Option Operand) : (∀ y,x.map (ev G T) = some y → ∃ u,x.map a.eval = some u ∧ rep S μ y u) ∧ (x.map (ev G T) = none → x.map a.eval = none) := by
 cases x with
 |none=>exact ⟨fun y h=>(by cases h),fun _=>rfl⟩
 |some x=>exact ⟨fun y h=>by simp only [Option.map_some,Option.some.injEq] at h;subst h;exact ⟨_,rfl,hf.ev hg x⟩,fun h=>by cases h⟩
theorem z86 {P : Program} {G : Gl} {N : FS} {o : Oper} {s : ASt} {K : AV → List AObj → Prop} (h : z08 P G o s K) {w : World} {S : SS} {μ : List Value} {a : Act} (hr : Rel w S μ s.H) (hf : Fr S μ N s.T a) (hg : GOk G S) (Q : Exit → Act → World → Prop) :
  o.wp P a w (z1u w S μ s.H a o K) Q := by
 unfold z08 at h
 split at h
 ·rename_i hx;exact zpy hr (.inl hx) (hf.ev hg _) h
 ·rename_i hx;exact zpy hr (.inr hx) (hf.ev hg _) h
 ·rename_i hx;exact ztc hr hx (hf.ev hg _) (hf.ev hg _) (hf.ev hg _) h
 ·rename_i hx;exact zyO hr hx (hf.ev hg _) (hf.ev hg _) h
 ·rename_i hx;exact zC3 hr hx (hf.ev hg _) h
 ·rename_i t hx
  split at h
  ·rename_i c hc;exact zm2 hr hx hc h
  ·exact h.elim
 ·rename_i hx;exact zzA hr hx (hf.ev hg _) h.1 h.2
 ·rename_i hx;exact zsz hr hf hg hx h
 ·rename_i hx;exact op_buildSlice hr hf hg hx h
 ·rename_i hx;exact zuD hr hx (hf.ev hg _) h
 ·rename_i hx;exact zlh hr hx (hf.ev hg _) (hf.ev hg _) h
 ·rename_i hx;exact zjc hr hx (hf.ev hg _) h
 ·rename_i hx;exact op_conv hr hx ((hf.ev hg _).toRo hr) h
 ·rename_i hx;exact zle hr hx (hf.ev hg _) h
 ·rename_i hx;exact zgx hr hx (hf.ev hg _) h
 ·rename_i hx;exact zrp hr hx (hf.ev hg _) h
 ·rename_i hx;exact zfX hr hx (hf.ev hg _) (hf.ev hg _) h
 ·rename_i hx;exact zrd hr hx (hf.ev hg _) (hf.ev hg _) h
 ·rename_i hx;exact zs2 hr hx (hf.ev hg _) (zoi hf hg _).1 (zoi hf hg _).2 (zoi hf hg _).1 (zoi hf hg _).2 h
 ·rename_i hx;exact ztj hr hf hg hx h
 ·rename_i hx;exact zjf hr hf hg hx h.1 h.2
 ·rename_i hx;exact zqK hr hf hg hx h
 ·rename_i hx;exact zz9 hr hx (hf.ev hg _) h
 ·rename_i hx
  split at h
  ·rename_i e;subst e;exact zmX hr hx (hf.ev hg _) (hf.ev hg _) h
  ·exact zkY hr hx (hf.ev hg _) (hf.ev hg _) h.1 h.2
 ·rename_i hx;exact zBi true hr hx (hf.ev hg _) (hf.ev hg _) h
 ·rename_i hx;exact zBi false hr hx (hf.ev hg _) (hf.ev hg _) h
 ·rename_i hx;exact zvP hr hx (hf.ev hg _) (hf.ev hg _) h
 ·rename_i hx;exact zAn hr hx (hf.ev hg _) (hf.ev hg _) (hf.ev hg _) h
 ·rename_i hx;exact zwe hr hx h
 ·exact h.elim
def z1N (ops : List Oper) (j : Nat) : Option Tmp := (ops[j]?).bind (·.dst)
abbrev UD : AV := .iface "" (.agg [])
def z3t (x : AV) (want : Bool) (A B : Prop) : Prop :=
 match x with
 |.held (.inl (.bool b))=>(b = want → A) ∧ (b = !want → B)
 |.iface _ (.agg [])=>B
 |_=>False
def z21 (P : Program) (G : Gl) (ops : List Oper) : List Oper → ASt → (ASt → Prop) → Prop
 |[],s,K=>K s
 |o :: r,s,K=>match o.guard with
  |none=>z08 P G o s fun d H=>z21 P G ops r (s.set H o.dst d) K
  |some (j,want)=>match z1N ops j with
   |some t=>z3t (get s.T t) want (z08 P G o s fun d H=>z21 P G ops r (s.set H o.dst d) K) (z21 P G ops r (s.set s.H o.dst UD) K)
   |none=>False
def zEE (N : Nat) (ops : List Oper) : Bool := ops.all fun o=>match o.dst with|some d=>decide (d < N)|none=>true
theorem z3Y {S : SS} {μ : List Value} {N : FS} {T : Tm} {a : Act} (hf : Fr S μ N T a) {ops : List Oper} {j t : Nat} {b : Bool} (ht : z1N ops j = some t) (hx : get T t = V (.bool b)) : yielded ops.toArray a.tmps j = some b := by
 have h := hf.slot t
 rw [hx] at h
 obtain ⟨he,_⟩ := h
 unfold yielded
 have h1 : ((ops.toArray)[j]?).bind (·.dst) = some t := by simpa [z1N] using ht
 rw [h1]
 simp only [Option.bind_some]
 rw [Array.getD_eq_getD_getElem?] at he
 cases h2 : a.tmps[t]? with
 |none=>rw [h2] at he;simp [undef] at he
 |some x=>rw [h2] at he;simp only [Option.getD_some] at he;subst he;rfl
theorem zgc (S : SS) (μ : List Value) : rep S μ UD undef := ⟨[],rfl,rfl,fun j d u h=>by simp at h⟩
theorem zqF {S : SS} {μ : List Value} {t : String} {v : Value} (h : rep S μ (.iface t (.agg [])) v) : v = undef := by
 obtain ⟨us,rfl,hl,_⟩ := h
 have : us = [] := List.eq_nil_of_length_eq_zero hl
 subst this;rfl
theorem z85 {S : SS} {μ : List Value} {N : FS} {T : Tm} {a : Act} (hf : Fr S μ N T a) {ops : List Oper} {j t : Nat} {q : String} (ht : z1N ops j = some t) (hx : get T t = .iface q (.agg [])) : yielded ops.toArray a.tmps j = none := by
 have h := hf.slot t
 rw [hx] at h
 have he := zqF h
 unfold yielded
 have h1 : ((ops.toArray)[j]?).bind (·.dst) = some t := by simpa [z1N] using ht
 rw [h1]
 simp only [Option.bind_some]
 rw [Array.getD_eq_getD_getElem?] at he
 cases h2 : a.tmps[t]? with
 |none=>rfl
 |some x=>rw [h2] at he;simp only [Option.getD_some] at he;subst he;rfl
theorem Oper.wp_next {P : Program} {o : Oper} {a : Act} {w : World} {K K' : Act → World → Prop} {Q : Exit → Act → World → Prop} (hh : o.wp P a w K Q) (h : ∀ a w,K a w → K' a w) : o.wp P a w K' Q := by
 unfold Oper.wp at *
 generalize (execOp a.eval o).run P w = r at *
 cases r with
 |ok n w' =>
  cases n <;> simp only [Oper.upon] at hh ⊢ <;>
   first
    |exact h _ _ hh
    |exact Calls.mono hh (fun e w'' he=>by cases e <;> first|exact h _ _ he|exact he)
    |exact Rows.mono hh (fun _ _ he=>h _ _ he)
 |halt x w'=>cases x <;> simp only [Oper.upon] at hh ⊢ <;> exact hh
theorem z8N {P : Program} {G : Gl} {N : FS} {n : Nat} {ops : List Oper} {K : ASt → Prop} {Q : Exit → ASt → Prop} (hK : ∀ s,K s → Q .normal s) {w0 : World} {S0 : SS} {μ0 : List Value} {H0 : List AObj} (hn : n ≤ H0.length) (hl0 : μ0.length = H0.length) : ∀ (l : List Oper) (s : ASt),z21 P G ops l s K → zEE N l = true →
  ∀ w S μ a,Rel w S μ s.H → Fr S μ N s.T a → GOk G S → Step n w0 S0 μ0 H0 w S μ s.H → wpList P ops.toArray (Lift N n w0 S0 μ0 H0 Q) l a w
 |[],s,h,_,w,S,μ,a,hr,hf,hg,hs=>⟨s,S,μ,hK s h,hr,hf,hs⟩
 |o :: r,s,h,hfit,w,S,μ,a,hr,hf,hg,hs=>by
  have hfit' := hfit
  simp only [zEE,List.all_cons,Bool.and_eq_true] at hfit'
  have hd : ∀ i,o.dst = some i → i < N := fun i e=>by have := hfit'.1;rw [e] at this;simpa using this
  have hgo : ∀ (hw : Region.wanted o (yielded ops.toArray a.tmps) = true),z08 P G o s (fun d H=>z21 P G ops r (s.set H o.dst d) K) → wpList P ops.toArray (Lift N n w0 S0 μ0 H0 Q) (o :: r) a w := by
   intro hw hstep
   unfold wpList
   rw [if_pos hw]
   refine .inl ?_
   have hop := z86 hstep hr hf hg (Lift N n w0 S0 μ0 H0 Q)
   refine _root_.Go.Proofs.YtaplemeamcgpkaaDoor.Oper.wp_next hop fun a' w'=>?_
   rintro ⟨d,u,H',S',μ',hrest,rfl,hrep,hr',hs',_⟩
   have hst := (hf.ext (hs'.toExt hr)).put o.dst hd hrep
   have hn' : n ≤ s.H.length := by
    have := hs.objs
    rcases Nat.lt_or_ge s.H.length n with hlt|hge
    ·have hlm : s.H.length < μ0.length := by omega
     obtain ⟨x',hx',_⟩ := hs.objs s.H.length μ0[s.H.length] hlt (List.getElem?_eq_getElem hlm)
     have := (List.getElem?_eq_some_iff.1 hx').1
     rw [hr.len] at this;omega
    ·exact hge
   exact z8N hK hn hl0 r _ hrest hfit'.2 w' S' μ' _ hr' hst (hg.ext hs'.still) (hs.trans (hs'.less hn'))
  unfold z21 at h
  split at h
  ·rename_i hgd
   exact hgo (by simp [Region.wanted,hgd]) h
  ·rename_i j want hgd
   split at h
   ·rename_i t ht
    unfold z3t at h
    split at h
    ·rename_i b hb
     have hy := z3Y hf ht hb
     by_cases e : b = want
     ·exact hgo (by simp [Region.wanted,hgd,hy,e]) (h.1 e)
     ·have hrest := h.2 (by cases b <;> cases want <;> simp_all)
      unfold wpList
      rw [if_neg (by simp [Region.wanted,hgd,hy,e])]
      have hst := hf.put o.dst hd (zgc S μ)
      exact z8N hK hn hl0 r _ hrest hfit'.2 w S μ _ hr hst hg hs
    ·rename_i q hb
     have hy := z85 hf ht hb
     unfold wpList
     rw [if_neg (by simp [Region.wanted,hgd,hy])]
     have hst := hf.put o.dst hd (zgc S μ)
     exact z8N hK hn hl0 r _ h hfit'.2 w S μ _ hr hst hg hs
    ·exact h.elim
   ·exact h.elim
theorem zbo {P : Program} {G : Gl} {N : FS} {n : Nat} {Q : Exit → ASt → Prop} {s : ASt} {id : Nat} {ops : List Oper} (hfit : zEE N ops = true) (hn : n ≤ s.H.length) (h : z21 P G ops ops s fun s=>Q .normal s) : AWp P G N n (.region id ops.toArray false) Q s :=
 fun w S μ a hr hf hg=>wp_region_lit (z8N (K := fun s=>Q .normal s) (fun s h=>h) hn hr.len ops s h hfit w S μ a hr hf hg (Step.refl _ _ _ _ _))
end Go.Proofs.YtaplemeamcgpkaaDoor

namespace Go.Proofs.YtaplemeamcgpkaaDoor
open Go.RowKit
def z2t : Nat → List AV → Tm
 |_,[]=>[]
 |k,d :: r=>(k,d) :: z2t (k + 1) r
theorem z8U : ∀ (args : List AV) (k i : Nat),get (z2t k args) i = if k ≤ i then (args[i - k]?).getD .nil else .nil
 |[],k,i=>by simp [z2t,get]
 |d :: r,k,i=>by
  simp only [z2t,get]
  split
  ·rename_i e;subst e;simp
  ·rename_i hne
   rw [z8U r (k + 1) i]
   by_cases h : k ≤ i
   ·rw [if_pos (by omega),if_pos h]
    obtain ⟨q,hq⟩ : ∃ q,i - k = q + 1 := ⟨i - k - 1,by omega⟩
    rw [hq,show i - (k + 1) = q by omega]
    simp
   ·rw [if_neg (by omega),if_neg h]
def noT : AV → AV
 |.iface _ _=>.nil
 |d=>d
def zFe : List Nat → Tm → AV
 |[t],T=>get T t
 |ts,T=>TU (ts.map fun t=>noT (get T t))
section
variable {P : Program} {G : Gl}
theorem zsX {S : SS} {μ : List Value} {d : AV} {v : Value} (h : rep S μ d v) : repA S μ (noT d) v := by
 unfold noT
 split
 ·trivial
 ·rename_i hne
  unfold rep at h
  split at h
  ·exact absurd rfl (hne _ _)
  ·exact h
def zCT (rs : List Nat) (X : AV) : Exit → ASt → Prop
 |.normal,s=>ro s.H (zFe rs s.T) = X
 |.ret,s=>ro s.H (zFe rs s.T) = X
 |_,_=>False
theorem z0h {f : FuncId} {args : List AV} {X : AV} {H : List AObj} {R : AV → List AObj → Prop} (h : ACp P G f args X) (ha : args.all (ltT 0) = true) (k : R X H) : AC P G f args H R :=
 (AC.pure h ha H).mono fun r H' ⟨e1,e2⟩=>by subst e1 e2;exact k
end
end Go.Proofs.YtaplemeamcgpkaaDoor

namespace Go.Proofs.YtaplemeamcgpkaaDoor
open Go.RowKit
section
variable {P : Program} {G : Gl} {N : FS} {n : Nat} {s s' : ASt} {H H' : List AObj} {T : Tm} {K : ASt → Prop} {K1 : AV → Prop} {K2 : AV → List AObj → Prop} {ops l r : List Oper} {dst : Option Tmp} {op : Op} {ty : TypeId} {pos : String} {af : Array Edge} {gd : Option (Nat × Bool)} {x y z : AV} {t t' : TypeId}
def z4g (d : Option Tmp) (T : Tm) (w : Bool) (A B : Prop) : Prop := match d with
 |some t=>z3t (get T t) w A B
 |none=>False
theorem zl6 {t : Tmp} {w : Bool} {A B : Prop} : z4g (some t) T w A B = z3t (get T t) w A B := _root_.id rfl
theorem zms {j : Nat} {w : Bool} : z21 P G ops (⟨dst,op,ty,pos,af,some (j,w)⟩ :: r) s K = z4g (z1N ops j) s.T w (z08 P G ⟨dst,op,ty,pos,af,some (j,w)⟩ s fun d H=>z21 P G ops r (s.set H dst d) K) (z21 P G ops r (s.set s.H dst UD) K) := by
 rw [show z21 P G ops (⟨dst,op,ty,pos,af,some (j,w)⟩ :: r) s K = (match z1N ops j with
  |some t=>z3t (get s.T t) w (z08 P G ⟨dst,op,ty,pos,af,some (j,w)⟩ s fun d H=>z21 P G ops r (s.set H dst d) K) (z21 P G ops r (s.set s.H dst UD) K)
  |none=>False) from rfl]
 unfold z4g;rfl
theorem z33 {o : Oper} : z1N (o :: r) 0 = o.dst := _root_.id rfl
theorem z3g {o : Oper} {j : Nat} : z1N (o :: r) (j + 1) = z1N r j := _root_.id rfl
theorem zgW {d : Nat} : ASt.set ⟨H,T⟩ H' (some d) x = ⟨H',(d,x) :: T⟩ := _root_.id rfl
theorem zfY : ASt.set ⟨H,T⟩ H' none x = ⟨H',T⟩ := _root_.id rfl
theorem z7S {j i : Nat} : get ((j,x) :: T) i = if j = i then x else get T i := _root_.id rfl
def zlv (z : Option (List AV)) (t : TypeId) (H : List AObj) (K2 : AV → List AObj → Prop) : Prop := match z with
 |some c=>K2 (OP H.length 0) (H ++ [⟨1,t,0,c⟩])
 |none=>False
theorem zm7 {c : List AV} : zlv (some c) t H K2 = K2 (OP H.length 0) (H ++ [⟨1,t,0,c⟩]) := _root_.id rfl
theorem zty {a : Operand} : z08 P G ⟨dst, .load t a,ty,pos,af,gd⟩ s K2 = z67 (z0z P t) s.H (ev G s.T a) fun r=>K2 r s.H := _root_.id rfl
theorem zsL {i : Nat} : ev G T (.tmp i) = get T i := _root_.id rfl
theorem zgg {v : Value} : ev G T (.const v) = cv v := _root_.id rfl
theorem zlj {f : FuncId} : ev G T (.func f) = V (.func (.func f) #[] #[]) := _root_.id rfl
theorem zdW {g : Nat} : ev G T (.global g) = zEA G g := _root_.id rfl
theorem ze1 {j g : Nat} : zEA ((j,x) :: G) g = if j = g then .ptr x else zEA G g := _root_.id rfl
theorem zqV {k : IntKind} {i : Int} : cv (.int k i) = V (.int k i) := _root_.id rfl
theorem zkQ {b : Bool} : cv (.bool b) = V (.bool b) := _root_.id rfl
theorem zrA {b : ByteArray} : cv (.string b) = V (.string b) := _root_.id rfl
theorem zhd {A : Option Addr} {i c : Nat} : cv (.slice A i c) = V (.slice A i c) := _root_.id rfl
theorem zsp {A : Option Addr} : cv (.pointer A) = V (.pointer A) := _root_.id rfl
theorem zqZ {vs : List Value} : cv (.agg ⟨vs⟩) = if vs.all (·.oneCell') = true then .agg (vs.map fun u=>V u) else .nil := by simp [cv]
theorem zmw {k : IntKind} {i : Int} : (Value.int k i).oneCell' = true := _root_.id rfl
theorem zge {b : Bool} : (Value.bool b).oneCell' = true := _root_.id rfl
theorem zmj {b : ByteArray} : (Value.string b).oneCell' = true := _root_.id rfl
theorem zdc {A : Option Addr} {i c : Nat} : (Value.slice A i c).oneCell' = true := _root_.id rfl
theorem zk5 {A : Option Addr} : (Value.pointer A).oneCell' = true := _root_.id rfl
section
variable {k : IntKind} {a b : Int}
theorem zzP : zF5 P t .add (V (.int k a)) (V (.int k b)) K1 = K1 (V (.int k (k.wrap (a + b)))) := by simp [zF5,zEw]
theorem zzr : zF5 P t .sub (V (.int k a)) (V (.int k b)) K1 = K1 (V (.int k (k.wrap (a - b)))) := by simp [zF5,zEw]
theorem zzW : zF5 P t .mul (V (.int k a)) (V (.int k b)) K1 = K1 (V (.int k (k.wrap (a * b)))) := by simp [zF5,zEw]
theorem zzl : zF5 P t .quo (V (.int k a)) (V (.int k b)) K1 = (b ≠ 0 ∧ K1 (V (.int k (k.wrap (a.tdiv b))))) := by simp [zF5,zEw]
theorem zA0 : zF5 P t .rem (V (.int k a)) (V (.int k b)) K1 = (b ≠ 0 ∧ K1 (V (.int k (a.tmod b)))) := by simp [zF5,zEw]
theorem zzE : zF5 P t .and (V (.int k a)) (V (.int k b)) K1 = K1 (V (.int k (bits .and k a b))) := by simp [zF5,zEw]
theorem zDV : zF5 P t .or (V (.int k a)) (V (.int k b)) K1 = K1 (V (.int k (bits .or k a b))) := by simp [zF5,zEw]
theorem zzz : zF5 P t .xor (V (.int k a)) (V (.int k b)) K1 = K1 (V (.int k (bits .xor k a b))) := by simp [zF5,zEw]
theorem zga : zF5 P t .andNot (V (.int k a)) (V (.int k b)) K1 = K1 (V (.int k (bits .andNot k a b))) := by simp [zF5,zEw]
theorem zyt {k' : IntKind} : zF5 P t .shl (V (.int k a)) (V (.int k' b)) K1 = (0 ≤ b ∧ K1 (V (.int k (k.wrap (a * 2 ^ (min b.toNat k.bits)))))) := by simp [zF5,zEw]
theorem zAm {k' : IntKind} : zF5 P t .shr (V (.int k a)) (V (.int k' b)) K1 = (0 ≤ b ∧ K1 (V (.int k (a.fdiv (2 ^ (min b.toNat k.bits)))))) := by simp [zF5,zEw]
theorem zyz : zF5 P t .eql (V (.int k a)) (V (.int k b)) K1 = K1 (V (.bool (decide (a = b)))) := by
 have : (a == b) = decide (a = b) := by by_cases h : a = b <;> simp [h]
 simp [zF5,zEw,this]
theorem zAw : zF5 P t .neq (V (.int k a)) (V (.int k b)) K1 = K1 (V (.bool (decide (¬ a = b)))) := by
 have : (a != b) = decide (¬ a = b) := by by_cases h : a = b <;> simp [h]
 simp [zF5,zEw,this]
theorem zz5 : zF5 P t .lss (V (.int k a)) (V (.int k b)) K1 = K1 (V (.bool (decide (a < b)))) := by simp [zF5,zEw]
theorem zze : zF5 P t .leq (V (.int k a)) (V (.int k b)) K1 = K1 (V (.bool (decide (a ≤ b)))) := by simp [zF5,zEw]
theorem zyI : zF5 P t .gtr (V (.int k a)) (V (.int k b)) K1 = K1 (V (.bool (decide (b < a)))) := by simp [zF5,zEw]
theorem zAt : zF5 P t .geq (V (.int k a)) (V (.int k b)) K1 = K1 (V (.bool (decide (b ≤ a)))) := by simp [zF5,zEw]
end
theorem zzN {o : BinOp} {a b : ByteArray} : zF5 P t o (V (.string a)) (V (.string b)) K1 = zFF o a b K1 := _root_.id rfl
theorem zyV {a b : Bool} : zF5 P t .eql (V (.bool a)) (V (.bool b)) K1 = (P.underlying t = some .bool ∧ K1 (V (.bool (a == b)))) := _root_.id rfl
theorem zyY {a b : Bool} : zF5 P t .neq (V (.bool a)) (V (.bool b)) K1 = (P.underlying t = some .bool ∧ K1 (V (.bool (!(a == b))))) := _root_.id rfl
theorem zAu {b : Bool} : aUn .not (V (.bool b)) K1 = K1 (V (.bool (!b))) := _root_.id rfl
theorem zzf {k : IntKind} {a : Int} : aUn .neg (V (.int k a)) K1 = K1 (V (.int k (k.wrap (0 - a)))) := _root_.id rfl
theorem z0C {a : Int} (h1 : -9223372036854775808 ≤ a) (h2 : a ≤ 9223372036854775807) : IntKind.i64.wrap a = a := IntWalk.i64_in a ⟨h1,h2⟩
theorem z0I {a : Int} (h1 : 0 ≤ a) (h2 : a ≤ 18446744073709551615) : IntKind.u64.wrap a = a := IntWalk.u64_in a ⟨h1,h2⟩
theorem z02 {a b : Int} (h : 0 ≤ a) : a.tdiv b = a / b := Int.tdiv_eq_ediv_of_nonneg h
theorem z01 {a b : Int} (h : 0 ≤ a) : a.tmod b = a % b := Int.tmod_eq_emod_of_nonneg h
theorem zyK {ds : List AV} {i : Nat} : z1Z (TU ds) i K1 = nth ds i K1 := _root_.id rfl
theorem zgr {a : List AV} : nth (x :: a) 0 K1 = K1 x := by simp [nth]
theorem zg5 {a : List AV} {i : Nat} : nth (x :: a) (i + 1) K1 = nth a i K1 := by simp [nth]
theorem z05 {α : Type} {f : α → AV} {a : List α} {i : Nat} (h : i < a.length) : nth (a.map f) i K1 = K1 (f a[i]) := by simp [nth,List.getElem?_map,List.getElem?_eq_getElem h]
theorem ze5 {o : AObj} {K3 : AObj → Prop} : zEG (o :: H) 0 K3 = K3 o := by simp [zEG]
theorem zdp {o : AObj} {i : Nat} {K3 : AObj → Prop} : zEG (o :: H) (i + 1) K3 = zEG H i K3 := by simp [zEG]
theorem zz3 {k : Nat} {cs : List AV} : z67 k H (.ptr (.agg cs)) K1 = (k = cs.length + 2 ∧ K1 (.agg cs)) := _root_.id rfl
theorem zsO {k : Nat} {v : Value} : z67 k H (.ptr (V v)) K1 = (k = 1 ∧ K1 (V v)) := _root_.id rfl
theorem zqz {k : Nat} {es sp : List AV} : z67 k H (.ptr (.slice es sp)) K1 = (k = 1 ∧ K1 (.slice es sp)) := _root_.id rfl
theorem zD2 {k i o : Nat} : z67 k H (OP i o) K1 = zEG H i fun ob=>z7M ob fun l=>z0Y k l o K1 := _root_.id rfl
theorem zrO {e : TypeId} {z : Nat} {c : List AV} {K3 : List AV → Prop} : z7M ⟨1,e,z,c⟩ K3 = K3 c := _root_.id rfl
theorem zqO {a : List AV} {o : Nat} : z0Y 1 a o K1 = nth a o K1 := by simp [z0Y]
theorem zrX {a : List AV} {k o : Nat} : z0Y (k + 2) a o K1 = (o + k ≤ a.length ∧ K1 (.agg ((a.drop o).take k))) := by simp [z0Y]
theorem zzj {k i o : Nat} {K3 : List AObj → Prop} : z5M k H (OP i o) x K3 = zEG H i fun ob=>zFN ob k o x fun ob'=>K3 (H.set i ob') := _root_.id rfl
theorem zrM {e : TypeId} {z k o : Nat} {c : List AV} {K3 : AObj → Prop} : zFN ⟨1,e,z,c⟩ k o x K3 = (k ≠ 0 ∧ (cellsOf x).length = zE7 k ∧ (cellsOf x).all zCU = true ∧ o + zE7 k ≤ c.length ∧ K3 ⟨1,e,z,z0e c o (cellsOf x)⟩) := _root_.id rfl
theorem zyS {off k : Nat} {cs : List AV} : z6u (some (off,k)) (.ptr (.agg cs)) K1 = z0Y k cs off fun d=>K1 (.ptr d) := _root_.id rfl
theorem zFg {off k i o : Nat} : z6u (some (off,k)) (OP i o) K1 = K1 (OP i (o + off)) := _root_.id rfl
theorem zr9 {off k : Nat} {cs : List AV} : z3D (some (off,k)) (.agg cs) K1 = z0Y k cs off K1 := _root_.id rfl
theorem zmU {cs : List AV} : cellsOf (.agg cs) = cs := _root_.id rfl
theorem zFJ {v : Value} : cellsOf (V v) = [V v] := _root_.id rfl
theorem zdB {es sp : List AV} : cellsOf (.slice es sp) = [.slice es sp] := _root_.id rfl
theorem zxU {i m : Nat} : cellsOf (OW i m) = [OW i m] := _root_.id rfl
theorem zyl {i m : Nat} : cellsOf (OP i m) = [OP i m] := _root_.id rfl
theorem zn4 : cellsOf (.ptr x) = [.ptr x] := _root_.id rfl
theorem zou {v : Value} : zCU (V v) = true := _root_.id rfl
theorem z8k {es sp : List AV} : zCU (.slice es sp) = true := _root_.id rfl
theorem zhj {i m : Nat} : zCU (OW i m) = true := _root_.id rfl
theorem zhF {i m : Nat} : zCU (OP i m) = true := _root_.id rfl
theorem zed : zCU (.ptr x) = true := _root_.id rfl
theorem zdI {cs : List AV} : zCU (.agg cs) = true := _root_.id rfl
theorem zmW {a : List AV} {o : Nat} : z0e a o [] = a := _root_.id rfl
theorem zic {a c : List AV} {o : Nat} : z0e a o (x :: c) = z0e (a.set o x) (o + 1) c := _root_.id rfl
theorem ixS {k' : IntKind} {k : Nat} {i : Int} {es : List AV} : z3E k H (.slice es []) (V (.int k' i)) K1 = (0 ≤ i ∧ nth es i.toNat fun d=>(cellsOf d).length = zE7 k ∧ K1 (.ptr d)) := _root_.id rfl
theorem zDU {k' : IntKind} {k j m : Nat} {i : Int} : z3E k H (OW j m) (V (.int k' i)) K1 = (0 ≤ i ∧ z1d H (OW j m) fun es=>nth es i.toNat fun d=>(cellsOf d).length = zE7 k ∧ K1 (.ptr d)) := _root_.id rfl
theorem zEv {k' : IntKind} {k : Nat} {i : Int} : z3E k H (V (.slice none 0 0)) (V (.int k' i)) K1 = (0 ≤ i ∧ z1d H (V (.slice none 0 0)) fun es=>nth es i.toNat fun d=>(cellsOf d).length = zE7 k ∧ K1 (.ptr d)) := _root_.id rfl
theorem zh9 {es : List AV} {K3 : List AV → Prop} : z1d H (.slice es []) K3 = K3 es := _root_.id rfl
theorem zrF {i m : Nat} {K3 : List AV → Prop} : z1d H (OW i m) K3 = zEG H i fun o=>o.k = 2 ∧ m = o.c.length ∧ K3 o.c := _root_.id rfl
theorem zrZ {K3 : List AV → Prop} : z1d H (V (.slice none 0 0)) K3 = K3 [] := _root_.id rfl
theorem zki {b : ByteArray} : zCJ P t H (V (.string b)) K1 = (P.underlying t = some .string ∧ K1 (V (.int .i64 b.size))) := _root_.id rfl
theorem zdr {es : List AV} : zCJ P t H (.slice es []) K1 = ((z1Y P t).isSome = true ∧ K1 (V (.int .i64 es.length))) := _root_.id rfl
theorem zmg {i m : Nat} : zCJ P t H (OW i m) K1 = ((z1Y P t).isSome = true ∧ K1 (V (.int .i64 m))) := _root_.id rfl
theorem zk4 : zCJ P t H (V (.slice none 0 0)) K1 = ((z1Y P t).isSome = true ∧ K1 (V (.int .i64 0))) := _root_.id rfl
theorem zgT {d : Int} {K3 : Int → Prop} : asI none d K3 = K3 d := _root_.id rfl
theorem zh3 {d i : Int} {k : IntKind} {K3 : Int → Prop} : asI (some (V (.int k i))) d K3 = K3 i := _root_.id rfl
theorem zr8 {i o : Nat} : zEm (OP i o) K1 = K1 (OP i o) := _root_.id rfl
theorem zkZ : zEm (.ptr x) K1 = K1 (.ptr x) := _root_.id rfl
theorem znz {k : IntKind} {i : Int} : ro H (V (.int k i)) = V (.int k i) := _root_.id rfl
theorem zib {b : Bool} : ro H (V (.bool b)) = V (.bool b) := _root_.id rfl
theorem zoy {b : ByteArray} : ro H (V (.string b)) = V (.string b) := _root_.id rfl
theorem ziJ : ro H (V (.slice none 0 0)) = SL [] := _root_.id rfl
theorem ze0 {es sp : List AV} : ro H (.slice es sp) = .slice es sp := _root_.id rfl
theorem zoF : ro H (.ptr x) = .ptr x := _root_.id rfl
theorem zxx {i o : Nat} : ro H (OP i o) = OP i o := _root_.id rfl
theorem zsb {i m : Nat} : ro H (OW i m) = ro1 H (OW i m) := _root_.id rfl
theorem znV {cs : List AV} : ro H (.agg cs) = .agg (cs.map (ro1 H)) := _root_.id rfl
theorem zy4 {ds : List AV} : ro H (TU ds) = TU (ds.map (roA H)) := _root_.id rfl
theorem zhN {cs : List AV} : roA H (.agg cs) = .agg (cs.map (ro1 H)) := _root_.id rfl
theorem zxT {v : Value} : roA H (V v) = ro1 H (V v) := _root_.id rfl
theorem zaW {es sp : List AV} : roA H (.slice es sp) = .slice es sp := _root_.id rfl
theorem zg4 {i m : Nat} : roA H (OW i m) = ro1 H (OW i m) := _root_.id rfl
theorem zmN {i m : Nat} : roA H (OP i m) = OP i m := _root_.id rfl
theorem zhT : roA H (.ptr x) = .ptr x := _root_.id rfl
theorem zol {k : IntKind} {i : Int} : ro1 H (V (.int k i)) = V (.int k i) := _root_.id rfl
theorem zhZ {b : Bool} : ro1 H (V (.bool b)) = V (.bool b) := _root_.id rfl
theorem znG {b : ByteArray} : ro1 H (V (.string b)) = V (.string b) := _root_.id rfl
theorem ziH : ro1 H (V (.slice none 0 0)) = SL [] := _root_.id rfl
theorem zdN {es sp : List AV} : ro1 H (.slice es sp) = .slice es sp := _root_.id rfl
theorem zmy : ro1 H (.ptr x) = .ptr x := _root_.id rfl
theorem zyi {i o : Nat} : ro1 H (OP i o) = OP i o := _root_.id rfl
theorem zgL {i : Nat} : zFe [i] T = get T i := _root_.id rfl
theorem zgf {i j : Nat} : zFe [i,j] T = TU [noT (get T i),noT (get T j)] := _root_.id rfl
theorem zbf {i j k : Nat} : zFe [i,j,k] T = TU [noT (get T i),noT (get T j),noT (get T k)] := _root_.id rfl
theorem zxi {v : Value} : noT (V v) = V v := _root_.id rfl
theorem zhM {cs : List AV} : noT (.agg cs) = .agg cs := _root_.id rfl
theorem zaU {es sp : List AV} : noT (.slice es sp) = .slice es sp := _root_.id rfl
theorem znQ {i m : Nat} : noT (OW i m) = OW i m := _root_.id rfl
theorem zoI {i m : Nat} : noT (OP i m) = OP i m := _root_.id rfl
theorem zhB : noT (.ptr x) = .ptr x := _root_.id rfl
theorem zi3 : noT .nil = .nil := _root_.id rfl
theorem zdH {k : Nat} : z2t k [] = [] := _root_.id rfl
theorem zbN {k : Nat} {a : List AV} : z2t k (x :: a) = (k,x) :: z2t (k + 1) a := _root_.id rfl
theorem zh7 {m : Nat} : allC m [] = True := by simp [allC]
theorem zdq {m : Nat} {a : List AV} : allC m (x :: a) = ((cellsOf x).length = m ∧ allC m a) := by simp [allC]
theorem z9r {m : Nat} {a b : List AV} : allC m (a ++ b) = (allC m a ∧ allC m b) := by
 simp only [allC,List.mem_append,eq_iff_iff]
 exact ⟨fun h=>⟨fun d hd=>h d (.inl hd),fun d hd=>h d (.inr hd)⟩,fun h d hd=>hd.elim (h.1 d) (h.2 d)⟩
theorem zjW {α : Type} {m : Nat} {f : α → AV} {a : List α} (h : ∀ x,(cellsOf (f x)).length = m) : allC m (a.map f) = True := by
 simp only [allC,List.mem_map,eq_iff_iff,iff_true]
 rintro d ⟨x,_,rfl⟩;exact h x
section
variable {Q : Exit → ASt → Prop} {id : Nat} {c d e : Code}
theorem wr (hfit : zEE N ops = true) (hn : n ≤ s.H.length) (h : z21 P G ops ops s fun s=>AWp P G N n d Q s) : AWp P G N n (.seq (.region id ops.toArray false) d) Q s := zcL (zbo hfit hn h)
theorem wr1 (hfit : zEE N ops = true) (hn : n ≤ s.H.length) (h : z21 P G ops ops s fun s=>Q .normal s) : AWp P G N n (.region id ops.toArray false) Q s := zbo hfit hn h
theorem z9M {K : ASt → Prop} : zuk K Q .normal s = K s := _root_.id rfl
theorem z9U {K : ASt → Prop} : zuk K Q .ret s = Q .ret s := _root_.id rfl
theorem z9F {K : ASt → Prop} {i : Nat} : zuk K Q (.exit i) s = Q (.exit i) s := _root_.id rfl
theorem zp1 : z96 id Q .normal s = Q .normal s := _root_.id rfl
theorem zpR : z96 id Q .ret s = Q .ret s := _root_.id rfl
theorem zpO {i : Nat} : z96 id Q (.exit i) s = if i = id then Q .normal s else Q (.exit i) s := _root_.id rfl
theorem zeo {ι : Type} {I : ι → ASt} {M : ι → Nat} {i : ι} : zx6 n I M i Q .ret s = Q .ret s := _root_.id rfl
theorem zeV {ι : Type} {I : ι → ASt} {M : ι → Nat} {i : ι} {j : Nat} : zx6 n I M i Q (.exit j) s = Q (.exit j) s := _root_.id rfl
theorem ziS {ι : Type} {I : ι → ASt} {M : ι → Nat} {i : ι} (i' : ι) (h1 : Le s (I i')) (h2 : n ≤ (I i').H.length) (h3 : M i' < M i) : zx6 n I M i Q .normal s := ⟨i',h1,h2,h3⟩
theorem zfp {rs : List Nat} : zCT rs x .normal s = (ro s.H (zFe rs s.T) = x) := _root_.id rfl
theorem zf3 {rs : List Nat} : zCT rs x .ret s = (ro s.H (zFe rs s.T) = x) := _root_.id rfl
def zsN (x : AV) (A B : Prop) : Prop := match x with
 |.held (.inl (.bool t))=>(t = true → A) ∧ (t = false → B)
 |_=>False
theorem wc {o : Operand} (h : zsN (ev G s.T o) (AWp P G N n c Q s) (AWp P G N n d Q s)) : AWp P G N n (.cond o c d) Q s := by
 unfold zsN at h
 split at h
 ·rename_i t ht;exact zgj ht h.1 h.2
 ·exact h.elim
theorem zmJ {A B : Prop} : zsN (V (.bool true)) A B = A := by simp [zsN]
theorem zi8 {A B : Prop} : zsN (V (.bool false)) A B = B := by simp [zsN]
theorem zF8 {A B : Prop} : z3t (V (.bool true)) true A B = A := by simp [z3t]
theorem zEc {A B : Prop} : z3t (V (.bool true)) false A B = B := by simp [z3t]
theorem zEW {A B : Prop} : z3t (V (.bool false)) true A B = B := by simp [z3t]
theorem zFc {A B : Prop} : z3t (V (.bool false)) false A B = A := by simp [z3t]
theorem zr6 {T : Tm} : TLe n T [] = True := _root_.id rfl
theorem zkB {T T' : Tm} {i : Nat} : TLe n T ((i,x) :: T') = (get T i = x ∧ ltT n x = true ∧ TLe n T T') := _root_.id rfl
theorem zcW : HLe H [] = True := by cases H <;> rfl
theorem z95 {o o' : AObj} : HLe (o :: H) (o' :: H') = ((o' = o ∨ o'.k = 0) ∧ HLe H H') := _root_.id rfl
theorem zjH {T T' : Tm} (h1 : HLe H H') (h2 : H'.all (ltO H'.length) = true) (h3 : TLe H'.length T T') : Le ⟨H,T⟩ ⟨H',T'⟩ := ⟨h1,h2,h3⟩
end
end
end Go.Proofs.YtaplemeamcgpkaaDoor

namespace Go.Proofs.YtaplemeamcgpkaaDoor
open Go.RowKit
def Gr (w w' : World) : Prop := Below w.heap.size w w'
theorem Gr.refl (w : World) : Gr w w := Below.refl _ _
theorem Gr.trans {a b c : World} (h : Gr a b) (k : Gr b c) : Gr a c := Below.trans h (k.mono h.size)
theorem Gr.drew (w : World) : Gr w w.drew := (Below.refl _ _).drew
theorem Gr.alloc (w : World) (o : Obj) : Gr w (w.alloc o) := (Below.refl _ _).alloc (Nat.le_refl _) o
section
variable {P : Program} {ops : Array Oper}
def zkA (ops : Array Oper) (o : Oper) : List (Nat × Nat) :=
 o.after.toList.filterMap fun e=>if Region.binds .any e then ((ops[e.on]?).bind (·.dst)).map (fun d=>(e.on,d)) else none
def zpa (ops : Array Oper) (j d : Nat) : Bool :=
 (List.range ops.size).all fun k=>k == j || ((ops[k]?).map fun ok=>ok.dst != some d || ok.after.any fun e=>Region.binds .any e && e.on == j).getD true
theorem Oper.wp_mono2 {o : Oper} {a : Act} {w : World} {K K' : Act → World → Prop} {Q Q' : Exit → Act → World → Prop} (h : ∀ a w,K a w → K' a w) (hQ : ∀ e a w,e ≠ .normal → Q e a w → Q' e a w)
  (hh : o.wp P a w K Q) : o.wp P a w K' Q' := by
 unfold Oper.wp at *
 generalize (execOp a.eval o).run P w = r at *
 cases r with
 |ok n w' =>
  cases n <;> simp only [Oper.upon] at hh ⊢ <;>
   first
    |exact h _ _ hh
    |exact Calls.mono hh (fun e w'' he=>by cases e <;> first|exact h _ _ he|exact hQ _ _ _ (by simp) he|exact he.imp fun _ ⟨_,g⟩=>⟨_,hQ _ _ _ (by simp) g⟩)
    |exact Rows.mono hh (fun _ _ he=>h _ _ he)
 |halt x w'=>cases x <;> simp only [Oper.upon] at hh ⊢ <;> first|exact hQ _ _ _ (by simp) hh|exact hh
structure SlotInv (ops : Array Oper) (Φ : Nat → Value → World → Prop) (a0 : Act) (w0 : World) (listed : Array Bool) (a : Act) (w : World) : Prop where
 len : listed.size = ops.size
 gr : Gr w0 w
 defers : a.defers = a0.defers
 size : a.tmps.size = a0.tmps.size
 done : ∀ k ok d,ops[k]? = some ok → ok.dst = some d → listed.getD k false = true → Φ k (a.tmps.getD d undef) w
 kept : ∀ d,(∀ k ok,ops[k]? = some ok → ok.dst = some d → listed.getD k false = false) → a.tmps.getD d undef = a0.tmps.getD d undef
 closed : ∀ k ok,ops[k]? = some ok → listed.getD k false = true → ∀ e ∈ ok.after,Region.binds .any e = true → listed.getD e.on false = true
theorem za4 (a : Act) (d : Nat) (v : Value) (h : d < a.tmps.size) : (a.put (some d) v).tmps.getD d undef = v := by
 simp [Act.put,Array.getD,h]
theorem z3U (a : Act) (d d' : Nat) (v : Value) (h : d' ≠ d) : (a.put (some d) v).tmps.getD d' undef = a.tmps.getD d' undef := by
 simp only [Act.put,Array.getD_eq_getD_getElem?,Array.getElem?_setIfInBounds]
 rw [if_neg (fun e=>h e.symm)]
theorem z55 {listed : Array Bool} {i : Nat} (hi : i < listed.size) (h : listed.getD i true = false) : listed.getD i false = false := by
 simp only [Array.getD_eq_getD_getElem?,Array.getElem?_eq_getElem hi,Option.getD_some] at h ⊢;exact h
theorem z4r {listed : Array Bool} {i : Nat} (hi : i < listed.size) : (listed.setIfInBounds i true).getD i false = true := by
 simp [Array.getD_eq_getD_getElem?,hi]
theorem zhi {p q : Nat → Bool} {j : Nat} : ∀ {l : List Nat},j ∈ l → p j = true → q j = false → (∀ x,q x = true → p x = true) → (l.filter q).length < (l.filter p).length
 |[],h,_,_,_=>by cases h
 |x :: r,hj,hp,hq,hle=>by
  have hmono : (r.filter q).length ≤ (r.filter p).length := by
   clear hj
   induction r with
   |nil=>simp
   |cons y r ih =>
    simp only [List.filter_cons]
    cases hqy : q y <;> cases hpy : p y <;> simp
    ·exact ih
    ·omega
    ·rw [hle y hqy] at hpy;cases hpy
    ·exact ih
  simp only [List.filter_cons]
  rcases List.mem_cons.1 hj with rfl|hj
  ·rw [hp,hq];simp;omega
  ·have ih := zhi hj hp hq hle
   cases hqx : q x <;> cases hpx : p x <;> simp
   ·exact ih
   ·omega
   ·rw [hle x hqx] at hpx;cases hpx
   ·exact ih
def OpSees (ops : Array Oper) (Φ : Nat → Value → World → Prop) (a0 : Act) (w0 : World) (j : Nat) (o : Oper) (a : Act) (w : World) : Prop :=
 Gr w0 w ∧ a.defers = a0.defers ∧ a.tmps.size = a0.tmps.size ∧ (∀ p ∈ zkA ops o,Φ p.1 (a.tmps.getD p.2 undef) w) ∧ (∀ d,zpa ops j d = true → a.tmps.getD d undef = a0.tmps.getD d undef)
variable {Φ : Nat → Value → World → Prop} {a0 a : Act} {w0 w : World} {j : Nat} {o : Oper} {Ψ : Value → World → Prop}
theorem OpSees.free (h : OpSees ops Φ a0 w0 j o a w) (d : Nat) (hd : zpa ops j d = true) : a.eval (.tmp d) = a0.tmps.getD d undef := h.2.2.2.2 d hd
theorem OpSees.gr (h : OpSees ops Φ a0 w0 j o a w) : Gr w0 w := h.1
end
section
variable {P : Program}
end
structure Row where
 preds : List (Nat × Nat)
 frees : List Nat
 guard : Option (Nat × Nat × Bool)
section
variable {P : Program} {Φ : Nat → Value → World → Prop}
end
end Go.Proofs.YtaplemeamcgpkaaDoor

namespace Go.Proofs.YtaplemeamcgpkaaDoor
open Go.RowKit
section
variable {P : Program} {G : Gl} {N : FS} {n : Nat} {s s' : ASt} {H H' : List AObj} {T : Tm}
def zsW (P : Program) (G : Gl) (f : FuncId) (args : List AV) (K : AV → Prop) : Prop := ∃ X,ACp P G f args X ∧ args.all (ltT 0) = true ∧ K X
def z0T (P : Program) (G : Gl) (o : Oper) (s : ASt) (K : AV → Prop) : Prop :=
 match o.op with
 |.call { callee := .value (.func f),args := args,argTypes := _ }=>zsW P G f ((args.toList.map (ev G s.T)).map (ro s.H)) K
 |_=>loud o.op = false ∧ z08 P G o s fun d H'=>H' = s.H ∧ K d
theorem zpi {l : List AV} {i : Nat} {K : AV → Prop} (h : nth l i K) : ∃ d,nth l i (· = d) ∧ K d := by obtain ⟨d,h1,h2⟩ := h;exact ⟨d,⟨d,h1,rfl⟩,h2⟩
theorem z5l {k : Nat} {l : List AV} {i : Nat} {K : AV → Prop} (h : z0Y k l i K) : ∃ d,z0Y k l i (· = d) ∧ K d := by
 unfold z0Y at h ⊢
 by_cases h1 : k = 1
 ·simp only [if_pos h1] at h ⊢;exact zpi h
 ·simp only [if_neg h1] at h ⊢;exact ⟨_,⟨h.1,h.2.1,rfl⟩,h.2.2⟩
theorem z1I {k : Nat} {l : List AV} {i : Nat} {K K' : AV → Prop} (h : z0Y k l i K) (q : ∀ d,K d → K' d) : z0Y k l i K' := by
 unfold z0Y at h ⊢
 by_cases h1 : k = 1
 ·simp only [if_pos h1] at h ⊢;obtain ⟨d,h2,h3⟩ := h;exact ⟨d,h2,q d h3⟩
 ·simp only [if_neg h1] at h ⊢;exact ⟨h.1,h.2.1,q _ h.2.2⟩
theorem z9j {x : AV} {K : List AV → Prop} (h : z1d H x K) : ∃ es,z1d H x (· = es) ∧ K es := by
 unfold z1d at h ⊢
 split at h
 ·exact ⟨_,rfl,h⟩
 ·obtain ⟨o,h1,h2,h3,h4⟩ := h;exact ⟨_,⟨o,h1,h2,h3,rfl⟩,h4⟩
 ·exact ⟨_,rfl,h⟩
 ·exact ⟨_,rfl,h⟩
 ·exact h.elim
theorem z16 {x : AV} {K K' : List AV → Prop} (h : z1d H x K) (q : ∀ d,K d → K' d) : z1d H x K' := by
 unfold z1d at h ⊢
 split at h
 ·exact q _ h
 ·obtain ⟨o,h1,h2,h3,h4⟩ := h;exact ⟨o,h1,h2,h3,q _ h4⟩
 ·exact q _ h
 ·exact q _ h
 ·exact h.elim
theorem zhV {x : Option AV} {d : Int} {K : Int → Prop} (h : asI x d K) : ∃ i,asI x d (· = i) ∧ K i := by
 unfold asI at h ⊢
 split at h
 ·exact ⟨_,rfl,h⟩
 ·exact ⟨_,rfl,h⟩
 ·exact h.elim
theorem z3y {x : Option AV} {d : Int} {K K' : Int → Prop} (h : asI x d K) (q : ∀ d,K d → K' d) : asI x d K' := by
 unfold asI at h ⊢
 split at h
 ·exact q _ h
 ·exact q _ h
 ·exact h.elim
theorem zqU {op : BinOp} {k k' : IntKind} {a b : Int} {K : AV → Prop} (h : zEw op k a k' b K) : ∃ d,zEw op k a k' b (· = d) ∧ K d := by
 cases op <;> simp only [zEw] at h ⊢ <;> first|exact ⟨_,⟨h.1,h.2.1,rfl⟩,h.2.2⟩|exact ⟨_,⟨h.1,rfl⟩,h.2⟩
theorem zru {op : BinOp} {a b : ByteArray} {K : AV → Prop} (h : zFF op a b K) : ∃ d,zFF op a b (· = d) ∧ K d := by
 cases op <;> simp only [zFF] at h ⊢ <;> first|exact h.elim|exact ⟨_,⟨h.1,rfl⟩,h.2⟩|exact ⟨_,rfl,h⟩
theorem zsI {t : TypeId} {op : BinOp} {x y : AV} {K : AV → Prop} (h : zF5 P t op x y K) : ∃ d,zF5 P t op x y (· = d) ∧ K d := by
 unfold zF5 at h ⊢
 split at h
 ·obtain ⟨us,vs,b,h1,h2,h3,h4⟩ := h
  exact ⟨_,⟨us,vs,b,h1,h2,h3,rfl⟩,h4⟩
 ·exact zqU h
 ·exact zru h
 ·obtain ⟨hu,h⟩ := h
  cases op <;> simp only at h ⊢ <;> first|exact h.elim|exact ⟨_,⟨hu,rfl⟩,h⟩
 ·obtain ⟨hu,h⟩ := h
  cases op <;> simp only at h ⊢ <;> first|exact h.elim|exact ⟨_,⟨hu,rfl⟩,h⟩
 ·obtain ⟨hu,h⟩ := h
  cases op <;> simp only at h ⊢ <;> first|exact h.elim|exact ⟨_,⟨hu,rfl⟩,h⟩
 ·obtain ⟨hu,h⟩ := h
  cases op <;> simp only at h ⊢ <;> first|exact h.elim|exact ⟨_,⟨hu,rfl⟩,h⟩
 ·exact h.elim
theorem zvI {op : UnOp} {x : AV} {K : AV → Prop} (h : aUn op x K) : ∃ d,aUn op x (· = d) ∧ K d := by
 unfold aUn at h ⊢
 split at h <;> first|exact h.elim|exact ⟨_,rfl,h⟩
theorem zob {x y z : AV} {K : AV → Prop} (h : zdk x y z K) : ∃ d,zdk x y z (· = d) ∧ K d := by
 unfold zdk at h ⊢
 split at h <;> first|exact h.elim|exact ⟨_,rfl,h⟩
theorem zgX {x : AV} {i : Nat} {K : AV → Prop} (h : z1Z x i K) : ∃ d,z1Z x i (· = d) ∧ K d := by
 unfold z1Z at h ⊢
 split at h
 ·exact zpi h
 ·exact h.elim
theorem zk2 {ob : AObj} {K : List AV → Prop} (h : z7M ob K) : ∃ l,(∀ K' : List AV → Prop,K' l → z7M ob K') ∧ K l := by
 unfold z7M at h
 split at h
 ·rename_i e;exact ⟨_,fun K' q=>(by unfold z7M;rw [e];exact q),h⟩
 ·rename_i e;exact ⟨_,fun K' q=>(by unfold z7M;rw [e];exact ⟨h.1,q⟩),h.2⟩
 ·exact h.elim
theorem z5z {k : Nat} {x : AV} {K : AV → Prop} (h : z67 k H x K) : ∃ d,z67 k H x (· = d) ∧ K d := by
 unfold z67 at h ⊢
 split at h
 ·exact ⟨_,⟨h.1,rfl⟩,h.2⟩
 ·exact ⟨_,⟨h.1,rfl⟩,h.2⟩
 ·obtain ⟨ob,h1,h2⟩ := h
  obtain ⟨l,h3,h4⟩ := zk2 h2
  obtain ⟨d,h5,h6⟩ := z5l h4
  exact ⟨d,⟨ob,h1,h3 _ h5⟩,h6⟩
 ·exact h.elim
theorem zl1 {f : Option (Nat × Nat)} {x : AV} {K : AV → Prop} (h : z6u f x K) : ∃ d,z6u f x (· = d) ∧ K d := by
 unfold z6u at h ⊢
 split at h
 ·split at h
  ·obtain ⟨d,h4,h5⟩ := z5l h
   exact ⟨_,z1I h4 fun d e=>by rw [e],h5⟩
  ·exact ⟨_,rfl,h⟩
  ·exact h.elim
 ·exact h.elim
theorem zj2 {f : Option (Nat × Nat)} {x : AV} {K : AV → Prop} (h : z3D f x K) : ∃ d,z3D f x (· = d) ∧ K d := by
 unfold z3D at h ⊢
 split at h
 ·split at h
  ·exact z5l h
  ·exact h.elim
 ·exact h.elim
theorem zjz {ek : Nat} {x y : AV} {K : AV → Prop} (h : z3E ek H x y K) : ∃ d,z3E ek H x y (· = d) ∧ K d := by
 unfold z3E at h ⊢
 split at h
 ·obtain ⟨h0,h1⟩ := h
  split at h1
  ·obtain ⟨a1,ob,a2,a3,a4,a5,a6⟩ := h1
   exact ⟨_,⟨h0,a1,ob,a2,a3,a4,a5,rfl⟩,a6⟩
  ·rename_i hne
   obtain ⟨es,h2,d,h3,h4,h5⟩ := z9j h1
   exact ⟨_,⟨h0,z16 h2 fun es' e=>by subst e;exact ⟨d,h3,h4,rfl⟩⟩,h5⟩
 ·exact h.elim
theorem zjg {t : TypeId} {x y : AV} {K : AV → Prop} (h : z3c P t H x y K) : ∃ d,z3c P t H x y (· = d) ∧ K d := by
 unfold z3c at h ⊢
 split at h
 ·exact zjz h
 ·split at h
  ·split at h
   ·obtain ⟨h0,h1,h2⟩ := h
    split at h2
    ·obtain ⟨d,h4,h5⟩ := z5l h2
     exact ⟨_,⟨h0,h1,z1I h4 fun d e=>by rw [e]⟩,h5⟩
    ·exact ⟨_,⟨h0,h1,rfl⟩,h2⟩
    ·exact h2.elim
   ·exact h.elim
  ·exact h.elim
theorem zj7 {t : TypeId} {x y : AV} {K : AV → Prop} (h : z39 P t x y K) : ∃ d,z39 P t x y (· = d) ∧ K d := by
 unfold z39 at h ⊢
 split at h
 ·split at h
  ·exact ⟨_,⟨h.1,h.2.1,h.2.2.1,rfl⟩,h.2.2.2⟩
  ·split at h
   ·obtain ⟨h0,h1,h2⟩ := h
    obtain ⟨d,h4,h5⟩ := z5l h2
    exact ⟨_,⟨h0,h1,h4⟩,h5⟩
   ·exact h.elim
  ·exact h.elim
 ·exact h.elim
theorem zkK {t : TypeId} {x : AV} {lo hi : Option AV} {K : AV → Prop} (h : z4X P t H x lo hi K) : ∃ d,z4X P t H x lo hi (· = d) ∧ K d := by
 unfold z4X at h ⊢
 split at h
 ·obtain ⟨hu,h⟩ := h
  obtain ⟨l,h1,h⟩ := zhV h
  obtain ⟨k,h2,c0,c1,c2,h⟩ := zhV h
  exact ⟨_,⟨hu,z3y h1 fun l' e=>by subst e;exact z3y h2 fun k' e=>by subst e;exact ⟨c0,c1,c2,rfl⟩⟩,h⟩
 ·split at h
  ·obtain ⟨es,h0,hall,h⟩ := z9j h
   obtain ⟨l,h1,h⟩ := zhV h
   obtain ⟨k,h2,c0,c1,c2,h⟩ := zhV h
   exact ⟨_,z16 h0 fun es' e=>by subst e;exact ⟨hall,z3y h1 fun l' e=>by subst e;exact z3y h2 fun k' e=>by subst e;exact ⟨c0,c1,c2,rfl⟩⟩,h⟩
  ·exact h.elim
theorem zsM {t : TypeId} {x : AV} {K : AV → Prop} (h : zCJ P t H x K) : ∃ d,zCJ P t H x (· = d) ∧ K d := by
 unfold zCJ at h ⊢
 split at h
 ·exact ⟨_,⟨h.1,rfl⟩,h.2⟩
 ·exact ⟨_,⟨h.1,rfl⟩,h.2⟩
 ·exact ⟨_,⟨h.1,rfl⟩,h.2⟩
 ·obtain ⟨es,h1,h2⟩ := z9j h.2
  exact ⟨_,⟨h.1,z16 h1 fun es' e=>by subst e;rfl⟩,h2⟩
theorem zqQ {x : AV} {K : AV → Prop} (h : zEm x K) : ∃ d,zEm x (· = d) ∧ K d := by
 unfold zEm at h ⊢
 split at h <;> first|exact h.elim|exact ⟨_,rfl,h⟩
theorem zok {t t' : TypeId} {x : AV} {K : AV → Prop} (h : zec P t t' x K) : ∃ d,zec P t t' x (· = d) ∧ K d := by
 unfold zec at h ⊢
 split at h
 ·obtain ⟨h1,h⟩ := h
  split at h
  ·exact ⟨_,⟨h1,rfl⟩,h⟩
  ·exact h.elim
 ·rcases h with h|h
  ·exact ⟨_, .inl ⟨h.1,h.2.1,rfl⟩,h.2.2⟩
  ·exact ⟨_, .inr ⟨h.1,h.2.1,h.2.2.1,rfl⟩,h.2.2.2⟩
 ·obtain ⟨h1,h2,h⟩ := h
  split at h
  ·exact ⟨_,⟨h1,h2,rfl⟩,h⟩
  ·exact h.elim
 ·exact h.elim
theorem zkd {t : TypeId} {ps : List (Nat × AV)} {K : AV → Prop} (h : z7o P t ps K) : ∃ d,z7o P t ps (· = d) ∧ K d := by
 unfold z7o at h ⊢
 split at h
 ·split at h
  ·exact ⟨_,rfl,h⟩
  ·exact h.elim
 ·exact h.elim
theorem zja {t : TypeId} {m : Nat} {ps : List (Nat × AV)} {K : AV → Prop} (h : z3F P t m ps K) : ∃ d,z3F P t m ps (· = d) ∧ K d := by
 unfold z3F at h ⊢
 split at h
 ·exact ⟨_,⟨h.1,h.2.1,h.2.2.1,h.2.2.2.1,rfl⟩,h.2.2.2.2⟩
 ·exact h.elim
theorem zkR {o : Oper} (hq : loud o.op = false) {K : AV → Prop} (h : z08 P G o s fun d H'=>H' = s.H ∧ K d) : ∃ d,z08 P G o s (fun x H'=>H' = s.H ∧ x = d) ∧ K d := by
 unfold z08 at h ⊢
 split at h
 ·exact ⟨_,⟨rfl,rfl⟩,h.2⟩
 ·exact ⟨_,⟨rfl,rfl⟩,h.2⟩
 ·obtain ⟨d,h1,_,h2⟩ := zob h;exact ⟨d,by simpa using h1,h2⟩
 ·obtain ⟨d,h1,_,h2⟩ := zsI h;exact ⟨d,by simpa using h1,h2⟩
 ·obtain ⟨d,h1,_,h2⟩ := zvI h;exact ⟨d,by simpa using h1,h2⟩
 ·rename_i ho;rw [ho] at hq;cases hq
 ·rename_i ho;rw [ho] at hq;cases hq
 ·obtain ⟨d,h1,_,h2⟩ := zkd h;exact ⟨d,by simpa using h1,h2⟩
 ·obtain ⟨d,h1,_,h2⟩ := zja h;exact ⟨d,by simpa using h1,h2⟩
 ·obtain ⟨d,h1,_,h2⟩ := z5z h;exact ⟨d,by simpa using h1,h2⟩
 ·rename_i ho;rw [ho] at hq;cases hq
 ·obtain ⟨d,h1,_,h2⟩ := zqQ h;exact ⟨d,by simpa using h1,h2⟩
 ·obtain ⟨d,h1,_,h2⟩ := zok h;exact ⟨d,by simpa using h1,h2⟩
 ·obtain ⟨d,h1,_,h2⟩ := zgX h;exact ⟨d,by simpa using h1,h2⟩
 ·obtain ⟨d,h1,_,h2⟩ := zl1 h;exact ⟨d,by simpa using h1,h2⟩
 ·obtain ⟨d,h1,_,h2⟩ := zj2 h;exact ⟨d,by simpa using h1,h2⟩
 ·obtain ⟨d,h1,_,h2⟩ := zjg h;exact ⟨d,by simpa using h1,h2⟩
 ·obtain ⟨d,h1,_,h2⟩ := zj7 h;exact ⟨d,by simpa using h1,h2⟩
 ·obtain ⟨d,h1,_,h2⟩ := zkK h;exact ⟨d,by simpa using h1,h2⟩
 ·rename_i ho;rw [ho] at hq;cases hq
 ·rename_i ho;rw [ho] at hq;cases hq
 ·rename_i ho;rw [ho] at hq;cases hq
 ·obtain ⟨d,h1,_,h2⟩ := zsM h;exact ⟨d,by simpa using h1,h2⟩
 ·rename_i ho;rw [ho] at hq;cases hq
 ·rename_i ho;rw [ho] at hq;cases hq
 ·rename_i ho;rw [ho] at hq;cases hq
 ·obtain ⟨d,h1,_,h2⟩ := h;exact ⟨d,⟨d,h1,rfl,rfl⟩,h2⟩
 ·rename_i ho;rw [ho] at hq;cases hq
 ·rename_i ho;rw [ho] at hq;cases hq
 ·exact h.elim
theorem z8m {o : Oper} {K : AV → Prop} (h : z0T P G o s K) : ∃ d,z0T P G o s (· = d) ∧ K d := by
 unfold z0T at h ⊢
 split at h
 ·obtain ⟨X,h1,h2,h3⟩ := h;exact ⟨X,⟨X,h1,h2,rfl⟩,h3⟩
 ·obtain ⟨hq,h⟩ := h
  obtain ⟨d,h1,h2⟩ := zkR hq h
  exact ⟨d,⟨hq,h1⟩,h2⟩
def zji (o : Oper) : List Nat := (o.op.operands.toList.filterMap fun x=>match x with|.tmp t=>some t|_=>none)
def zfs (T T' : Tm) (o : Oper) : Prop := ∀ t ∈ zji o,get T t = get T' t
theorem zdb {T T' : Tm} {o : Oper} (h : zfs T T' o) {x : Operand} (hx : x ∈ o.op.operands.toList) : ev G T x = ev G T' x := by
 cases x with
 |tmp t=>exact h t (List.mem_filterMap.2 ⟨.tmp t,hx,rfl⟩)
 |const v=>rfl
 |global g=>rfl
 |func f=>rfl
theorem z9f {H : List AObj} {T T' : Tm} {o : Oper} (h : zfs T T' o) {K : AV → Prop} (hs : z0T P G o ⟨H,T⟩ K) : z0T P G o ⟨H,T'⟩ K := by
 obtain ⟨dst,op,ty,pos,af,gd⟩ := o
 have e : ∀ x,x ∈ op.operands.toList → ev G T x = ev G T' x := fun x hx=>zdb h hx
 cases op with
 |move x=>simpa [z0T,z08,loud,e x (by simp [Op.operands])] using hs
 |assign x=>simpa [z0T,z08,loud,e x (by simp [Op.operands])] using hs
 |pick x y z=>simpa [z0T,z08,loud,e x (by simp [Op.operands]),e y (by simp [Op.operands]),e z (by simp [Op.operands])] using hs
 |binOp b t x y t'=>simpa [z0T,z08,loud,e x (by simp [Op.operands]),e y (by simp [Op.operands])] using hs
 |unOp b t x=>simpa [z0T,z08,loud,e x (by simp [Op.operands])] using hs
 |alloc t=>simp [z0T,loud] at hs
 |box t x=>simp [z0T,loud] at hs
 |store t x y=>simp [z0T,loud] at hs
 |build t ps =>
  have : (ps.toList.map fun p=>(p.1,ev G T p.2)) = ps.toList.map fun p=>(p.1,ev G T' p.2) := List.map_congr_left fun p hp=>by
   rw [e p.2 (by simp only [Op.operands,List.mem_map];exact ⟨p,hp,rfl⟩)]
  simpa [z0T,z08,loud,this] using hs
 |buildSlice t m ps =>
  have : (ps.toList.map fun p=>(p.1,ev G T p.2)) = ps.toList.map fun p=>(p.1,ev G T' p.2) := List.map_congr_left fun p hp=>by
   rw [e p.2 (by simp only [Op.operands,List.mem_map];exact ⟨p,hp,rfl⟩)]
  simpa [z0T,z08,loud,this] using hs
 |load t x=>simpa [z0T,z08,loud,e x (by simp [Op.operands])] using hs
 |nilCheck x=>simpa [z0T,z08,loud,e x (by simp [Op.operands])] using hs
 |lookup t x y ok=>simpa [z0T,z08,loud,e x (by simp [Op.operands]),e y (by simp [Op.operands])] using hs
 |convert a b x=>simpa [z0T,z08,loud,e x (by simp [Op.operands])] using hs
 |extract x i=>simpa [z0T,z08,loud,e x (by simp [Op.operands])] using hs
 |fieldAddr t x i=>simpa [z0T,z08,loud,e x (by simp [Op.operands])] using hs
 |field t x i=>simpa [z0T,z08,loud,e x (by simp [Op.operands])] using hs
 |indexAddr t x y=>simpa [z0T,z08,loud,e x (by simp [Op.operands]),e y (by simp [Op.operands])] using hs
 |index t x y=>simpa [z0T,z08,loud,e x (by simp [Op.operands]),e y (by simp [Op.operands])] using hs
 |slice t x lo hi mx =>
  have e1 : lo.map (ev G T) = lo.map (ev G T') := by cases lo with|none=>rfl|some y=>simp [e y (by simp [Op.operands])]
  have e2 : hi.map (ev G T) = hi.map (ev G T') := by cases hi with|none=>rfl|some y=>simp [e y (by simp [Op.operands])]
  cases mx with
  |none=>simpa [z0T,z08,loud,e x (by simp [Op.operands]),e1,e2] using hs
  |some y=>simp [z0T,z08,loud] at hs
 |call c =>
  obtain ⟨callee,args,ts⟩ := c
  cases callee with
  |value x =>
   cases x with
   |func f =>
    have : args.toList.map (ev G T) = args.toList.map (ev G T') := List.map_congr_left fun x hx=>e x (by simp [Op.operands,Call.operands];exact .inr (by simpa using hx))
    simpa [z0T,this] using hs
   |tmp t=>simp [z0T,loud] at hs
   |const v=>simp [z0T,loud] at hs
   |global g=>simp [z0T,loud] at hs
  |invoke r m=>simp [z0T,loud] at hs
  |builtin b =>
   by_cases hb : b = .len
   ·subst hb
    obtain ⟨al⟩ := args
    obtain ⟨tl⟩ := ts
    rcases al with _|⟨x,_|⟨y,r⟩⟩
    ·simp [z0T,z08,loud] at hs
    ·rcases tl with _|⟨t,_|⟨t',r'⟩⟩
     ·simp [z0T,z08,loud] at hs
     ·simpa [z0T,z08,loud,e x (by simp [Op.operands,Call.operands])] using hs
     ·simp [z0T,z08,loud] at hs
    ·simp [z0T,z08,loud] at hs
   ·exfalso
    obtain ⟨hq,_⟩ := (show loud (.call ⟨.builtin b,args,ts⟩) = false ∧ _ from by simpa [z0T] using hs)
    cases b <;> first|exact hb rfl|cases hq
 |_=>simp [z0T,z08,loud] at hs
end
end Go.Proofs.YtaplemeamcgpkaaDoor

namespace Go.Proofs.YtaplemeamcgpkaaDoor
open Go.RowKit
section
variable {P : Program} {G : Gl} {N : FS} {n : Nat} {s : ASt} {H : List AObj} {T : Tm} {w w0 w' : World} {S S0 S1 S2 : SS} {μ : List Value}
structure Good (w0 : World) (S0 : SS) (μ : List Value) (H : List AObj) (w : World) (S : SS) : Prop where
 rel : Rel w S μ H
 step : Step H.length w0 S0 μ H w S μ H
theorem Good.gr (h : Good w0 S0 μ H w S) (hg : Gr w w') : Good w0 S0 μ H w' S := by
 obtain ⟨r,st⟩ := h.rel.grow hg (fun _ _ _ q=>q) (fun _ _ _ q=>.inl q) (fun b j d q hb=>by have := h.rel.still_lt q;omega)
 exact ⟨r,h.step.trans st⟩
theorem Good.ext (h : Good w0 S0 μ H w S) : Ext S0 μ S μ := ⟨h.step.still,fun i x hx=>⟨x,hx, .inl rfl⟩⟩
def Reads (w0 : World) (S0 : SS) (μ : List Value) (H : List AObj) (d : AV) (v : Value) (w : World) : Prop := ∃ S,Good w0 S0 μ H w S ∧ rep S μ d v
theorem Reads.gr {d : AV} {v : Value} (h : Reads w0 S0 μ H d v w) (hg : Gr w w') : Reads w0 S0 μ H d v w' := by obtain ⟨S,h1,h2⟩ := h;exact ⟨S,h1.gr hg,h2⟩
def zDt : Tm → List Oper → List AV → Tm
 |T,o :: l,v :: vs=>zDt (ASt.set ⟨[],T⟩ [] o.dst v).T l vs
 |T,_,_=>T
def z8c (P : Program) (G : Gl) (ops : List Oper) (H : List AObj) (T : Tm) (o : Oper) (v : AV) : Prop :=
 match o.guard with
 |none=>z0T P G o ⟨H,T⟩ (· = v)
 |some (j,want)=>∃ t,z1N ops j = some t ∧ ((∃ b,get T t = V (.bool b) ∧ (b = want → z0T P G o ⟨H,T⟩ (· = v)) ∧ (b ≠ want → v = UD)) ∨ ((∃ q,get T t = .iface q (.agg [])) ∧ v = UD))
theorem zgw (T : Tm) (i : Nat) (v : AV) : get (ASt.set ⟨[],T⟩ [] (some i) v).T i = v := z6K T i v
theorem zeB (T : Tm) (d : Option Tmp) (k : Nat) (v : AV) (h : d ≠ some k) : get (ASt.set ⟨[],T⟩ [] d v).T k = get T k := by
 cases d with
 |none=>rfl
 |some i=>exact z3Q T i k v (fun e=>h (by rw [e]))
theorem z1s : ∀ (l : List Oper) (vs : List AV) (T : Tm) (t : Nat),(∀ o ∈ l,o.dst ≠ some t) → get (zDt T l vs) t = get T t
 |[],vs,T,t,_=>by cases vs <;> rfl
 |o :: l,[],T,t,_=>rfl
 |o :: l,v :: vs,T,t,h=>by
  simp only [zDt]
  rw [z1s l vs _ t fun o' ho'=>h o' (List.mem_cons_of_mem _ ho')]
  exact zeB T o.dst t v (h o (List.mem_cons_self ..))
theorem z2N : ∀ (l : List Oper) (vs : List AV) (T : Tm) (t k : Nat) (o : Oper) (v : AV),l[k]? = some o → vs[k]? = some v → o.dst = some t → (∀ m o',l[m]? = some o' → o'.dst = some t → m = k) → get (zDt T l vs) t = v
 |[],vs,T,t,k,o,v,ho,_,_,_=>by simp at ho
 |_ :: _,[],T,t,k,o,v,_,hv,_,_=>by simp at hv
 |o1 :: l,v1 :: vs,T,t,k,o,v,ho,hv,hd,hu=>by
  simp only [zDt]
  rcases k with _|k
  ·simp at ho hv;subst ho hv
   rw [z1s l vs _ t fun o' ho' e=>?_,hd]
   ·exact zgw T t v1
   ·obtain ⟨m,hm⟩ := List.getElem?_of_mem ho'
    have := hu (m + 1) o' (by simpa using hm) e
    omega
  ·simp only [List.getElem?_cons_succ] at ho hv
   exact z2N l vs _ t k o v ho hv hd fun m o' hm e=>by have := hu (m + 1) o' (by simpa using hm) e;omega
end
end Go.Proofs.YtaplemeamcgpkaaDoor

namespace Go.Proofs.YtaplemeamcgpkaaDoor
open Go.RowKit
section
variable {P : Program} {ops : Array Oper}
def z1O (ops : Array Oper) : Bool := (List.range ops.size).all fun k=>((ops[k]?).map fun ok=>ok.after.all fun e=>!Region.binds .any e || decide (e.on < k)).getD true
theorem z3R (h : z1O ops = true) {k : Nat} {ok : Oper} (hk : ops[k]? = some ok) : ∀ e ∈ ok.after,Region.binds .any e = true → e.on < k := by
 intro e he hb
 have h1 := List.all_eq_true.1 h k (List.mem_range.2 (Array.getElem?_eq_some_iff.1 hk).1)
 rw [hk] at h1
 simp only [Option.map_some,Option.getD_some] at h1
 rw [Array.all_eq_true_iff_forall_mem] at h1
 have := h1 e he
 simpa [hb] using this
def znd (ops : Array Oper) (listed : Array Bool) : Prop := ∀ (k : Nat) (ok : Oper),ops[k]? = some ok → listed.getD k false = true → ∀ e ∈ ok.after,Region.binds .any e = true → listed.getD e.on false = true
def zeU (P : Program) (ops : Array Oper) (o : Oper) (a : Act) (w : World) (J : Act → World → Prop) : Prop := wpList P ops (fun e a' w'=>e = .normal ∧ J a' w') [o] a w
theorem zf0 {o : Oper} {j : Nat} (hj : ops[j]? = some o) {a : Act} {w : World} {J : Act → World → Prop} {K : Act → World → Prop} {Q : Exit → Act → World → Prop}
  (h : zeU P ops o a w J) (hK : ∀ a' w',J a' w' → K a' w') : wpOp P ops Q j K a w := by
 unfold wpOp
 rw [hj]
 unfold zeU wpList at h
 simp only
 split
 ·rename_i hw
  rw [if_pos hw] at h
  rcases h with h|⟨_,_,_,h,_⟩
  ·exact .inl (Oper.wp_mono2 (fun a' w' hh=>hK _ _ hh.2) (fun e a' w' hne hh=>absurd hh.1 hne) h)
  ·cases h
 ·rename_i hw
  rw [if_neg hw] at h
  exact hK _ _ h.2
theorem wpAny_of_inv {J : Array Bool → Act → World → Prop} {Q : Exit → Act → World → Prop} (hsh : z1O       ops = true)
    (hop : ∀ listed a w j o, ops[j]? = some o → listed.size = ops.size → listed.getD j false = false → (∀ e ∈ o.after, Region.binds .any e = true → listed.getD e.on false = true) → znd    ops listed → J listed a w →
      zeU   P ops o a w (J (listed.setIfInBounds j true)))
    (hend : ∀ listed a w, (∀ k, k < ops.size → listed.getD k false = true) → J listed a w → Q .normal a w) :
    ∀ (fuel : Nat) (listed : Array Bool) (a : Act) (w : World), listed.size = ops.size → znd    ops listed → J listed a w → ((List.range ops.size).filter fun i => !listed.getD i false).length ≤ fuel → wpAny P .any ops Q fuel listed a w := by
  have hfin : ∀ (listed : Array Bool) (a : Act) (w : World), listed.size = ops.size → J listed a w → Region.ready .any ops listed = [] → Q .normal a w := by
    intro listed a w hs hI hr
    refine hend listed a w ?_ hI
    have hall : ∀ n k, k < n → k < ops.size → listed.getD k false = true := by
      intro n
      induction n with
      | zero => intro k hk; omega
      | succ n ih =>
        intro k hk hks
        cases hl : listed.getD k false with
        | true => rfl
        | false =>
          exfalso
          have hk' : ops[k]? = some ops[k] := Array.getElem?_eq_getElem hks
          have : k ∈ Region.ready .any ops listed := by
            rw [mem_ready]
            refine ⟨?_, _, hk', fun e he hb => ?_⟩
            · have hkl : k < listed.size := by rw [hs]; exact hks
              simp only [Array.getD_eq_getD_getElem?, Array.getElem?_eq_getElem hkl, Option.getD_some] at hl ⊢; exact hl
            · have he2 := z3R            hsh hk' e he hb
              exact ih e.on (by omega) (by omega)
          rw [hr] at this; cases this
    exact fun k hk => hall (k + 1) k (by omega) hk
  intro fuel
  induction fuel with
  | zero =>
    intro listed a w hs _ hI hlen
    have hr : Region.ready .any ops listed = [] := by
      apply List.eq_nil_iff_forall_not_mem.2
      intro j hj
      obtain ⟨h1, o, ho, _⟩ := mem_ready.1 hj
      have hjl : j < ops.size := (Array.getElem?_eq_some_iff.1 ho).1
      have h0 : (List.range ops.size).filter (fun i => !listed.getD i false) = [] := List.eq_nil_of_length_eq_zero (by omega)
      have : j ∈ (List.range ops.size).filter (fun i => !listed.getD i false) := by
        rw [List.mem_filter]; refine ⟨List.mem_range.2 hjl, ?_⟩
        rw [z55                (by rw [hs]; exact hjl) h1]; rfl
      rw [h0] at this; cases this
    exact ⟨hr, hfin _ _ _ hs hI hr⟩
  | succ fuel ih =>
    intro listed a w hs hcl hI hlen
    refine ⟨hfin _ _ _ hs hI, fun j hj => ?_⟩
    obtain ⟨h1, o, ho, hedges⟩ := mem_ready.1 hj
    have hjl : j < ops.size := (Array.getElem?_eq_some_iff.1 ho).1
    have hjs : j < listed.size := by rw [hs]; exact hjl
    have hjf := z55                hjs h1
    have hset : ∀ k, k ≠ j → (listed.setIfInBounds j true).getD k false = listed.getD k false := fun k hk => getD_set_ne false (fun e => hk e.symm)
    refine zf0           ho (hop listed a w j o ho hs hjf (fun e he hb => hedges e he hb) hcl hI) fun a' w' hJ => ih _ _ _ (by simp [hs]) ?_ hJ ?_
    · intro k ok hk hl e he hb
      have mono : ∀ m, listed.getD m false = true → (listed.setIfInBounds j true).getD m false = true := fun m hm => getD_set_true hm
      by_cases hkj : k = j
      · subst hkj
        rw [ho] at hk; injection hk with hk; subst hk
        exact mono _ (hedges e he hb)
      · rw [hset k hkj] at hl
        exact mono _ (hcl k ok hk hl e he hb)
    · refine Nat.le_of_lt_succ (Nat.lt_of_lt_of_le (zhi       (List.mem_range.2 hjl) (by rw [hjf]; rfl) (by rw [z4r           hjs]; rfl) fun x hx => ?_) hlen)
      by_cases hxj : x = j
      · subst hxj; rw [z4r           hjs] at hx; cases hx
      · rwa [getD_set_ne false (fun e => hxj e.symm)] at hx
theorem wp_region_inv {id : Nat} {a0 : Act} {w0 : World} {Q : Exit → Act → World → Prop} (J : Array Bool → Act → World → Prop) (hm : P.follows .mixedOrders = true) (hsh : z1O       ops = true)
    (hop : ∀ listed a w j o, ops[j]? = some o → listed.size = ops.size → listed.getD j false = false → (∀ e ∈ o.after, Region.binds .any e = true → listed.getD e.on false = true) → znd    ops listed → J listed a w →
      zeU   P ops o a w (J (listed.setIfInBounds j true)))
    (hend : ∀ listed a w, (∀ k, k < ops.size → listed.getD k false = true) → J listed a w → Q .normal a w)
    (h0 : ∀ listed : Array Bool, (∀ k, listed.getD k false = false) → J listed a0 w0.drew) : (Code.region id ops true).wp P Q a0 w0 := by
  refine wp_region_any hm (wpAny_of_inv hsh hop hend _ _ _ _ (by simp) ?_ (h0 _ fun k => ?_) ?_)
  · intro k ok hk hl
    have : k < ops.size := (Array.getElem?_eq_some_iff.1 hk).1
    simp [Array.getD_eq_getD_getElem?, this] at hl
  · rw [Array.getD_eq_getD_getElem?]
    cases h : (Array.replicate ops.size false)[k]? with
    | none => rfl
    | some b => rw [Array.getElem?_replicate] at h; split at h <;> simp_all
  · exact Nat.le_trans (List.length_filter_le _ _) (by simp)
end
def z2K : Op → Bool
 |.move _|.assign _|.pick ..|.binOp ..|.unOp ..|.extract ..|.field ..|.build ..|.fieldAddr ..|.nilCheck _=>true
 |_=>false
def z19 : Op → Bool|.store ..=>true|_=>false
def z1J : Op → Bool|.alloc _=>true|_=>false
section
variable {P : Program} {G : Gl} {N : FS} {n : Nat} {s : ASt} {H H' X : List AObj} {T : Tm}
theorem zdE {o : Oper} (hr : z2K o.op = true) {K : AV → Prop} (h : z0T P G o ⟨H,T⟩ K) : z0T P G o ⟨H',T⟩ K := by
 obtain ⟨dst,op,ty,pos,af,gd⟩ := o
 cases op <;> first|(simp [z2K] at hr;done)|simpa [z0T,z08,loud] using h
theorem zg1 {i : Nat} {K : AObj → Prop} (h : zEG H i K) : zEG (H ++ X) i K := by
 obtain ⟨o,h1,h2⟩ := h
 exact ⟨o,by rw [List.getElem?_append_left (List.getElem?_eq_some_iff.1 h1).1];exact h1,h2⟩
theorem z9s {x : AV} {K : List AV → Prop} (h : z1d H x K) : z1d (H ++ X) x K := by
 unfold z1d at h ⊢
 split at h
 ·exact h
 ·exact zg1 h
 ·exact h
 ·exact h
 ·exact h.elim
theorem zoO {d : AV} (h : lt1 0 (ro1 H d) = true) : ro1 (H ++ X) d = ro1 H d := by
 unfold ro1 at h ⊢
 split at h
 ·rename_i i m
  cases hi : H[i]? with
  |none=>rw [hi] at h;simp [lt1] at h
  |some o=>rw [List.getElem?_append_left (List.getElem?_eq_some_iff.1 hi).1,hi]
 ·rfl
 ·rfl
theorem zoU {d : AV} (h : ltA 0 (roA H d) = true) : roA (H ++ X) d = roA H d := by
 unfold roA at h ⊢
 split at h
 ·rename_i cs
  simp only [ltA,List.all_eq_true,List.mem_map] at h
  simp only [DataW.agg.injEq]
  exact List.map_congr_left fun x hx=>zoO (h _ ⟨x,hx,rfl⟩)
 ·rename_i hne
  refine zoO ?_
  unfold ltA at h
  split at h
  ·rename_i cs hcs;exact absurd hcs (zhD hne cs)
  ·exact h
theorem zuI {d : AV} (h : ltT 0 (ro H d) = true) : ro (H ++ X) d = ro H d := by
 unfold ro at h ⊢
 split at h
 ·rename_i ss ds
  simp only [ltT,List.all_eq_true,List.mem_map] at h
  simp only [DataW.iface.injEq,DataW.agg.injEq,true_and]
  exact List.map_congr_left fun x hx=>zoU (h _ ⟨x,hx,rfl⟩)
 ·rename_i hne
  refine zoU ?_
  unfold ltT at h
  split at h
  ·rename_i ss ds hcs
   exfalso
   unfold roA at hcs
   split at hcs
   ·cases hcs
   ·exact hne _ _ (zov hcs)
  ·exact h
theorem zdD {o : Oper} {K : AV → Prop} (h : z0T P G o ⟨H,T⟩ K) : z0T P G o ⟨H ++ X,T⟩ K := by
 obtain ⟨dst,op,ty,pos,af,gd⟩ := o
 by_cases hr : z2K op = true
 ·exact zdE hr h
 cases op with
 |load t x =>
  simp only [z0T,z08,loud,true_and] at h ⊢
  unfold z67 at h ⊢
  split at h
  ·exact h
  ·exact h
  ·exact zg1 h
  ·exact h
 |indexAddr t x y =>
  simp only [z0T,z08,loud,true_and] at h ⊢
  unfold z3c at h ⊢
  split at h
  ·unfold z3E at h ⊢
   split at h
   ·refine ⟨h.1,?_⟩
    have h2 := h.2
    split at h2
    ·exact ⟨h2.1,zg1 h2.2⟩
    ·exact z9s h2
   ·exact h
  ·exact h
 |slice t x lo hi mx =>
  cases mx with
  |none =>
   simp only [z0T,z08,loud,true_and] at h ⊢
   unfold z4X at h ⊢
   split at h
   ·exact h
   ·split at h
    ·exact z9s h
    ·exact h
  |some y=>simp [z0T,z08,loud] at h
 |call c =>
  obtain ⟨callee,args,ts⟩ := c
  cases callee with
  |value x =>
   cases x with
   |func f =>
    obtain ⟨X',h1,h2,h3⟩ := h
    have e : (args.toList.map (ev G T)).map (ro (H ++ X)) = (args.toList.map (ev G T)).map (ro H) := List.map_congr_left fun d hd=>zuI ((List.all_eq_true.1 h2) _ (List.mem_map.2 ⟨d,hd,rfl⟩))
    exact ⟨X',by show ACp P G f ((args.toList.map (ev G T)).map (ro (H ++ X))) X';rw [e];exact h1,by show ((args.toList.map (ev G T)).map (ro (H ++ X))).all (ltT 0) = true;rw [e];exact h2,h3⟩
   |tmp t=>simp [z0T,loud] at h
   |const v=>simp [z0T,loud] at h
   |global g=>simp [z0T,loud] at h
  |invoke r m=>simp [z0T,loud] at h
  |builtin b =>
   by_cases hb : b = .len
   ·subst hb
    obtain ⟨al⟩ := args
    obtain ⟨tl⟩ := ts
    rcases al with _|⟨x,_|⟨y,r⟩⟩
    ·simp [z0T,z08,loud] at h
    ·rcases tl with _|⟨t,_|⟨t',r'⟩⟩
     ·simp [z0T,z08,loud] at h
     ·simp only [z0T,z08,loud,true_and] at h ⊢
      unfold zCJ at h ⊢
      split at h
      ·exact h
      ·exact h
      ·exact h
      ·exact ⟨h.1,z9s h.2⟩
     ·simp [z0T,z08,loud] at h
    ·simp [z0T,z08,loud] at h
   ·exfalso
    obtain ⟨hq,_⟩ := (show loud (.call ⟨.builtin b,args,ts⟩) = false ∧ _ from by simpa [z0T] using h)
    cases b <;> first|exact hb rfl|cases hq
 |index t x y=>simpa [z0T,z08,loud] using h
 |convert a b x =>
  simp only [z0T,z08,loud,true_and] at h ⊢
  have e : ro (H ++ X) (ev G T x) = ro H (ev G T x) := by
   refine zuI ?_
   unfold zec at h
   split at h
   ·rename_i hx;rw [hx];rfl
   ·rename_i hx;rw [hx];rfl
   ·rename_i hx;rw [hx];rfl
   ·exact h.elim
  show zec P a b (ro (H ++ X) (ev G T x)) _
  rw [e];exact h
 |buildSlice t m ps=>simpa [z0T,z08,loud] using h
 |lookup t x y ok =>
  simp only [z0T,z08,loud,true_and] at h ⊢
  obtain ⟨d,h1,h2⟩ := h
  exact ⟨d,h1.more X,h2⟩
 |_=>first|(exfalso;exact hr rfl)|(simp [z0T,z08,loud] at h;done)
end
end Go.Proofs.YtaplemeamcgpkaaDoor

namespace Go.Proofs.YtaplemeamcgpkaaDoor
open Go.RowKit
section
variable {P : Program} {G : Gl} {N : FS} {n : Nat} {s : ASt} {H H' X : List AObj} {T : Tm}
def z6t (P : Program) (G : Gl) (ops : List Oper) (base : List AObj) (Hj : List AObj) (T : Tm) (o : Oper) (v : AV) (Hk : List AObj) : Prop :=
 match o.op with
 |.alloc t=>o.guard = none ∧ ∃ c,z7r P t = some c ∧ v = OP Hj.length 0 ∧ Hk = Hj ++ [⟨1,t,0,c⟩]
 |.store t x y=>o.guard = none ∧ o.dst = none ∧ z5M (z0z P t) Hj (ev G T x) (ev G T y) (· = Hk)
 |_=>Hk = Hj ∧ ((z8c P G ops Hj T o v ∧ Hj = base) ∨ (o.guard = none ∧ z2K o.op = true ∧ z0T P G o ⟨Hj,T⟩ (· = v)))
theorem zlE {ob : AObj} {k o : Nat} {x : AV} {K : AObj → Prop} (h : zFN ob k o x K) : ∃ ob',zFN ob k o x (· = ob') ∧ K ob' := by
 obtain ⟨h1,h2,h3,h⟩ := h
 unfold zFN
 split at h
 ·rename_i e
  exact ⟨_,⟨h1,h2,h3,by rw [e];exact ⟨h.1,rfl⟩⟩,h.2⟩
 ·rename_i e
  exact ⟨_,⟨h1,h2,h3,by rw [e];exact ⟨h.1,h.2.1,h.2.2.1,h.2.2.2.1,rfl⟩⟩,h.2.2.2.2⟩
 ·exact h.elim
theorem zkM {k : Nat} {x y : AV} {K : List AObj → Prop} (h : z5M k H x y K) : ∃ H',z5M k H x y (· = H') ∧ K H' := by
 unfold z5M at h ⊢
 split at h
 ·obtain ⟨ob,h1,h2⟩ := h
  obtain ⟨ob',h3,h4⟩ := zlE h2
  exact ⟨_,⟨ob,h1,zdy h3 fun l e=>by rw [e]⟩,h4⟩
 ·exact h.elim
def z0n (P : Program) (G : Gl) (ops : List Oper) : Bool → List Oper → ASt → (ASt → Prop) → Prop
 |_,[],s,K=>K s
 |b,o :: r,s,K=>match o.op with
  |.alloc t=>o.guard = none ∧ ∃ c,z7r P t = some c ∧ z0n P G ops true r (s.set (s.H ++ [⟨1,t,0,c⟩]) o.dst (OP s.H.length 0)) K
  |.store t x y=>o.guard = none ∧ o.dst = none ∧ z5M (z0z P t) s.H (ev G s.T x) (ev G s.T y) fun H'=>z0n P G ops true r ⟨H',s.T⟩ K
  |op=>(b = true → o.guard = none ∧ z2K op = true) ∧ (match o.guard with
   |none=>z0T P G o s fun d=>z0n P G ops b r (s.set s.H o.dst d) K
   |some (j,want)=>match z1N ops j with
    |some t=>z3t (get s.T t) want (z0T P G o s fun d=>z0n P G ops b r (s.set s.H o.dst d) K) (z0n P G ops b r (s.set s.H o.dst UD) K)
    |none=>False)
theorem zhk {ops : List Oper} {base : List AObj} {K : ASt → Prop} : ∀ {l : List Oper} {b : Bool} {H : List AObj} {T : Tm},(b = false → H = base) → z0n P G ops b l ⟨H,T⟩ K → ∃ (vs : List AV) (hs : Nat → List AObj),vs.length = l.length ∧ hs 0 = H ∧ K ⟨hs l.length,zDt T l vs⟩ ∧
  ∀ i o v,l[i]? = some o → vs[i]? = some v → z6t P G ops base (hs i) (zDt T (l.take i) (vs.take i)) o v (hs (i + 1))
 |[],b,H,T,_,h=>⟨[],fun _=>H,rfl,rfl,h,fun i o v ho=>by simp at ho⟩
 |o :: l,b,H,T,hb,h=>by
  have key : ∀ v H1 b',(b' = false → H1 = base) → z0n P G ops b' l (ASt.set ⟨H,T⟩ H1 o.dst v) K → z6t P G ops base H T o v H1 → ∃ (vs : List AV) (hs : Nat → List AObj),vs.length = (o :: l).length ∧ hs 0 = H ∧ K ⟨hs (o :: l).length,zDt T (o :: l) vs⟩ ∧
    ∀ i o' v,(o :: l)[i]? = some o' → vs[i]? = some v → z6t P G ops base (hs i) (zDt T ((o :: l).take i) (vs.take i)) o' v (hs (i + 1)) := by
   intro v H1 b' hb' hd hf
   obtain ⟨vs,hs,h1,h2,h3,h4⟩ := zhk (ops := ops) (base := base) (l := l) (H := H1) (T := (ASt.set ⟨[],T⟩ [] o.dst v).T) hb' hd
   refine ⟨v :: vs,fun i=>match i with|0=>H|i + 1=>hs i,by simp [h1],rfl,h3,fun i o' v' ho' hv'=>?_⟩
   rcases i with _|i
   ·simp at ho' hv';subst ho' hv'
    show z6t P G ops base H T o v (hs 0)
    rw [h2];exact hf
   ·simp only [List.getElem?_cons_succ] at ho' hv'
    exact h4 i o' v' ho' hv'
  unfold z0n at h
  split at h
  ·rename_i t ho
   obtain ⟨hg,c,hc,h⟩ := h
   exact key _ _ true (fun e=>by cases e) h (by unfold z6t;rw [ho];exact ⟨hg,c,hc,rfl,rfl⟩)
  ·rename_i t x y ho
   obtain ⟨hg,hd,h⟩ := h
   obtain ⟨H1,h1,h2⟩ := zkM h
   exact key .nil H1 true (fun e=>by cases e) (by rw [hd];exact h2) (by unfold z6t;rw [ho];exact ⟨hg,hd,h1⟩)
  ·rename_i hna hns
   have fin : ∀ v,((z8c P G ops H T o v ∧ H = base) ∨ (o.guard = none ∧ z2K o.op = true ∧ z0T P G o ⟨H,T⟩ (· = v))) → z6t P G ops base H T o v H := by
    intro v hv
    unfold z6t
    split
    ·rename_i t ho;exact absurd ho (hna t)
    ·rename_i t x y ho;exact absurd ho (hns t x y)
    ·exact ⟨rfl,hv⟩
   obtain ⟨hreg,h⟩ := h
   cases b with
   |true =>
    obtain ⟨hg,hr⟩ := hreg rfl
    rw [hg] at h
    obtain ⟨v,h1,h2⟩ := z8m h
    exact key v H true (fun e=>by cases e) h2 (fin v (.inr ⟨hg,hr,h1⟩))
   |false =>
    have hB := hb rfl
    split at h
    ·rename_i hg
     obtain ⟨v,h1,h2⟩ := z8m h
     refine key v H false (fun _=>hB) h2 (fin v (.inl ⟨?_,hB⟩))
     unfold z8c;rw [hg];exact h1
    ·rename_i j want hg
     split at h
     ·rename_i t ht
      unfold z3t at h
      split at h
      ·rename_i bb hbb
       by_cases e : bb = want
       ·obtain ⟨v,h1,h2⟩ := z8m (h.1 e)
        refine key v H false (fun _=>hB) h2 (fin v (.inl ⟨?_,hB⟩))
        unfold z8c;rw [hg];exact ⟨t,ht, .inl ⟨bb,hbb,fun _=>h1,fun q=>absurd e q⟩⟩
       ·refine key UD H false (fun _=>hB) (h.2 (by cases bb <;> cases want <;> simp_all)) (fin UD (.inl ⟨?_,hB⟩))
        unfold z8c;rw [hg];exact ⟨t,ht, .inl ⟨bb,hbb,fun q=>absurd q e,fun _=>rfl⟩⟩
      ·rename_i q hbb
       refine key UD H false (fun _=>hB) h (fin UD (.inl ⟨?_,hB⟩))
       unfold z8c;rw [hg];exact ⟨t,ht, .inr ⟨⟨q,hbb⟩,rfl⟩⟩
      ·exact h.elim
     ·exact h.elim
def z7D (o : Oper) (i : Nat) : Bool := o.after.any fun e=>Region.binds .any e && e.on == i
def tailOK (ops : List Oper) (m N : Nat) : Bool :=
  decide (m ≤ ops.length) && (ops.take m).all (fun o => !z1J     o.op && !z19     o.op) &&
  ((List.range ops.length).all fun k => match ops[k]? with
    | some o => (match o.dst with
      | some d => decide (d < N) && (List.range ops.length).all (fun q => q == k || (match ops[q]? with | some oq => oq.dst != some d | none => true))
      | none => z19     o.op) &&
      (!z19     o.op || (List.range ops.length).all fun i => match ops[i]? with
        | some oi => i == k || z2K     oi.op || (z19     oi.op && decide (k < i)) || z7D     o i
        | none => true) &&
      (!z1J     o.op || (List.range ops.length).all fun i => match ops[i]? with
        | some oi => i == k || !z1J     oi.op
        | none => true)
    | none => true)
structure TailOK (ops : List Oper) (m N : Nat) : Prop where
 le : m ≤ ops.length
 quiet : (ops.take m).all (fun o=>!z1J o.op && !z19 o.op) = true
 dst : ∀ (k d : Nat) (o : Oper),ops[k]? = some o → o.dst = some d → d < N ∧ ∀ (q : Nat) (oq : Oper),ops[q]? = some oq → oq.dst = some d → q = k
 nodst : ∀ (k : Nat) (o : Oper),ops[k]? = some o → o.dst = none → z19 o.op = true
 store : ∀ (k : Nat) (o : Oper),ops[k]? = some o → z19 o.op = true → ∀ (i : Nat) (oi : Oper),ops[i]? = some oi → i ≠ k → z2K oi.op = false → (z19 oi.op = false ∨ i < k) → z7D o i = true
 alloc : ∀ (k i : Nat) (o oi : Oper),ops[k]? = some o → z1J o.op = true → ops[i]? = some oi → z1J oi.op = true → i = k
theorem zjD {ops : List Oper} {m : Nat} (h : tailOK ops m N = true) : TailOK ops m N := by
 unfold tailOK at h
 simp only [Bool.and_eq_true,decide_eq_true_eq] at h
 obtain ⟨⟨h1,h2⟩,h3⟩ := h
 have g : ∀ (k : Nat) (o : Oper),ops[k]? = some o → _ := fun k o ho=>by
  have := List.all_eq_true.1 h3 k (List.mem_range.2 (List.getElem?_eq_some_iff.1 ho).1)
  rw [ho] at this
  simp only [Bool.and_eq_true] at this
  exact this
 refine ⟨h1,h2,fun k d o ho hd=>?_,fun k o ho hd=>?_,fun k o ho hs i oi hoi hne hr hq=>?_,fun k i o oi ho ha hoi hai=>?_⟩
 ·have := (g k o ho).1.1
  rw [hd] at this
  simp only [Bool.and_eq_true,decide_eq_true_eq] at this
  refine ⟨this.1,fun q oq hoq hqd=>?_⟩
  have h5 := List.all_eq_true.1 this.2 q (List.mem_range.2 (List.getElem?_eq_some_iff.1 hoq).1)
  rw [hoq] at h5
  simpa [hqd] using h5
 ·have := (g k o ho).1.1
  rw [hd] at this
  exact this
 ·have := (g k o ho).1.2
  rw [hs] at this
  simp only [Bool.not_true,Bool.false_or] at this
  have h5 := List.all_eq_true.1 this i (List.mem_range.2 (List.getElem?_eq_some_iff.1 hoi).1)
  rw [hoi] at h5
  simp only [hr,Bool.or_false,Bool.or_eq_true,beq_iff_eq,Bool.and_eq_true,decide_eq_true_eq] at h5
  rcases h5 with (h5|⟨h5,h6⟩)|h5
  ·exact absurd h5 hne
  ·rcases hq with q|q
   ·rw [q] at h5;cases h5
   ·omega
  ·exact h5
 ·have := (g k o ho).2
  rw [ha] at this
  simp only [Bool.not_true,Bool.false_or] at this
  have h5 := List.all_eq_true.1 this i (List.mem_range.2 (List.getElem?_eq_some_iff.1 hoi).1)
  rw [hoi] at h5
  simpa [hai] using h5
end
end Go.Proofs.YtaplemeamcgpkaaDoor

namespace Go.Proofs.YtaplemeamcgpkaaDoor
open Go.RowKit
section
variable {P : Program} {G : Gl} {N : FS} {n : Nat}
def HD (ops : List Oper) (B : List AObj) (hs : Nat → List AObj) (listed : Array Bool) (Hc : List AObj) : Prop :=
  (∃ (k : Nat) (o : Oper), ops[k]? = some o ∧ z19     o.op = true ∧ listed.getD k false = true ∧ (∀ (k' : Nat) (o' : Oper), ops[k']? = some o' → z19     o'.op = true → listed.getD k' false = true → k' ≤ k) ∧ Hc = hs (k + 1)) ∨
  ((∀ (k : Nat) (o : Oper), ops[k]? = some o → z19     o.op = true → listed.getD k false = false) ∧
    ((∃ (k : Nat) (o : Oper), ops[k]? = some o ∧ z1J     o.op = true ∧ listed.getD k false = true ∧ Hc = hs (k + 1)) ∨
     ((∀ (k : Nat) (o : Oper), ops[k]? = some o → z1J     o.op = true → listed.getD k false = false) ∧ Hc = B)))
def zoN (ops : List Oper) (listed : Array Bool) (t : Nat) : Prop := (∀ o ∈ ops,o.dst ≠ some t) ∨ ∃ (k : Nat) (o : Oper),ops[k]? = some o ∧ o.dst = some t ∧ listed.getD k false = true
def looksT (ops : List Oper) : Bool :=
  (List.range ops.length).all fun j => match ops[j]? with
    | some o => (zji    o ++ (match o.guard with | some (k, _) => (z1N   ops k).toList | none => [])).all fun t =>
      ((zkA     ops.toArray o).any fun p => p.2 == t && decide (p.1 < j)) || ((List.range ops.length).all fun k => match ops[k]? with | some ok => ok.dst != some t || z7D     ok j | none => true)
    | none => true
structure JT (n : Nat) (N : FS) (ops : List Oper) (B : List AObj) (hs : Nat → List AObj) (T0 E : Tm) (w0 : World) (S0 : SS) (μ0 : List Value) (listed : Array Bool) (a : Act) (w : World) (S : SS) (μ : List Value) (Hc : List AObj) : Prop where
 hd : HD ops B hs listed Hc
 rel : Rel w S μ Hc
 step : Step n w0 S0 μ0 B w S μ Hc
 len : n ≤ Hc.length
 size : a.tmps.size = N
 nodef : a.defers = N.d
 slot : ∀ t,zoN ops listed t → rep S μ (get E t) (a.tmps.getD t undef)
 start : ∀ t,(∀ (k : Nat) (o : Oper),ops[k]? = some o → o.dst = some t → listed.getD k false = false) → rep S μ (get T0 t) (a.tmps.getD t undef)
theorem zia {Q : Exit → ASt → Prop} {id : Nat} {ops : List Oper} {s : ASt} (hmx : P.follows .mixedOrders = true) (hsh : z1O ops.toArray = true) (hok : tailOK ops 0 N = true) (hlk : looksT ops = true) (hn : n ≤ s.H.length)
  (h : z0n P G ops false ops s fun s=>Q .normal s) : AWp P G N n (.region id ops.toArray true) Q s := by
 obtain ⟨B,T⟩ := s
 intro w0 S0 μ0 a0 hrel hfr hG
 have ok := zjD hok
 obtain ⟨vs,hs,hvl,hs0,hend,hfacts⟩ := zhk (base := B) (fun _=>rfl) h
 have hget : ∀ (k : Nat) (o : Oper),(ops.toArray)[k]? = some o → ops[k]? = some o := fun k o h=>by simpa using h
 have hvs : ∀ (k : Nat) (o : Oper),ops[k]? = some o → vs[k]? = some (vs.getD k .nil) := fun k o ho=>by
  have : k < vs.length := by rw [hvl];exact (List.getElem?_eq_some_iff.1 ho).1
  simp [List.getD,this]
 have hback : ∀ (k i : Nat) (o : Oper),ops[k]? = some o → z7D o i = true → i < k := by
  intro k i o ho hi
  unfold z7D at hi
  rw [Array.any_eq_true'] at hi
  obtain ⟨e,he,h2⟩ := hi
  simp only [Bool.and_eq_true,beq_iff_eq] at h2
  have := z3R hsh (k := k) (ok := o) (by simpa using ho) e he h2.1
  omega
 have hsc : ∀ (q i : Nat),i + q ≤ ops.length → (∀ (k : Nat) (o : Oper),i ≤ k → k < i + q → ops[k]? = some o → z1J o.op = false ∧ z19 o.op = false) → hs (i + q) = hs i := by
  intro q
  induction q with
  |zero=>intro i _ _;rfl
  |succ q ih =>
   intro i hle hno
   have hk : i + q < ops.length := by omega
   have ho : ops[i + q]? = some ops[i + q] := List.getElem?_eq_getElem hk
   have hf := hfacts (i + q) ops[i + q] _ ho (hvs _ _ ho)
   have hq := hno (i + q) ops[i + q] (by omega) (by omega) ho
   have := ih i (by omega) fun k o h1 h2=>hno k o h1 (by omega)
   unfold z6t at hf
   split at hf
   ·rename_i t hop;rw [hop] at hq;cases hq.1
   ·rename_i t x y hop;rw [hop] at hq;cases hq.2
   ·rw [← this,show i + (q + 1) = i + q + 1 by omega];exact hf.1
 have hsc' : ∀ (i j : Nat),i ≤ j → j ≤ ops.length → (∀ (k : Nat) (o : Oper),i ≤ k → k < j → ops[k]? = some o → z1J o.op = false ∧ z19 o.op = false) → hs j = hs i := by
  intro i j hij hj hno
  have := hsc (j - i) i (by omega) fun k o h1 h2=>hno k o h1 (by omega)
  rwa [show i + (j - i) = j by omega] at this
 have hareg : ∀ {op : Op},z1J op = true → z2K op = false ∧ z19 op = false := by intro op h;cases op <;> first|exact ⟨rfl,rfl⟩|cases h
 have hsreg : ∀ {op : Op},z19 op = true → z2K op = false ∧ z1J op = false := by intro op h;cases op <;> first|exact ⟨rfl,rfl⟩|cases h
 have hallocB : ∀ (k : Nat) (o : Oper),ops[k]? = some o → z1J o.op = true → hs k = B := by
  intro k o ho ha
  rw [hsc' 0 k (Nat.zero_le _) (Nat.le_of_lt (List.getElem?_eq_some_iff.1 ho).1) fun i oi _ hik hoi=>?_,hs0]
  refine ⟨?_,?_⟩
  ·cases hai : z1J oi.op with
   |false=>rfl
   |true=>have := ok.alloc k i o oi ho ha hoi hai;omega
  ·cases hsi : z19 oi.op with
   |false=>rfl
   |true =>
    have := hback i k oi hoi (ok.store i oi hoi hsi k o ho (by omega) (hareg ha).1 (.inl (hareg ha).2))
    omega
 have hE : ∀ (j t : Nat),(∀ o ∈ ops,o.dst ≠ some t) ∨ (∃ (k : Nat) (o : Oper),k < j ∧ ops[k]? = some o ∧ o.dst = some t) → get (zDt T (ops.take j) (vs.take j)) t = get (zDt T ops vs) t := by
  intro j t ht
  rcases ht with hu|⟨k,o,hkj,ho,hd⟩
  ·rw [z1s _ _ _ _ fun o' ho2=>hu o' (List.mem_of_mem_take ho2),z1s _ _ _ _ hu]
  ·have huniq := (ok.dst k t o ho hd).2
   rw [z2N (ops.take j) (vs.take j) T t k o (vs.getD k .nil) (by rw [List.getElem?_take,if_pos hkj];exact ho) (by rw [List.getElem?_take,if_pos hkj];exact hvs k o ho) hd fun q oq hoq e=>?_,
    z2N ops vs T t k o (vs.getD k .nil) ho (hvs k o ho) hd fun q oq hoq e=>huniq q oq hoq e]
   rw [List.getElem?_take] at hoq
   split at hoq
   ·exact huniq q oq hoq e
   ·cases hoq
 refine wp_region_inv (fun listed a w=>∃ S μ Hc,JT n N ops B hs T (zDt T ops vs) w0 S0 μ0 listed a w S μ Hc) hmx hsh ?_ ?_ ?_
 ·
  rintro listed a w j o ho hlsz hjf hedges hcl ⟨S,μ,Hc,hJ⟩
  have ho' := hget j o ho
  have hjl : j < ops.length := (List.getElem?_eq_some_iff.1 ho').1
  have hjs : j < listed.size := by rw [hlsz];simpa using hjl
  have hset : ∀ k,k ≠ j → (listed.setIfInBounds j true).getD k false = listed.getD k false := fun k hk=>getD_set_ne false (fun e=>hk e.symm)
  have hself := z4r hjs
  have hafter : ∀ i,z7D o i = true → listed.getD i false = true := by
   intro i hi
   unfold z7D at hi
   rw [Array.any_eq_true'] at hi
   obtain ⟨e,he,h2⟩ := hi
   simp only [Bool.and_eq_true,beq_iff_eq] at h2
   rw [← h2.2];exact hedges e he h2.1
  have hafter2 : ∀ (k i : Nat) (ok : Oper),ops[k]? = some ok → listed.getD k false = true → z7D ok i = true → listed.getD i false = true := by
   intro k i ok hk hl hi
   unfold z7D at hi
   rw [Array.any_eq_true'] at hi
   obtain ⟨e,he,h2⟩ := hi
   simp only [Bool.and_eq_true,beq_iff_eq] at h2
   rw [← h2.2];exact hcl k ok (by simpa using hk) hl e he h2.1
  have upd : ∀ {S' : SS} {μ' : List Value} {Hc' : List AObj} {u : Value} {w' : World},HD ops B hs (listed.setIfInBounds j true) Hc' → Rel w' S' μ' Hc' → Step Hc.length w S μ Hc w' S' μ' Hc' → Hc.length ≤ Hc'.length → (∀ d,o.dst = some d → rep S' μ' (vs.getD j .nil) u) →
    JT n N ops B hs T (zDt T ops vs) w0 S0 μ0 (listed.setIfInBounds j true) (a.put o.dst u) w' S' μ' Hc' := by
   intro S' μ' Hc' u w' hHD hr' hst' hle hrep
   have hext := hst'.toExt hJ.rel
   refine ⟨hHD,hr',hJ.step.trans (hst'.less hJ.len),Nat.le_trans hJ.len hle,?_,?_,fun t ht=>?_,fun t ht=>?_⟩
   ·cases hd : o.dst <;> simp [Act.put,hJ.size]
   ·cases hd : o.dst <;> simp [Act.put,hJ.nodef]
   ·by_cases hdt : o.dst = some t
    ·have hu := ok.dst j t o ho' hdt
     rw [z2N ops vs T t j o (vs.getD j .nil) ho' (hvs j o ho') hdt fun q oq hoq e=>hu.2 q oq hoq e,hdt]
     rw [za4 a t u (by rw [hJ.size];exact hu.1)]
     exact hrep t hdt
    ·have e1 : (a.put o.dst u).tmps.getD t undef = a.tmps.getD t undef := by
      cases hd : o.dst with
      |none=>rfl
      |some d=>exact z3U a d t u (fun e=>hdt (by rw [hd,e]))
     rw [e1]
     refine (hJ.slot t ?_).ext hext
     rcases ht with hu|⟨k,ok',hk,hkd,hl⟩
     ·exact .inl hu
     ·have hkj : k ≠ j := by rintro rfl;rw [ho'] at hk;injection hk with hk;subst hk;exact hdt hkd
      rw [hset k hkj] at hl
      exact .inr ⟨k,ok',hk,hkd,hl⟩
   ·have hdt : o.dst ≠ some t := by
     intro e
     have := ht j o ho' e
     rw [hself] at this;cases this
    have e1 : (a.put o.dst u).tmps.getD t undef = a.tmps.getD t undef := by
     cases hd : o.dst with
     |none=>rfl
     |some d=>exact z3U a d t u (fun e=>hdt (by rw [hd,e]))
    rw [e1]
    refine (hJ.start t fun k ok' hk hkd=>?_).ext hext
    have hkj : k ≠ j := by rintro rfl;rw [ho'] at hk;injection hk with hk;subst hk;exact hdt hkd
    have := ht k ok' hk hkd
    rwa [hset k hkj] at this
  let L := zji o ++ (match o.guard with|some (k,_)=>(z1N ops k).toList|none=>[])
  have hlook : ∀ t ∈ L,rep S μ (get (zDt T (ops.take j) (vs.take j)) t) (a.tmps.getD t undef) := by
   intro t ht
   have h1 := List.all_eq_true.1 hlk j (List.mem_range.2 hjl)
   rw [ho'] at h1
   have h2 := List.all_eq_true.1 h1 t ht
   rw [Bool.or_eq_true] at h2
   rcases h2 with hp|hu
   rotate_left
   ·have hun : ∀ (k : Nat) (ok' : Oper),ops[k]? = some ok' → ok'.dst = some t → z7D ok' j = true := by
     intro k ok' hk hd
     have := List.all_eq_true.1 hu k (List.mem_range.2 (List.getElem?_eq_some_iff.1 hk).1)
     rw [hk] at this
     simpa [hd] using this
    have e : get (zDt T (ops.take j) (vs.take j)) t = get T t := by
     refine z1s _ _ _ _ fun o' ho2 e=>?_
     obtain ⟨k,hk⟩ := List.getElem?_of_mem ho2
     rw [List.getElem?_take] at hk
     split at hk
     ·have := hback k j o' hk (hun k o' hk e)
      omega
     ·cases hk
    rw [e]
    refine hJ.start t fun k ok' hk hd=>?_
    cases hl : listed.getD k false with
    |false=>rfl
    |true =>
     have := hafter2 k j ok' hk hl (hun k ok' hk hd)
     rw [hjf] at this;cases this
   ·rw [List.any_eq_true] at hp
    obtain ⟨⟨k,d⟩,hmem,hpd⟩ := hp
    simp only [Bool.and_eq_true,beq_iff_eq,decide_eq_true_eq] at hpd
    obtain ⟨rfl,hkj⟩ := hpd
    unfold zkA at hmem
    rw [List.mem_filterMap] at hmem
    obtain ⟨e,hem,he⟩ := hmem
    split at he
    ·rename_i hb
     cases hk2 : (ops.toArray)[e.on]? with
     |none=>rw [hk2] at he;simp at he
     |some ok' =>
      rw [hk2] at he
      simp only [Option.bind_some] at he
      cases hd : ok'.dst with
      |none=>rw [hd] at he;simp at he
      |some d' =>
       rw [hd] at he
       simp only [Option.map_some,Option.some.injEq,Prod.mk.injEq] at he
       obtain ⟨rfl,rfl⟩ := he
       rw [hE j d' (.inr ⟨e.on,ok',hkj,hget _ _ hk2,hd⟩)]
       exact hJ.slot d' (.inr ⟨e.on,ok',hget _ _ hk2,hd,hedges e (by simpa using hem) hb⟩)
    ·cases he
  let Tj : Tm := L.map fun t=>(t,get (zDt T (ops.take j) (vs.take j)) t)
  have hTj : ∀ (L : List Nat) (E : Tm) (i : Nat),(i ∈ L → get (L.map fun t=>(t,get E t)) i = get E i) ∧ (i ∉ L → get (L.map fun t=>(t,get E t)) i = .nil) := by
   intro L E i
   induction L with
   |nil=>exact ⟨fun h=>(by cases h),fun _=>rfl⟩
   |cons t L ih =>
    simp only [List.map_cons,get]
    refine ⟨fun h=>?_,fun h=>?_⟩
    ·split
     ·rename_i e;rw [e]
     ·rename_i e;exact ih.1 ((List.mem_cons.1 h).resolve_left fun q=>e q.symm)
    ·rw [if_neg fun e=>h (List.mem_cons.2 (.inl e.symm))]
     exact ih.2 fun q=>h (List.mem_cons_of_mem _ q)
  have hfrj : Fr S μ N Tj a := by
   refine ⟨hJ.size,hJ.nodef,fun i=>?_⟩
   by_cases hi : i ∈ L
   ·show rep S μ (get (L.map fun t=>(t,get _ t)) i) _
    rw [(hTj L _ i).1 hi]
    exact hlook i hi
   ·show rep S μ (get (L.map fun t=>(t,get _ t)) i) _
    rw [(hTj L _ i).2 hi];trivial
  have hGj := hG.ext hJ.step.still
  have hagree : zfs (zDt T (ops.take j) (vs.take j)) Tj o := fun t ht=>((hTj L _ t).1 (List.mem_append_left _ ht)).symm
  have hfact := hfacts j o (vs.getD j .nil) ho' (hvs j o ho')
  unfold z6t at hfact
  split at hfact
  ·
   rename_i t hop
   obtain ⟨hg,c,hz,hv,hk⟩ := hfact
   have ha : z1J o.op = true := by rw [hop];rfl
   have hB := hallocB j o ho' ha
   have hnos : ∀ (k : Nat) (ok' : Oper),ops[k]? = some ok' → z19 ok'.op = true → listed.getD k false = false := by
    intro k ok' hk' hs'
    cases hl : listed.getD k false with
    |false=>rfl
    |true =>
     have hne : j ≠ k := by rintro rfl;rw [hl] at hjf;cases hjf
     have := hafter2 k j ok' hk' hl (ok.store k ok' hk' hs' j o ho' hne (hareg ha).1 (.inl (hareg ha).2))
     rw [hjf] at this;cases this
   have hHc : Hc = B := by
    rcases hJ.hd with ⟨k,ok',hk',hs',hl,_⟩|⟨_,⟨k,ok',hk',ha',hl,_⟩|⟨_,e⟩⟩
    ·rw [hnos k ok' hk' hs'] at hl;cases hl
    ·have := ok.alloc k j ok' o hk' ha' ho' ha
     subst this;rw [hjf] at hl;cases hl
    ·exact e
   have hwp := zm2 (P := P) (o := o) (a := a) (K := fun d H'=>d = vs.getD j .nil ∧ H' = hs (j + 1)) (Q := fun e a' w'=>e = .normal ∧ ∃ S μ Hc,JT n N ops B hs T (zDt T ops vs) w0 S0 μ0 (listed.setIfInBounds j true) a' w' S μ Hc) hJ.rel hop hz ⟨by rw [hv,hHc,hB],by rw [hk,hHc,hB]⟩
   unfold zeU wpList
   rw [if_pos (by simp [Region.wanted,hg])]
   refine .inl (_root_.Go.Proofs.YtaplemeamcgpkaaDoor.Oper.wp_next hwp ?_)
   rintro a' w' ⟨d,u,H',S',μ',⟨rfl,rfl⟩,rfl,hrep,hr',hst',_⟩
   refine ⟨rfl,S',μ',_,upd (.inr ⟨fun k ok' hk' hs'=>?_, .inl ⟨j,o,ho',ha,hself,rfl⟩⟩) hr' hst' (by rw [hk,hB,hHc];simp) fun _ _=>hrep⟩
   have hkj : k ≠ j := by
    rintro rfl
    rw [ho'] at hk';injection hk' with hk';subst hk'
    rw [(hareg ha).2] at hs';cases hs'
   rw [hset k hkj];exact hnos k ok' hk' hs'
  ·
   rename_i t x y hop
   obtain ⟨hg,hd,hst⟩ := hfact
   have hS : z19 o.op = true := by rw [hop];rfl
   have hlow : ∀ (i : Nat) (oi : Oper),ops[i]? = some oi → i ≠ j → z2K oi.op = false → (z19 oi.op = false ∨ i < j) → listed.getD i false = true ∧ i < j := fun i oi hoi hne hr hq=>by
    have := ok.store j o ho' hS i oi hoi hne hr hq
    exact ⟨hafter i this,hback j i o ho' this⟩
   have hHc : Hc = hs j := by
    rcases hJ.hd with ⟨k,ok',hk',hs',hl,hmax,e⟩|⟨hnos,⟨k,ok',hk',ha',hl,e⟩|⟨hnoa,e⟩⟩
    ·have hkj : k ≠ j := by rintro rfl;rw [hl] at hjf;cases hjf
     have hlt : k < j := by
      rcases Nat.lt_or_ge k j with q|q
      ·exact q
      ·have := hafter2 k j ok' hk' hl (ok.store k ok' hk' hs' j o ho' (fun e=>hkj e.symm) (hsreg hS).1 (.inr (by omega)))
       rw [hjf] at this;cases this
     rw [e]
     refine (hsc' (k + 1) j (by omega) (by omega) fun i oi h1 h2 hoi=>⟨?_,?_⟩).symm
     ·cases hai : z1J oi.op with
      |false=>rfl
      |true =>
       have := hback k i ok' hk' (ok.store k ok' hk' hs' i oi hoi (by omega) (hareg hai).1 (.inl (hareg hai).2))
       omega
     ·cases hsi : z19 oi.op with
      |false=>rfl
      |true =>
       have := hmax i oi hoi hsi (hlow i oi hoi (by omega) (hsreg hsi).1 (.inr h2)).1
       omega
    ·have hkj : k ≠ j := by rintro rfl;rw [ho'] at hk';injection hk' with hk';subst hk';rw [(hareg ha').2] at hS;cases hS
     have hlt := (hlow k ok' hk' hkj (hareg ha').1 (.inl (hareg ha').2)).2
     rw [e]
     refine (hsc' (k + 1) j (by omega) (by omega) fun i oi h1 h2 hoi=>⟨?_,?_⟩).symm
     ·cases hai : z1J oi.op with
      |false=>rfl
      |true=>have := ok.alloc k i ok' oi hk' ha' hoi hai;omega
     ·cases hsi : z19 oi.op with
      |false=>rfl
      |true =>
       have := (hlow i oi hoi (by omega) (hsreg hsi).1 (.inr h2)).1
       rw [hnos i oi hoi hsi] at this;cases this
    ·rw [e,← hs0]
     refine (hsc' 0 j (Nat.zero_le _) (by omega) fun i oi h1 h2 hoi=>⟨?_,?_⟩).symm
     ·cases hai : z1J oi.op with
      |false=>rfl
      |true =>
       have := (hlow i oi hoi (by omega) (hareg hai).1 (.inl (hareg hai).2)).1
       rw [hnoa i oi hoi hai] at this;cases this
     ·cases hsi : z19 oi.op with
      |false=>rfl
      |true =>
       have := (hlow i oi hoi (by omega) (hsreg hsi).1 (.inr h2)).1
       rw [hnos i oi hoi hsi] at this;cases this
   have hx : rep S μ (ev G (zDt T (ops.take j) (vs.take j)) x) (a.eval x) := by
    rw [zdb hagree (by rw [hop];simp [Op.operands])];exact hfrj.ev hGj x
   have hy : rep S μ (ev G (zDt T (ops.take j) (vs.take j)) y) (a.eval y) := by
    rw [zdb hagree (by rw [hop];simp [Op.operands])];exact hfrj.ev hGj y
   rw [← hHc] at hst
   have hwp := zlh (P := P) (o := o) (a := a) (K := fun d H'=>H' = hs (j + 1)) (Q := fun e a' w'=>e = .normal ∧ ∃ S μ Hc,JT n N ops B hs T (zDt T ops vs) w0 S0 μ0 (listed.setIfInBounds j true) a' w' S μ Hc) hJ.rel hop hx hy hst
   have hlen : Hc.length ≤ (hs (j + 1)).length := by
    unfold z5M at hst
    split at hst
    ·obtain ⟨ob,_,h9⟩ := hst
     obtain ⟨ob',_,e⟩ := zlE h9
     rw [← e];simp
    ·exact hst.elim
   unfold zeU wpList
   rw [if_pos (by simp [Region.wanted,hg])]
   refine .inl (_root_.Go.Proofs.YtaplemeamcgpkaaDoor.Oper.wp_next hwp ?_)
   rintro a' w' ⟨d,u,H',S',μ',rfl,rfl,hrep,hr',hst',_⟩
   refine ⟨rfl,S',μ',_,upd (.inl ⟨j,o,ho',hS,hself,fun k' ok' hk' hs' hl'=>?_,rfl⟩) hr' hst' hlen fun d' hd'=>by rw [hd] at hd';cases hd'⟩
   rcases Nat.lt_or_ge j k' with q|q
   ·exfalso
    have hkj : k' ≠ j := by omega
    rw [hset k' hkj] at hl'
    have := hafter2 k' j ok' hk' hl' (ok.store k' ok' hk' hs' j o ho' (fun e=>hkj e.symm) (hsreg hS).1 (.inr q))
    rw [hjf] at this;cases this
   ·exact q
  ·
   rename_i hna hns
   have hqa : z1J o.op = false := by cases h : o.op <;> first|rfl|exact absurd h (hna _)
   have hqs : z19 o.op = false := by cases h : o.op <;> first|rfl|exact absurd h (hns _ _ _)
   have hHDq : HD ops B hs (listed.setIfInBounds j true) Hc := by
    have f : ∀ (k : Nat) (ok' : Oper),ops[k]? = some ok' → (z19 ok'.op = true ∨ z1J ok'.op = true) → (listed.setIfInBounds j true).getD k false = listed.getD k false := by
     intro k ok' hk' hq
     refine hset k ?_
     rintro rfl
     rw [ho'] at hk';injection hk' with hk';subst hk'
     rcases hq with q|q
     ·rw [hqs] at q;cases q
     ·rw [hqa] at q;cases q
    rcases hJ.hd with ⟨k,ok',hk',hs',hl,hmax,e⟩|⟨hnos,⟨k,ok',hk',ha',hl,e⟩|⟨hnoa,e⟩⟩
    ·exact .inl ⟨k,ok',hk',hs',by rw [f k ok' hk' (.inl hs')];exact hl,fun k2 o2 h1 h2 h3=>hmax k2 o2 h1 h2 (by rw [← f k2 o2 h1 (.inl h2)];exact h3),e⟩
    ·exact .inr ⟨fun k2 o2 h1 h2=>by rw [f k2 o2 h1 (.inl h2)];exact hnos k2 o2 h1 h2, .inl ⟨k,ok',hk',ha',by rw [f k ok' hk' (.inr ha')];exact hl,e⟩⟩
    ·exact .inr ⟨fun k2 o2 h1 h2=>by rw [f k2 o2 h1 (.inl h2)];exact hnos k2 o2 h1 h2, .inr ⟨fun k2 o2 h1 h2=>by rw [f k2 o2 h1 (.inr h2)];exact hnoa k2 o2 h1 h2,e⟩⟩
   have hdo : ∀ (hw : Region.wanted o (yielded ops.toArray a.tmps) = true),z0T P G o ⟨Hc,zDt T (ops.take j) (vs.take j)⟩ (· = vs.getD j .nil) → zeU P ops.toArray o a w (fun a' w'=>∃ S μ Hc,JT n N ops B hs T (zDt T ops vs) w0 S0 μ0 (listed.setIfInBounds j true) a' w' S μ Hc) := by
    intro hw hst
    have hst' := z9f hagree hst
    unfold zeU wpList
    rw [if_pos hw]
    refine .inl ?_
    unfold z0T at hst'
    split at hst'
    ·rename_i f args ts hop
     obtain ⟨X,hX,hargs,hXv⟩ := hst'
     subst hXv
     unfold Oper.wp
     rw [z8h hX.1 hop rfl]
     have hc := zhn hX hargs hJ.rel hGj (vs := args.toList.map a.eval) (by rw [List.length_map,List.length_map,List.length_map]) (fun i d v hd hv=>by
      rw [List.getElem?_map,List.getElem?_map] at hd
      rw [List.getElem?_map] at hv
      cases hx : args.toList[i]? with
      |none=>rw [hx] at hd;cases hd
      |some x =>
       rw [hx] at hd hv
       simp only [Option.map_some,Option.some.injEq] at hd hv
       subst hd hv
       exact (hfrj.ev hGj x).toRo hJ.rel)
     have e : (args.toList.map a.eval).toArray = args.map a.eval := by rw [← Array.toList_map,Array.toArray_toList]
     rw [e] at hc
     refine hc.mono fun e w' ⟨v,S',he,hr',hrep,hst2,hbel⟩=>?_
     subst he
     exact ⟨rfl,S',μ,Hc,upd hHDq hr' hst2 (Nat.le_refl _) fun _ _=>hrep⟩
    ·obtain ⟨hq,hst'⟩ := hst'
     have hpost := z86 hst' hJ.rel hfrj hGj (fun e a' w'=>e = .normal ∧ ∃ S μ Hc,JT n N ops B hs T (zDt T ops vs) w0 S0 μ0 (listed.setIfInBounds j true) a' w' S μ Hc)
     refine _root_.Go.Proofs.YtaplemeamcgpkaaDoor.Oper.wp_next hpost ?_
     rintro a' w' ⟨d,u,H',S',μ',⟨rfl,rfl⟩,rfl,hrep,hr',hst2,_⟩
     exact ⟨rfl,S',μ',_,upd hHDq hr' hst2 (Nat.le_refl _) fun _ _=>hrep⟩
   obtain ⟨hk,hfact⟩ := hfact
   rcases hfact with ⟨hfact,hjB⟩|⟨hg,hr,hst⟩
   ·
    have hlift : z0T P G o ⟨hs j,zDt T (ops.take j) (vs.take j)⟩ (· = vs.getD j .nil) → z0T P G o ⟨Hc,zDt T (ops.take j) (vs.take j)⟩ (· = vs.getD j .nil) := by
     intro hst
     by_cases hr : z2K o.op = true
     ·exact zdE hr hst
     have hr' : z2K o.op = false := by simpa using hr
     have hnos : ∀ (k : Nat) (ok' : Oper),ops[k]? = some ok' → z19 ok'.op = true → listed.getD k false = false := by
      intro k ok' hk' hs'
      cases hl : listed.getD k false with
      |false=>rfl
      |true =>
       have hne : j ≠ k := by rintro rfl;rw [hl] at hjf;cases hjf
       have := hafter2 k j ok' hk' hl (ok.store k ok' hk' hs' j o ho' hne hr' (.inl hqs))
       rw [hjf] at this;cases this
     rcases hJ.hd with ⟨k,ok',hk',hs',hl,_⟩|⟨_,⟨k,ok',hk',ha',hl,e⟩|⟨_,e⟩⟩
     ·rw [hnos k ok' hk' hs'] at hl;cases hl
     ·have hf := hfacts k ok' (vs.getD k .nil) hk' (hvs k ok' hk')
      unfold z6t at hf
      split at hf
      ·rename_i t hop
       obtain ⟨_,c,_,_,e2⟩ := hf
       rw [e,e2,hallocB k ok' hk' ha',← hjB]
       exact zdD hst
      ·rename_i t x y hop;rw [hop] at ha';cases ha'
      ·rename_i hx1 hx2
       exfalso
       cases hop : ok'.op <;> first|(rw [hop] at ha';cases ha';done)|exact hx1 _ hop
     ·rw [e,← hjB];exact hst
    unfold z8c at hfact
    split at hfact
    ·rename_i hgd
     exact hdo (by simp [Region.wanted,hgd]) (hlift hfact)
    ·rename_i k want hgd
     obtain ⟨t,ht,⟨b,hb,hyes,hno⟩|⟨⟨q,hb⟩,hno⟩⟩ := hfact
     ·have htL : t ∈ L := List.mem_append_right _ (by simp only [hgd,ht];simp)
      have hy : yielded ops.toArray a.tmps k = some b := z3Y hfrj ht (by
       show get (L.map fun t=>(t,get _ t)) t = _
       rw [(hTj L _ t).1 htL];exact hb)
      by_cases e : b = want
      ·exact hdo (by simp [Region.wanted,hgd,hy,e]) (hlift (hyes e))
      ·unfold zeU wpList
       rw [if_neg (by simp [Region.wanted,hgd,hy,e])]
       exact ⟨rfl,S,μ,Hc,upd hHDq hJ.rel (Step.refl _ _ _ _ _) (Nat.le_refl _) fun _ _=>by rw [hno e];exact zgc _ _⟩
     ·have htL : t ∈ L := List.mem_append_right _ (by simp only [hgd,ht];simp)
      have hy : yielded ops.toArray a.tmps k = none := z85 hfrj ht (q := q) (by
       show get (L.map fun t=>(t,get _ t)) t = _
       rw [(hTj L _ t).1 htL];exact hb)
      unfold zeU wpList
      rw [if_neg (by simp [Region.wanted,hgd,hy])]
      exact ⟨rfl,S,μ,Hc,upd hHDq hJ.rel (Step.refl _ _ _ _ _) (Nat.le_refl _) fun _ _=>by rw [hno];exact zgc _ _⟩
   ·exact hdo (by simp [Region.wanted,hg]) (zdE hr hst)
 ·
  rintro listed a w hall ⟨S,μ,Hc,hJ⟩
  have hall' : ∀ (k : Nat) (o : Oper),ops[k]? = some o → listed.getD k false = true := fun k o ho=>hall k (by simpa using (List.getElem?_eq_some_iff.1 ho).1)
  have hHc : Hc = hs ops.length := by
   rcases hJ.hd with ⟨k,ok',hk',hs',hl,hmax,e⟩|⟨hnos,⟨k,ok',hk',ha',hl,e⟩|⟨hnoa,e⟩⟩
   ·rw [e]
    refine (hsc' (k + 1) ops.length (by have := (List.getElem?_eq_some_iff.1 hk').1;omega) (Nat.le_refl _) fun i oi h1 h2 hoi=>⟨?_,?_⟩).symm
    ·cases hai : z1J oi.op with
     |false=>rfl
     |true =>
      have := hback k i ok' hk' (ok.store k ok' hk' hs' i oi hoi (by omega) (hareg hai).1 (.inl (hareg hai).2))
      omega
    ·cases hsi : z19 oi.op with
     |false=>rfl
     |true=>have := hmax i oi hoi hsi (hall' i oi hoi);omega
   ·rw [e]
    refine (hsc' (k + 1) ops.length (by have := (List.getElem?_eq_some_iff.1 hk').1;omega) (Nat.le_refl _) fun i oi h1 h2 hoi=>⟨?_,?_⟩).symm
    ·cases hai : z1J oi.op with
     |false=>rfl
     |true=>have := ok.alloc k i ok' oi hk' ha' hoi hai;omega
    ·cases hsi : z19 oi.op with
     |false=>rfl
     |true=>have := hnos i oi hoi hsi;rw [hall' i oi hoi] at this;cases this
   ·rw [e,← hs0]
    refine (hsc' 0 ops.length (Nat.zero_le _) (Nat.le_refl _) fun i oi h1 h2 hoi=>⟨?_,?_⟩).symm
    ·cases hai : z1J oi.op with
     |false=>rfl
     |true=>have := hnoa i oi hoi hai;rw [hall' i oi hoi] at this;cases this
    ·cases hsi : z19 oi.op with
     |false=>rfl
     |true=>have := hnos i oi hoi hsi;rw [hall' i oi hoi] at this;cases this
  subst hHc
  refine ⟨⟨hs ops.length,zDt T ops vs⟩,S,μ,hend,hJ.rel,⟨hJ.size,hJ.nodef,fun i=>hJ.slot i ?_⟩,hJ.step⟩
  by_cases hi : ∃ (k : Nat) (o : Oper),ops[k]? = some o ∧ o.dst = some i
  ·obtain ⟨k,o,ho,hd⟩ := hi
   exact .inr ⟨k,o,ho,hd,hall' k o ho⟩
  ·refine .inl fun o ho e=>?_
   obtain ⟨k,hk⟩ := List.getElem?_of_mem ho
   exact hi ⟨k,o,hk,e⟩
 ·
  intro listed hl
  obtain ⟨r,st⟩ := hrel.grow (w' := w0.drew) ((Below.refl _ _).drew) (fun _ _ _ q=>q) (fun _ _ _ q=>.inl q) (fun b j d q hb=>by have := hrel.still_lt q;omega)
  refine ⟨S0,μ0,B, .inr ⟨fun k o _ _=>hl k, .inr ⟨fun k o _ _=>hl k,rfl⟩⟩,r,st.less hn,hn,hfr.size,hfr.nodef,fun t ht=>?_,fun t _=>hfr.slot t⟩
  rcases ht with hu|⟨k,o,_,_,h⟩
  ·rw [z1s _ _ _ _ hu];exact hfr.slot t
  ·rw [hl k] at h;cases h
end
end Go.Proofs.YtaplemeamcgpkaaDoor

namespace Go.Proofs.YtaplemeamcgpkaaDoor
open Go.RowKit
section
variable {P : Program} {G : Gl} {N : FS} {n : Nat} {s s' : ASt} {H H' : List AObj} {T : Tm} {K : ASt → Prop} {K1 : AV → Prop} {K2 : AV → List AObj → Prop} {ops l r : List Oper} {dst : Option Tmp} {op : Op} {ty : TypeId} {pos : String} {af : Array Edge} {gd : Option (Nat × Bool)} {x y z : AV} {t t' : TypeId} {b : Bool}
variable {Q : Exit → ASt → Prop} {id : Nat} {c d e : Code}
theorem wx (hm : P.follows .mixedOrders = true) (hsh : z1O ops.toArray = true) (hok : tailOK ops 0 N = true) (hlk : looksT ops = true) (hn : n ≤ s.H.length) (h : z0n P G ops false ops s fun s=>AWp P G N n d Q s) :
 AWp P G N n (.seq (.region id ops.toArray true) d) Q s := zcL (zia hm hsh hok hlk hn h)
theorem wx1 (hm : P.follows .mixedOrders = true) (hsh : z1O ops.toArray = true) (hok : tailOK ops 0 N = true) (hlk : looksT ops = true) (hn : n ≤ s.H.length) (h : z0n P G ops false ops s fun s=>Q .normal s) :
 AWp P G N n (.region id ops.toArray true) Q s := zia hm hsh hok hlk hn h
def okX (b : Bool) (op : Op) : Prop := b = true → z2K op = true
theorem zz8 : okX false op = True := by simp [okX]
theorem zyT : okX true op = (z2K op = true) := by simp [okX]
def zwW : Op → Bool|.alloc _=>false|.store ..=>false|_=>true
def z1x (P : Program) (G : Gl) (ops : List Oper) (b : Bool) (o : Oper) (r : List Oper) (s : ASt) (K : ASt → Prop) : Prop := z0T P G o s fun d=>z0n P G ops b r (s.set s.H o.dst d) K
theorem z34 (hq : zwW op = true) : z0n P G ops b (⟨dst,op,ty,pos,af,none⟩ :: r) s K = (okX b op ∧ z1x P G ops b ⟨dst,op,ty,pos,af,none⟩ r s K) := by
 cases op <;> first|(simp only [z0n,okX,true_and];rfl)|cases hq
theorem z1F {j : Nat} {w : Bool} (hq : zwW op = true) (hb : b = false) : z0n P G ops b (⟨dst,op,ty,pos,af,some (j,w)⟩ :: r) s K = z4g (z1N ops j) s.T w (z1x P G ops b ⟨dst,op,ty,pos,af,some (j,w)⟩ r s K) (z0n P G ops b r (s.set s.H dst UD) K) := by
 subst hb
 cases op <;> first|cases hq|skip
 all_goals
  simp only [z0n,Bool.false_eq_true,false_implies,true_and,z4g,z1x]
  try (cases z1N ops j <;> rfl)
theorem zsf : z0n P G ops b (⟨dst, .alloc t,ty,pos,af,none⟩ :: r) s K = zlv (z7r P t) t s.H fun d H'=>z0n P G ops true r (s.set H' dst d) K := by
 rw [show z0n P G ops b (⟨dst, .alloc t,ty,pos,af,none⟩ :: r) s K = ((none : Option (Nat × Bool)) = none ∧ ∃ c,z7r P t = some c ∧ z0n P G ops true r (s.set (s.H ++ [⟨1,t,0,c⟩]) dst (OP s.H.length 0)) K) from rfl]
 rw [eq_iff_iff]
 refine ⟨fun ⟨_,c,h1,h2⟩=>by rw [h1];exact h2,fun h=>⟨rfl,?_⟩⟩
 unfold zlv at h
 split at h
 ·rename_i c hc;exact ⟨c,hc,h⟩
 ·exact h.elim
theorem zr1 {a c : Operand} : z0n P G ops b (⟨none, .store t a c,ty,pos,af,none⟩ :: r) s K = z5M (z0z P t) s.H (ev G s.T a) (ev G s.T c) fun H'=>z0n P G ops true r ⟨H',s.T⟩ K := by
 rw [show z0n P G ops b (⟨none, .store t a c,ty,pos,af,none⟩ :: r) s K = ((none : Option (Nat × Bool)) = none ∧ (none : Option Tmp) = none ∧ z5M (z0z P t) s.H (ev G s.T a) (ev G s.T c) fun H'=>z0n P G ops true r ⟨H',s.T⟩ K) from rfl]
 rw [eq_iff_iff]
 exact ⟨fun h=>h.2.2,fun h=>⟨rfl,rfl,h⟩⟩
theorem zoT {a : Operand} : z1x P G ops b ⟨dst, .move a,ty,pos,af,gd⟩ r s K = z0n P G ops b r (s.set s.H dst (ev G s.T a)) K := by simp [z1x,z0T,loud,z08]
theorem ziv {a : Operand} : z1x P G ops b ⟨dst, .assign a,ty,pos,af,gd⟩ r s K = z0n P G ops b r (s.set s.H dst (ev G s.T a)) K := by simp [z1x,z0T,loud,z08]
theorem zpI {a c d : Operand} : z1x P G ops b ⟨dst, .pick a c d,ty,pos,af,gd⟩ r s K = zdk (ev G s.T a) (ev G s.T c) (ev G s.T d) fun v=>z0n P G ops b r (s.set s.H dst v) K := by simp [z1x,z0T,loud,z08]
theorem ztA {o : BinOp} {a c : Operand} : z1x P G ops b ⟨dst, .binOp o t a c t',ty,pos,af,gd⟩ r s K = zF5 P t o (ev G s.T a) (ev G s.T c) fun v=>z0n P G ops b r (s.set s.H dst v) K := by simp [z1x,z0T,loud,z08]
theorem zB4 {o : UnOp} {a : Operand} : z1x P G ops b ⟨dst, .unOp o t a,ty,pos,af,gd⟩ r s K = aUn o (ev G s.T a) fun v=>z0n P G ops b r (s.set s.H dst v) K := by simp [z1x,z0T,loud,z08]
theorem zkg {ps : Array (Nat × Operand)} : z1x P G ops b ⟨dst, .build t ps,ty,pos,af,gd⟩ r s K = z7o P t (ps.toList.map fun p=>(p.1,ev G s.T p.2)) fun v=>z0n P G ops b r (s.set s.H dst v) K := by simp [z1x,z0T,loud,z08]
theorem z9Q {m : Nat} {ps : Array (Nat × Operand)} : z1x P G ops b ⟨dst, .buildSlice t m ps,ty,pos,af,gd⟩ r s K = z3F P t m (ps.toList.map fun p=>(p.1,ev G s.T p.2)) fun v=>z0n P G ops b r (s.set s.H dst v) K := by simp [z1x,z0T,loud,z08]
theorem zoR {a : Operand} : z1x P G ops b ⟨dst, .load t a,ty,pos,af,gd⟩ r s K = z67 (z0z P t) s.H (ev G s.T a) fun v=>z0n P G ops b r (s.set s.H dst v) K := by simp [z1x,z0T,loud,z08]
theorem zcx {a : Operand} : z1x P G ops b ⟨dst, .nilCheck a,ty,pos,af,gd⟩ r s K = zEm (ev G s.T a) fun v=>z0n P G ops b r (s.set s.H dst v) K := by simp [z1x,z0T,loud,z08]
theorem zpT {a : Operand} : z1x P G ops b ⟨dst, .convert t t' a,ty,pos,af,gd⟩ r s K = zec P t t' (ro s.H (ev G s.T a)) fun v=>z0n P G ops b r (s.set s.H dst v) K := by simp [z1x,z0T,loud,z08]
theorem zft {a : Operand} {i : Nat} : z1x P G ops b ⟨dst, .extract a i,ty,pos,af,gd⟩ r s K = z1Z (ev G s.T a) i fun v=>z0n P G ops b r (s.set s.H dst v) K := by simp [z1x,z0T,loud,z08]
theorem zbZ {a : Operand} {i : Nat} : z1x P G ops b ⟨dst, .fieldAddr t a i,ty,pos,af,gd⟩ r s K = z6u (z20 P t i) (ev G s.T a) fun v=>z0n P G ops b r (s.set s.H dst v) K := by simp [z1x,z0T,loud,z08]
theorem zjR {a : Operand} {i : Nat} : z1x P G ops b ⟨dst, .field t a i,ty,pos,af,gd⟩ r s K = z3D (z20 P t i) (ev G s.T a) fun v=>z0n P G ops b r (s.set s.H dst v) K := by simp [z1x,z0T,loud,z08]
theorem zba {a c : Operand} : z1x P G ops b ⟨dst, .indexAddr t a c,ty,pos,af,gd⟩ r s K = z3c P t s.H (ev G s.T a) (ev G s.T c) fun v=>z0n P G ops b r (s.set s.H dst v) K := by simp [z1x,z0T,loud,z08]
theorem zl9 {a c : Operand} : z1x P G ops b ⟨dst, .index t a c,ty,pos,af,gd⟩ r s K = z39 P t (ev G s.T a) (ev G s.T c) fun v=>z0n P G ops b r (s.set s.H dst v) K := by simp [z1x,z0T,loud,z08]
theorem zjL {a : Operand} {lo hi : Option Operand} : z1x P G ops b ⟨dst, .slice t a lo hi none,ty,pos,af,gd⟩ r s K = z4X P t s.H (ev G s.T a) (lo.map (ev G s.T)) (hi.map (ev G s.T)) fun v=>z0n P G ops b r (s.set s.H dst v) K := by simp [z1x,z0T,loud,z08]
theorem zqp {f : FuncId} {ags : Array Operand} {ts : Array TypeId} : z1x P G ops b ⟨dst, .call { callee := .value (.func f),args := ags,argTypes := ts },ty,pos,af,gd⟩ r s K = zsW P G f ((ags.toList.map (ev G s.T)).map (ro s.H)) fun v=>z0n P G ops b r (s.set s.H dst v) K := _root_.id rfl
theorem zuK {a : Operand} : z1x P G ops b ⟨dst, .call { callee := .builtin .len,args := #[a],argTypes := #[t] },ty,pos,af,gd⟩ r s K = zCJ P t s.H (ev G s.T a) fun v=>z0n P G ops b r (s.set s.H dst v) K := by simp [z1x,z0T,loud,z08]
theorem zz1 {f : FuncId} {k : Nat} {caps ags : List AV} : zcj P G (CL (.func f) k caps) ags H K2 = AC P G f ((caps.take k ++ ags ++ caps.drop k).map (ro H)) H K2 := _root_.id rfl
theorem zop {v : Value} : zDh (V v) = true := _root_.id rfl
theorem zix {i o : Nat} : zDh (OP i o) = true := _root_.id rfl
theorem zdZ : zDh (.ptr x) = true := _root_.id rfl
def ixA (st : Option (TypeId × Nat)) (at_ : Option (Nat × Nat)) (H : List AObj) (x ix : AV) (K : AV → Prop) : Prop :=
 match st with
 |some (_,ek)=>z3E ek H x ix K
 |none=>match at_ with
  |some (n,ek)=>match ix with
   |.held (.inl (.int _ i))=>0 ≤ i ∧ i < n ∧ (match x with
    |.ptr (.agg cs)=>z0Y ek cs (i.toNat * zE7 ek) fun d=>K (.ptr d)
    |.held (.inr (.inl (j,q)))=>K (OP j (q + i.toNat * zE7 ek))
    |_=>False)
   |_=>False
  |none=>False
theorem zfy : z3c P t H x y K1 = ixA (z1Y P t) (z4m P t) H x y K1 := _root_.id rfl
theorem zAc {e : TypeId} {k : Nat} {f : Option (Nat × Nat)} : ixA (some (e,k)) f H x y K1 = z3E k H x y K1 := _root_.id rfl
theorem zzs {m k : Nat} {k' : IntKind} {i : Int} {cs : List AV} : ixA none (some (m,k)) H (.ptr (.agg cs)) (V (.int k' i)) K1 = (0 ≤ i ∧ i < m ∧ z0Y k cs (i.toNat * zE7 k) fun d=>K1 (.ptr d)) := _root_.id rfl
theorem zA4 {m k j q : Nat} {k' : IntKind} {i : Int} : ixA none (some (m,k)) H (OP j q) (V (.int k' i)) K1 = (0 ≤ i ∧ i < m ∧ K1 (OP j (q + i.toNat * zE7 k))) := _root_.id rfl
theorem zea : zE7 1 = 1 := _root_.id rfl
theorem zdR {k : Nat} : zE7 (k + 2) = k := by simp [zE7]
theorem zkx {k : IntKind} {i : Int} {q : ByteArray} : z39 P t (V (.string q)) (V (.int k i)) K1 = (P.underlying t = some .string ∧ 0 ≤ i ∧ i < q.size ∧ K1 (V (.int .u8 ((q.data.toList.getD i.toNat 0).toNat : Int)))) := _root_.id rfl
def ixW (at_ : Option (Nat × Nat)) (i : Int) (cs : List AV) (K : AV → Prop) : Prop := match at_ with
 |some (n,ek)=>0 ≤ i ∧ i < n ∧ z0Y ek cs (i.toNat * zE7 ek) K
 |none=>False
theorem z9K {k : IntKind} {i : Int} {cs : List AV} : z39 P t (.agg cs) (V (.int k i)) K1 = ixW (z4m P t) i cs K1 := _root_.id rfl
theorem zgU {m k : Nat} {i : Int} {cs : List AV} : ixW (some (m,k)) i cs K1 = (0 ≤ i ∧ i < m ∧ z0Y k cs (i.toNat * zE7 k) K1) := _root_.id rfl
def slE (st : Option (TypeId × Nat)) (H : List AObj) (x : AV) (lo hi : Option AV) (K : AV → Prop) : Prop := match st with
 |some (_,ek)=>z1d H x fun es=>allC (zE7 ek) es ∧ asI lo 0 fun l=>asI hi es.length fun h=>0 ≤ l ∧ l ≤ h ∧ h ≤ es.length ∧ K (SL (zD0 es l h))
 |none=>False
theorem zp0 {es : List AV} {lo hi : Option AV} : z4X P t H (.slice es []) lo hi K1 = slE (z1Y P t) H (.slice es []) lo hi K1 := _root_.id rfl
theorem zfq {i m : Nat} {lo hi : Option AV} : z4X P t H (OW i m) lo hi K1 = slE (z1Y P t) H (OW i m) lo hi K1 := _root_.id rfl
theorem zfn {lo hi : Option AV} : z4X P t H (V (.slice none 0 0)) lo hi K1 = slE (z1Y P t) H (V (.slice none 0 0)) lo hi K1 := _root_.id rfl
theorem zrn {q : ByteArray} {lo hi : Option AV} : z4X P t H (V (.string q)) lo hi K1 = (P.underlying t = some .string ∧ asI lo 0 fun l=>asI hi q.size fun h=>0 ≤ l ∧ l ≤ h ∧ h ≤ q.size ∧ K1 (V (.string (q.extract l.toNat h.toNat)))) := _root_.id rfl
theorem zg8 {e : TypeId} {k : Nat} {lo hi : Option AV} : slE (some (e,k)) H x lo hi K1 = z1d H x fun es=>allC (zE7 k) es ∧ asI lo 0 fun l=>asI hi es.length fun h=>0 ≤ l ∧ l ≤ h ∧ h ≤ es.length ∧ K1 (SL (zD0 es l h)) := _root_.id rfl
def apE (at_ : Option (TypeId × Nat)) (H : List AObj) (x y : AV) (K : AV → List AObj → Prop) : Prop := match at_ with
 |some (e,z)=>z1d H y fun es=>allC z es ∧ (match x with
  |.held (.inl (.slice none 0 0))=>es.length ≤ 34359738368 ∧ K (OW H.length es.length) (H ++ [⟨2,e,z,es⟩])
  |.slice _ [.held (.inl (.bool _))]=>es.length ≤ 34359738368 ∧ K (OW H.length es.length) (H ++ [⟨2,e,z,es⟩])
  |.held (.inr (.inr (i,n)))=>zEG H i fun ob=>ob.k = 2 ∧ ob.e = e ∧ ob.z = z ∧ n = ob.c.length ∧ n + es.length ≤ 34359738368 ∧ K (OW i (n + es.length)) (H.set i { ob with c := ob.c ++ es })
  |_=>False)
 |none=>False
theorem zqh : zDr P t H x y K2 = apE (zEP P t) H x y K2 := _root_.id rfl
theorem zkV {e : TypeId} {m : Nat} : apE (some (e,m)) H (V (.slice none 0 0)) y K2 = z1d H y fun es=>allC m es ∧ es.length ≤ 34359738368 ∧ K2 (OW H.length es.length) (H ++ [⟨2,e,m,es⟩]) := _root_.id rfl
theorem zkc {e : TypeId} {m i q : Nat} : apE (some (e,m)) H (OW i q) y K2 = z1d H y fun es=>allC m es ∧ zEG H i fun ob=>ob.k = 2 ∧ ob.e = e ∧ ob.z = m ∧ q = ob.c.length ∧ q + es.length ≤ 34359738368 ∧ K2 (OW i (q + es.length)) (H.set i { ob with c := ob.c ++ es }) := _root_.id rfl
def bsE (at_ : Option (TypeId × Nat)) (n : Nat) (ps : List (Nat × AV)) (K : AV → Prop) : Prop := match at_ with
 |some (_,z)=>ps.map (·.1) = List.range n ∧ allC z (ps.map (·.2)) ∧ (ps.map (·.2)).all zmt = true ∧ n * z ≤ 16777216 ∧ K (bsV (ps.map (·.2)))
 |none=>False
theorem zpd {m : Nat} {ps : List (Nat × AV)} : z3F P t m ps K1 = bsE (zEP P t) m ps K1 := _root_.id rfl
theorem zk1 {e : TypeId} {m : Nat} : bsE (some (e,m)) 1 [(0,x)] K1 = ((cellsOf x).length = m ∧ (cellsOf x).all (fun y=>zCU y && lt1 0 y) = true ∧ m ≤ 16777216 ∧ K1 (SL [x])) := by
 simp [bsE,allC,zmt,bsV]
def blE (pl : Option (List (Nat × Nat))) (z : Option (List AV)) (ps : List (Nat × AV)) (K : AV → Prop) : Prop := match pl,z with
 |some pl,some z=>(match aFill (pl[·]?) ps z with|some cs=>K (.agg cs)|none=>False)
 |_,_=>False
theorem zpP {ps : List (Nat × AV)} : z7o P t ps K1 = blE (z7I P t) (z7r P t) ps K1 := _root_.id rfl
def flE (o : Option (List AV)) (K : AV → Prop) : Prop := match o with|some cs=>K (.agg cs)|none=>False
theorem zgk {cs : List AV} : flE (some cs) K1 = K1 (.agg cs) := _root_.id rfl
def zDx (l : List (Nat × Nat)) (i : Nat) : Option (Nat × Nat) := l[i]?
theorem zdg {p : Nat × Nat} {l : List (Nat × Nat)} : zDx (p :: l) 0 = some p := _root_.id rfl
theorem ze6 {p : Nat × Nat} {l : List (Nat × Nat)} {i : Nat} : zDx (p :: l) (i + 1) = zDx l i := by simp [zDx]
theorem zgK {pl : List (Nat × Nat)} {zz : List AV} {ps : List (Nat × AV)} : blE (some pl) (some zz) ps K1 = flE (aFill (zDx pl) ps zz) K1 := _root_.id rfl
theorem zlt {f : Nat → Option (Nat × Nat)} {cs : List AV} : aFill f [] cs = some cs := _root_.id rfl
def zEq (q : Option (Nat × Nat)) (f : Nat → Option (Nat × Nat)) (d : AV) (r : List (Nat × AV)) (cs : List AV) : Option (List AV) := match q with
 |none=>none
 |some (off,size)=>if (cellsOf d).length = size ∧ off + (cellsOf d).length ≤ cs.length ∧ (cellsOf d).all zCU = true then aFill f r (z0e cs off (cellsOf d)) else none
theorem zg2 {f : Nat → Option (Nat × Nat)} {i : Nat} {ps : List (Nat × AV)} {cs : List AV} : aFill f ((i,x) :: ps) cs = zEq (f i) f x ps cs := by
 unfold zEq;simp only [aFill];cases f i <;> rfl
theorem zei {off size : Nat} {f : Nat → Option (Nat × Nat)} {ps : List (Nat × AV)} {cs : List AV} : zEq (some (off,size)) f x ps cs = if (cellsOf x).length = size ∧ off + (cellsOf x).length ≤ cs.length ∧ (cellsOf x).all zCU = true then aFill f ps (z0e cs off (cellsOf x)) else none := _root_.id rfl
def cvE (it : Option IntKind) (src : Prop) (i : Int) (K : AV → Prop) : Prop := src ∧ (match it with|some k=>K (V (.int k (k.wrap i)))|none=>False)
theorem zqt {k : IntKind} {i : Int} : zec P t t' (V (.int k i)) K1 = cvE (zF0 P t') ((P.underlying t).isSome = true) i K1 := _root_.id rfl
theorem zgh {k : IntKind} {p : Prop} {i : Int} : cvE (some k) p i K1 = (p ∧ K1 (V (.int k (k.wrap i)))) := _root_.id rfl
theorem zlL {q : ByteArray} : zec P t t' (V (.string q)) K1 = ((P.underlying t = some .string ∧ P.underlying t' = some .string ∧ K1 (V (.string q))) ∨ (P.underlying t = some .string ∧ zCB P t' = true ∧ q.size ≤ 34359738368 ∧ K1 (SL (zFB q)))) := _root_.id rfl
theorem z74 {l : List UInt8} : (ByteArray.mk l.toArray).size = l.length := by simp [ByteArray.size]
theorem zdx {l : List UInt8} : (ByteArray.mk l.toArray).toList = l := by
 exact ByteArray.toList_mk l
theorem ziE {l : List UInt8} {a c : Nat} : (ByteArray.mk l.toArray).extract a c = ⟨((l.drop a).take (c - a)).toArray⟩ := ByteArray.extract_mk l a c
theorem zdn {l : List UInt8} : (ByteArray.mk l.toArray).data.toList = l := _root_.id rfl
theorem zis {es : List AV} {h : Int} : zD0 es 0 h = es.take h.toNat := by simp [zD0]
theorem znp {es : List AV} {l : Int} : zD0 es l (es.length : Int) = es.drop l.toNat := by simp [zD0]
theorem zyU {a c : ByteArray} : zFF .eql a c K1 = K1 (V (.bool (decide (a.toList = c.toList)))) := by
 have : (a.toList == c.toList) = decide (a.toList = c.toList) := by by_cases h : a.toList = c.toList <;> simp [h]
 simp [zFF,this]
theorem zAb {a c : ByteArray} : zFF .neq a c K1 = K1 (V (.bool (decide (¬ a.toList = c.toList)))) := by
 have : (!(a.toList == c.toList)) = decide (¬ a.toList = c.toList) := by by_cases h : a.toList = c.toList <;> simp [h]
 simp only [zFF,this]
theorem zyu {a c : ByteArray} : zFF .add a c K1 = (((a.size + c.size : Nat) : Int) ≤ 9223372036854775807 ∧ K1 (V (.string (a ++ c)))) := _root_.id rfl
theorem zzL {a c : ByteArray} : zFF .lss a c K1 = K1 (V (.bool (Op.bytesLess a.toList c.toList))) := _root_.id rfl
theorem zAv {a c : ByteArray} : zFF .geq a c K1 = K1 (V (.bool (!Op.bytesLess a.toList c.toList))) := _root_.id rfl
theorem zAr {a c : ByteArray} : zFF .leq a c K1 = K1 (V (.bool (Op.bytesLess a.toList c.toList || a.toList == c.toList))) := _root_.id rfl
theorem zyF {a c : ByteArray} : zFF .gtr a c K1 = K1 (V (.bool (!(Op.bytesLess a.toList c.toList || a.toList == c.toList)))) := _root_.id rfl
end
end Go.Proofs.YtaplemeamcgpkaaDoor

namespace Go.Proofs.YtaplemeamcgpkaaDoor
open Go.ChangeShapes Go.WideShapes Go.ChangeAt Go.RowKit
def SWn (w : World) : Nat → SS
 |0,_,_,_=>False
 |n + 1,b,j,d=>∃ u,w.cell? ⟨b,j,none⟩ = some u ∧ u.oneCell' = true ∧ rep1 (SWn w n) [] d u
def SW (w : World) : SS := fun b j d=>∃ n,SWn w n b j d
theorem zCZ {S S' : SS} (h : ∀ b j d,S b j d → S' b j d) : Ext S [] S' [] := ⟨h,fun i x hx=>by simp at hx⟩
theorem SWn.succ {w : World} {n : Nat} : ∀ b j d,SWn w n b j d → SWn w (n + 1) b j d := by
 induction n with
 |zero=>intro b j d h;exact h.elim
 |succ n ih =>
  rintro b j d ⟨u,h1,h2,h3⟩
  exact ⟨u,h1,h2,h3.ext (zCZ ih)⟩
theorem zAf (w : World) : Rel w (SW w) [] [] := by
 refine ⟨rfl,?_,fun i x o hx=>by simp at hx,fun i x o hx=>by simp at hx,fun i i' x x' o o' b hx=>by simp at hx,fun i x o b hx=>by simp at hx⟩
 rintro b j d ⟨n,hn⟩
 cases n with
 |zero=>exact hn.elim
 |succ n =>
  obtain ⟨u,h1,h2,h3⟩ := hn
  exact ⟨u,h1,h2,h3.ext (zCZ fun _ _ _ q=>⟨n,q⟩)⟩
def isA : AV → Bool|.agg _=>true|_=>false
def zD6 (P : Program) (t : TypeId) : Bool := match P.underlying t with|some (.struct _)|some (.array _ _)=>true|_=>false
def zEI (F : TypeId → List AV → Prop) : List Field → List AV → Prop
 |[],ds=>ds = []
 |f :: fs,ds=>∃ a b,ds = a ++ b ∧ F f.type a ∧ zEI F fs b
def ofT (P : Program) : Nat → TypeId → List AV → Prop
 |0,_,_=>False
 |n + 1,t,ds=>match P.underlying t with
  |some .bool=>∃ b,ds = [V (.bool b)]
  |some (.int k)=>∃ i,ds = [V (.int k i)] ∧ k.min ≤ i ∧ i ≤ k.max
  |some .string=>∃ s : List UInt8,ds = [V (.string ⟨s.toArray⟩)] ∧ s.length ≤ maxLen
  |some (.slice e)=>∃ es,ds = [SL es] ∧ es.length ≤ maxLen ∧ ∀ x ∈ es,ofT P n e (cellsOf x) ∧ isA x = zD6 P e
  |some (.struct fs)=>zEI (ofT P n) fs.toList ds
  |some (.array k e)=>∃ ps : List (List AV),ps.length = k ∧ ds = ps.flatten ∧ ∀ p ∈ ps,ofT P n e p
  |_=>False
def zxc (P : Program) : Nat → List Field → Nat → Bool
 |o,[],tot=>o == tot
 |o,f :: fs,tot=>f.offset == o && zxc P (o + P.cellsOf f.type) fs tot
def zbh (P : Program) : Nat → TypeId → Bool
 |0,_=>false
 |n + 1,t=>match P.underlying t with
  |some .bool|some (.int _)|some .string=>true
  |some (.slice e)=>zbh P n e && decide (0 < P.cellsOf e)
  |some (.struct fs)=>zxc P 0 fs.toList (P.cellsOf t) && fs.toList.all fun f=>zbh P n f.type
  |some (.array k e)=>zbh P n e && k * P.cellsOf e == P.cellsOf t
  |_=>false
theorem zlo {S : SS} {μ : List Value} {a b : List AV} {u v : List Value} (h : reps S μ a u) (k : reps S μ b v) : reps S μ (a ++ b) (u ++ v) := by
 refine ⟨by rw [List.length_append,List.length_append,h.1,k.1],fun j d x hd hx=>?_⟩
 by_cases hj : j < a.length
 ·rw [List.getElem?_append_left hj] at hd
  rw [List.getElem?_append_left (by rw [h.1];exact hj)] at hx
  exact h.2 j d x hd hx
 ·rw [List.getElem?_append_right (by omega)] at hd
  rw [List.getElem?_append_right (by rw [h.1];omega),h.1] at hx
  exact k.2 _ d x hd hx
theorem zc4 {S : SS} {μ : List Value} {d : AV} {u : Value} (h : u.oneCell' = true) (k : rep1 S μ d u) : reps S μ [d] [u] := by
 refine ⟨rfl,fun j x y hx hy=>?_⟩
 cases j with
 |zero=>simp at hx hy;subst hx hy;exact ⟨h,k⟩
 |succ j=>simp at hx
theorem zmu {S : SS} {μ : List Value} : reps S μ [] [] := ⟨rfl,fun j x y hx=>by simp at hx⟩
theorem zpx {P : Program} {n : Nat} {t : TypeId} {ds : List AV} (h : ofT P n t ds) (ha : zD6 P t = false) : ∃ d,ds = [d] ∧ isA d = false := by
 cases n with
 |zero=>exact h.elim
 |succ n =>
  unfold ofT at h
  unfold zD6 at ha
  split at h
  ·obtain ⟨b,rfl⟩ := h;exact ⟨_,rfl,rfl⟩
  ·obtain ⟨b,rfl,_⟩ := h;exact ⟨_,rfl,rfl⟩
  ·obtain ⟨b,rfl,_⟩ := h;exact ⟨_,rfl,rfl⟩
  ·obtain ⟨b,rfl,_⟩ := h;exact ⟨_,rfl,rfl⟩
  ·rename_i h2;rw [h2] at ha;simp at ha
  ·rename_i h2;rw [h2] at ha;simp at ha
  ·exact h.elim
def mkA (P : Program) (t : TypeId) (ds : List AV) : AV := if zD6 P t then .agg ds else ds.headD .nil
theorem zi5 {P : Program} {n : Nat} {t : TypeId} {ds : List AV} (h : ofT P n t ds) : cellsOf (mkA P t ds) = ds ∧ isA (mkA P t ds) = zD6 P t := by
 unfold mkA
 cases ha : zD6 P t with
 |true=>exact ⟨rfl,rfl⟩
 |false =>
  obtain ⟨d,rfl,hd⟩ := zpx h ha
  refine ⟨?_,by simpa using hd⟩
  simp only [Bool.false_eq_true,if_false,List.headD]
  cases d <;> first|rfl|(simp [isA] at hd)
theorem zmk {P : Program} {n : Nat} {t : TypeId} {ds : List AV} (hu : P.underlying t = some .string) (h : ofT P n t ds) : ∃ s : List UInt8,ds = [V (.string ⟨s.toArray⟩)] ∧ s.length ≤ maxLen := by
 cases n with
 |zero=>exact h.elim
 |succ n=>unfold ofT at h;rw [hu] at h;exact h
theorem zw8 {P : Program} {n : Nat} {t : TypeId} {ds : List AV} {k : IntKind} (hu : P.underlying t = some (.int k)) (h : ofT P n t ds) : ∃ i,ds = [V (.int k i)] ∧ k.min ≤ i ∧ i ≤ k.max := by
 cases n with
 |zero=>exact h.elim
 |succ n=>unfold ofT at h;rw [hu] at h;exact h
theorem zbj {P : Program} {n : Nat} {t : TypeId} {ds : List AV} (hu : P.underlying t = some (.int .i64)) (h : ofT P n t ds) : ∃ i,ds = [V (.int .i64 i)] ∧ -9223372036854775808 ≤ i ∧ i < 9223372036854775808 := by
 obtain ⟨i,rfl,h1,h2⟩ := zw8 hu h
 simp [IntKind.min,IntKind.max,IntKind.signed,IntKind.bits] at h1 h2
 exact ⟨i,rfl,h1,by omega⟩
theorem zhK {P : Program} {n : Nat} {t e : TypeId} {ds : List AV} (hu : P.underlying t = some (.slice e)) (h : ofT P n t ds) : ∃ (m : Nat) (es : List AV),ds = [SL es] ∧ es.length ≤ maxLen ∧ ∀ x ∈ es,ofT P m e (cellsOf x) ∧ isA x = zD6 P e := by
 cases n with
 |zero=>exact h.elim
 |succ n=>unfold ofT at h;rw [hu] at h;exact ⟨n,h⟩
theorem z6s {P : Program} {n : Nat} {t : TypeId} {fs : Array Field} {ds : List AV} (hu : P.underlying t = some (.struct fs)) (h : ofT P n t ds) : ∃ m,zEI (ofT P m) fs.toList ds := by
 cases n with
 |zero=>exact h.elim
 |succ n=>unfold ofT at h;rw [hu] at h;exact ⟨n,h⟩
theorem zi4 {P : Program} {n k : Nat} {t e : TypeId} {ds : List AV} (hu : P.underlying t = some (.array k e)) (h : ofT P n t ds) : ∃ (m : Nat) (ps : List (List AV)),ps.length = k ∧ ds = ps.flatten ∧ ∀ p ∈ ps,ofT P m e p := by
 cases n with
 |zero=>exact h.elim
 |succ n=>unfold ofT at h;rw [hu] at h;exact ⟨n,h⟩
theorem zfg {α β : Type} {f : β → α} {Q : β → Prop} : ∀ {l : List α},(∀ x ∈ l,∃ y,x = f y ∧ Q y) → ∃ k : List β,l = k.map f ∧ ∀ y ∈ k,Q y
 |[],_=>⟨[],rfl,fun y hy=>by simp at hy⟩
 |x :: r,h=>by
  obtain ⟨y,rfl,hy⟩ := h _ (List.mem_cons_self ..)
  obtain ⟨k,rfl,hk⟩ := zfg fun z hz=>h z (List.mem_cons_of_mem _ hz)
  exact ⟨y :: k,rfl,fun z hz=>by
   rcases List.mem_cons.1 hz with rfl|hz
   ·exact hy
   ·exact hk z hz⟩
theorem zhL {x : AV} (ha : isA x = true) : x = .agg (cellsOf x) := by
 cases x <;> simp_all [cellsOf,isA]
def Arg (P : Program) (w : World) (t : TypeId) (v : Value) : Prop := ∃ n ds,ofT P n t ds ∧ rep (SW w) [] (mkA P t ds) v
section
variable {H : Type} {enc : TypeId × Value → H} {P : Program} {w : World} {sp : Nat → Bool} {held : Bool}
theorem zd8 {m n : Nat} {cs : List Value} (ih : ∀ (t : TypeId) (us : List Value) (x : DataW H × List MemPlace),zbh P n t = true → DataW.trod enc P w 0 sp held m t us = some x → ∃ ds,ofT P n t ds ∧ reps (SWn w m) [] ds us) :
  ∀ (fs : List Field) (o : Nat),zxc P o fs cs.length = true → (∀ f ∈ fs,zbh P n f.type = true ∧ ∃ y,DataW.trod enc P w 0 sp held m f.type ((cs.drop f.offset).take (P.cellsOf f.type)) = some y) →
   ∃ ds,zEI (ofT P n) fs ds ∧ reps (SWn w m) [] ds (cs.drop o)
 |[],o,ht,_=>by
  simp only [zxc,beq_iff_eq] at ht
  exact ⟨[],rfl,by rw [ht,List.drop_length];exact zmu⟩
 |f :: fs,o,ht,hf=>by
  simp only [zxc,Bool.and_eq_true,beq_iff_eq] at ht
  obtain ⟨h1,y,hy⟩ := hf f (List.mem_cons_self ..)
  rw [ht.1] at hy
  obtain ⟨a,ha,hra⟩ := ih _ _ _ h1 hy
  obtain ⟨b,hb,hrb⟩ := zd8 ih fs _ ht.2 fun g hg=>hf g (List.mem_cons_of_mem _ hg)
  refine ⟨a ++ b,⟨a,b,rfl,ha,hb⟩,?_⟩
  have := zlo hra hrb
  rwa [← List.drop_drop,List.take_append_drop] at this
theorem zf9 {m n k z : Nat} {e : TypeId} {cs : List Value} (hz : k * z = cs.length) (ih : ∀ (us : List Value) (x : DataW H × List MemPlace),DataW.trod enc P w 0 sp held m e us = some x → ∃ ds,ofT P n e ds ∧ reps (SWn w m) [] ds us)
  (he : ∀ i,i < k → ∃ y,DataW.trod enc P w 0 sp held m e ((cs.drop (i * z)).take z) = some y) :
  ∀ (r i : Nat),i + r = k → ∃ ps : List (List AV),ps.length = r ∧ (∀ p ∈ ps,ofT P n e p) ∧ reps (SWn w m) [] ps.flatten (cs.drop (i * z))
 |0,i,hi=>by
  have : i = k := by omega
  subst this
  exact ⟨[],rfl,fun p hp=>by simp at hp,by rw [hz,List.drop_length];exact zmu⟩
 |r + 1,i,hi=>by
  obtain ⟨y,hy⟩ := he i (by omega)
  obtain ⟨a,ha,hra⟩ := ih _ _ hy
  obtain ⟨ps,hl,hp,hr⟩ := zf9 hz ih he r (i + 1) (by omega)
  refine ⟨a :: ps,by simp [hl],fun p hq=>?_,?_⟩
  ·rcases List.mem_cons.1 hq with rfl|hq
   ·exact ha
   ·exact hp p hq
  ·have := zlo hra hr
   rw [show (i + 1) * z = i * z + z by rw [Nat.add_mul,Nat.one_mul],← List.drop_drop,List.take_append_drop] at this
   exact this
theorem zma : ∀ (m n : Nat) (t : TypeId) (cs : List Value) (x : DataW H × List MemPlace),zbh P n t = true → DataW.trod enc P w 0 sp held m t cs = some x → ∃ ds,ofT P n t ds ∧ reps (SWn w m) [] ds cs := by
 intro m
 induction m with
 |zero=>intro n t cs x _ h;simp [DataW.trod] at h
 |succ m ih =>
  intro n t cs x hp h
  cases n with
  |zero=>simp [zbh] at hp
  |succ n =>
   have lift : ∀ {ds us},reps (SWn w m) [] ds us → reps (SWn w (m + 1)) [] ds us := fun q=>q.ext (zCZ SWn.succ)
   unfold zbh at hp
   unfold ofT
   split at hp
   ·rename_i hu
    obtain ⟨b,rfl,_⟩ := DataW.trod_bool hu h
    exact ⟨_,⟨b,rfl⟩,zc4 rfl ⟨rfl,rfl⟩⟩
   ·rename_i k hu
    obtain ⟨b,rfl,_,hw⟩ := DataW.trod_int hu h
    simp only [Lit.wf,Bool.and_eq_true,decide_eq_true_eq] at hw
    exact ⟨_,⟨b,rfl,hw.1,hw.2⟩,zc4 rfl ⟨rfl,rfl⟩⟩
   ·rename_i hu
    obtain ⟨s,rfl,_,hs⟩ := DataW.trod_string hu h
    refine ⟨_,⟨s.data.toList,rfl,?_⟩,zc4 rfl ⟨rfl,rfl⟩⟩
    have e : s.data.toList.length = s.size := by rw [Array.length_toList];rfl
    rw [e];exact hs
   ·rename_i e hu
    simp only [Bool.and_eq_true,decide_eq_true_eq] at hp
    rcases DataW.trod_slice hu h with ⟨rfl,_⟩|⟨a,len,cap,elems,rest,m',hm,rfl,_,hb,hl,hc,hel,hen,_⟩
    ·exact ⟨[SL []],⟨[],rfl,Nat.zero_le _,fun x hx=>by simp at hx⟩,zc4 rfl ⟨none,0,rfl,Nat.le_refl _,Nat.zero_le _,fun q=>absurd rfl q⟩⟩
    ·obtain rfl : m = m' := by omega
     have hch : ∀ i,i < len → ∃ z : List AV × List Value,ofT P n e z.1 ∧ reps (SWn w m) [] z.1 z.2 ∧ w.cells? 0 (a.add (i * P.cellsOf e)) (P.cellsOf e) = some z.2 := by
      intro i hi
      have h1 := hen i hi
      rw [List.getElem?_eq_getElem (by omega)] at h1
      obtain ⟨us,h2,h3⟩ := Option.bind_eq_some_iff.1 h1
      obtain ⟨ds,h4,h5⟩ := ih n e us _ hp.1 h3
      exact ⟨(ds,us),h4,h5,h2⟩
     obtain ⟨g,hg⟩ := Deep.choose_lt hch
     let es : List AV := (List.range len).map fun i=>mkA P e (g i).1
     have hlen : es.length = len := by simp [es]
     have hget : ∀ (i : Nat) (d : AV),es[i]? = some d → i < len ∧ d = mkA P e (g i).1 := by
      intro i d hd
      have hi : i < len := by have := (List.getElem?_eq_some_iff.1 hd).1;omega
      simp only [es,List.getElem?_map,List.getElem?_range hi,Option.map_some,Option.some.injEq] at hd
      exact ⟨hi,hd.symm⟩
     refine ⟨[SL es],⟨es,rfl,by omega,fun x hx=>?_⟩,zc4 rfl ⟨some a,cap,by rw [hlen],by omega,hc,fun hn=>?_⟩⟩
     ·obtain ⟨i,hi⟩ := List.getElem?_of_mem hx
      obtain ⟨hi',rfl⟩ := hget i x hi
      replace hi := hi'
      obtain ⟨q1,q2⟩ := zi5 (hg i hi).1
      rw [q1,q2]
      exact ⟨(hg i hi).1,rfl⟩
     ·have h0 : 0 < len := by
       rcases Nat.eq_zero_or_pos len with q|q
       ·exact absurd (List.eq_nil_of_length_eq_zero (by omega)) hn
       ·exact q
      have hcell : ∀ i,i < len → ∀ j,j < P.cellsOf e → w.cell? ((a.add (i * P.cellsOf e)).add j) = (g i).2[j]? := fun i hi=>(World.cells?_some (hg i hi).2.2).2.2
      have hlen2 : ∀ i,i < len → (g i).2.length = P.cellsOf e := fun i hi=>(World.cells?_some (hg i hi).2.2).2.1
      obtain ⟨b,off,spot⟩ := a
      have hspot : spot = none := by
       have := hcell 0 h0 0 hp.2
       rw [List.getElem?_eq_getElem (by rw [hlen2 0 h0];exact hp.2)] at this
       simpa [Addr.add] using World.cell?_spot this
      subst hspot
      have hadd : ∀ o j,(⟨b,o,none⟩ : Addr).add j = ⟨b,o + j,none⟩ := fun o j=>by unfold Addr.add;split <;> simp_all
      refine ⟨b,off,P.cellsOf e,rfl,fun i d hd=>?_⟩
      obtain ⟨hi,rfl⟩ := hget i d hd
      obtain ⟨h1,h2,h3⟩ := hg i hi
      rw [(zi5 h1).1]
      refine ⟨by rw [← h2.1];exact hlen2 i hi,fun j y hy=>?_⟩
      have hj : j < P.cellsOf e := by
       have := (List.getElem?_eq_some_iff.1 hy).1
       rw [← h2.1,hlen2 i hi] at this
       exact this
      have h4 := hcell i hi j hj
      rw [hadd,hadd,List.getElem?_eq_getElem (by rw [hlen2 i hi];exact hj)] at h4
      obtain ⟨h5,h6⟩ := h2.2 j y _ hy (List.getElem?_eq_getElem (by rw [hlen2 i hi];exact hj))
      exact ⟨_,h4,h5,h6⟩
   ·rename_i fs hu
    simp only [Bool.and_eq_true,List.all_eq_true] at hp
    obtain ⟨xs,m',hm,_,hcl,hxl,hx⟩ := DataW.trod_struct hu h
    obtain rfl : m = m' := by omega
    obtain ⟨ds,h1,h2⟩ := zd8 (w := w) (sp := sp) (held := held) (enc := enc) (m := m) (n := n) (cs := cs) (fun t us x=>ih n t us x) fs.toList 0 (by rw [hcl];exact hp.1) fun f hf=>⟨hp.2 f hf,by
     obtain ⟨i,hi⟩ := List.getElem?_of_mem hf
     rw [Array.getElem?_toList] at hi
     have := hx i f hi
     have hi' : i < xs.length := by rw [hxl];exact (Array.getElem?_eq_some_iff.1 hi).1
     rw [List.getElem?_eq_getElem hi'] at this
     exact ⟨_,this⟩⟩
    exact ⟨ds,h1,lift h2⟩
   ·rename_i k e hu
    simp only [Bool.and_eq_true,beq_iff_eq] at hp
    obtain ⟨xs,m',hm,_,hcl,hxl,hx⟩ := DataW.trod_array hu h
    obtain rfl : m = m' := by omega
    obtain ⟨ps,h1,h2,h3⟩ := zf9 (w := w) (sp := sp) (held := held) (enc := enc) (m := m) (n := n) (cs := cs) (z := P.cellsOf e) (k := k) (by rw [hcl];exact hp.2) (fun us x=>ih n e us x hp.1) (fun i hi=>by
     have := hx i hi
     rw [List.getElem?_eq_getElem (by omega)] at this
     exact ⟨_,this⟩) k 0 (by omega)
    rw [Nat.zero_mul] at h3
    exact ⟨_,⟨ps,h1,rfl,h2⟩,lift h3⟩
   ·cases hp
theorem open_any {r : Reach} {b0 : Nat} {t : TypeId} {v : Value} {d : DataW H} {p : List MemPlace} (n : Nat) (hp : zbh P n t = true)
  (hval : Value.okWide P w r b0 t v) (h : DataW.Trod enc P w 0 sp held t v d p) : Arg P w t v := by
 obtain ⟨m,hm⟩ := h
 obtain ⟨ds,h1,h2⟩ := zma m n t _ _ hp hm
 have h2 : reps (SW w) [] ds v.cells.toList := h2.ext (zCZ fun _ _ _ q=>⟨m,q⟩)
 refine ⟨n,ds,h1,?_⟩
 unfold mkA
 cases ha : zD6 P t with
 |true =>
  have : ∃ cs,v = .agg cs := by
   unfold zD6 at ha
   unfold Value.okWide at hval
   split at ha
   ·rename_i hu;rw [hu] at hval;obtain ⟨cs,rfl,_⟩ := hval;exact ⟨cs,rfl⟩
   ·rename_i hu;rw [hu] at hval;obtain ⟨cs,rfl,_⟩ := hval;exact ⟨cs,rfl⟩
   ·cases ha
  obtain ⟨cs,rfl⟩ := this
  exact ⟨cs.toList,rfl,h2⟩
 |false =>
  obtain ⟨d,rfl,hd⟩ := zpx h1 ha
  have hv : v.cells = #[v] := by
   cases n with
   |zero=>simp [zbh] at hp
   |succ n =>
    unfold zbh at hp
    unfold zD6 at ha
    split at hp
    ·rename_i hu;obtain ⟨_,rfl⟩ := okWide_bool hu hval;rfl
    ·rename_i hu;obtain ⟨_,rfl⟩ := okWide_int hu hval;rfl
    ·rename_i hu;obtain ⟨_,rfl⟩ := okWide_string hu hval;rfl
    ·rename_i hu;obtain ⟨_,_,_,rfl⟩ := okWide_slice hu hval;rfl
    ·rename_i hu;rw [hu] at ha;cases ha
    ·rename_i hu;rw [hu] at ha;cases ha
    ·cases hp
  rw [hv] at h2
  have h3 := (h2.2 0 d v rfl rfl).2
  simp only [Bool.false_eq_true,if_false,List.headD]
  unfold rep
  split
  ·simp [rep1] at h3
  ·unfold repA
   split
   ·simp [isA] at hd
   ·exact h3
end
theorem zno {P : Program} {G : Gl} {f : FuncId} {ds : List AV} {b : Bool} (h : ACp P G f ds (V (.bool b))) {w : World} (hG : GOk G (SW w)) {vs : List Value} (hl : vs.length = ds.length)
  (hv : ∀ (j : Nat) (d : AV) (v : Value),ds[j]? = some d → vs[j]? = some v → rep (SW w) [] d v) : Calls P f vs.toArray w fun e w'=>e = .returned (.bool b) ∧ Below w.heap.size w w' := by
 refine (h.2 w (SW w) [] vs (zAf w) hG hl hv).mono ?_
 rintro e w' ⟨v,r,H',S',μ',rfl,⟨rfl,rfl⟩,_,hr,hs⟩
 refine ⟨?_,hs.os,hs.tape,hs.output,hs.size,fun k hk=>hs.block k hk fun ⟨i,x,o,hx,_⟩=>by simp at hx⟩
 have : v = .bool b := hr.1
 rw [this]
end Go.Proofs.YtaplemeamcgpkaaDoor

namespace Go.Proofs.YtaplemeamcgpkaaDoor
open Go.RowKit
theorem z43 {α : Type} {f : α → List Value} {s : Nat} (hf : ∀ x,(f x).length = s) : ∀ l : List α,(l.flatMap f).length = l.length * s
 |[]=>by simp
 |x :: l=>by rw [List.flatMap_cons,List.length_append,hf,z43 hf l,List.length_cons,Nat.succ_mul];omega
theorem zdV {α : Type} {f : α → List Value} {s : Nat} (hf : ∀ x,(f x).length = s) : ∀ (l : List α) (i : Nat) (h : i < l.length) (j : Nat),j < s → (l.flatMap f)[i * s + j]? = (f l[i])[j]?
 |[],i,h,_,_=>by simp at h
 |x :: l,0,_,j,hj=>by rw [List.flatMap_cons,Nat.zero_mul,Nat.zero_add,List.getElem?_append_left (by rw [hf];exact hj)];rfl
 |x :: l,i + 1,h,j,hj=>by
  have hx := hf x
  rw [List.flatMap_cons,List.getElem?_append_right (by rw [hx,Nat.succ_mul];omega),hx]
  rw [show (i + 1) * s + j - s = i * s + j from by rw [Nat.succ_mul];omega]
  rw [zdV hf l i (by simpa using h) j hj]
  rfl
theorem zhH {α : Type} {f : α → List Value} {s : Nat} (hf : ∀ x,(f x).length = s) (l : List α) (k : Nat) : (l.take k).flatMap f = (l.flatMap f).take (k * s) := by
 induction l generalizing k with
 |nil=>simp
 |cons x l ih =>
  cases k with
  |zero=>simp
  |succ k=>rw [List.take_succ_cons,List.flatMap_cons,List.flatMap_cons,ih,List.take_append,hf,Nat.succ_mul,List.take_of_length_le (l := f x) (by rw [hf];omega),Nat.add_sub_cancel]
theorem znH {α : Type} {f : α → List Value} {s : Nat} (hf : ∀ x,(f x).length = s) (l : List α) (k : Nat) : (l.drop k).flatMap f = (l.flatMap f).drop (k * s) := by
 induction l generalizing k with
 |nil=>simp
 |cons x l ih =>
  cases k with
  |zero=>simp
  |succ k=>rw [List.drop_succ_cons,List.flatMap_cons,ih,List.drop_append,hf,Nat.succ_mul,List.drop_of_length_le (l := f x) (by rw [hf];omega),Nat.add_sub_cancel,List.nil_append]
theorem z5K {P : Program} {t e : TypeId} {size : Nat} (ht : P.underlying t = some (.slice e)) (hs : (P.info? e).map (·.size) = some size) (b off n c k : Nat) (hk : k < n) (i : Int) (hi : i = k) (w : World) :
  (Instr.indexAt t (.slice (some ⟨b,off,none⟩) n c) (.int .i64 i)).run P w = .ok (.pointer (some ⟨b,off + k * size,none⟩)) w := by
 subst hi
 have he : P.elem t = e := by simp [Program.elem,ht]
 have hz : (sizeOf e).run P w = .ok size w := by
  cases hi : P.info? e with
  |none=>rw [hi] at hs;cases hs
  |some i=>rw [hi] at hs;injection hs with hs;subst hs;simp [sizeOf,typeInfo,hi]
 rw [run_indexAt_slice w t _ n c .i64 k (by rw [he];exact ht),if_pos ⟨by omega,by omega⟩,he,hz]
 simp only [Result.andThen_ok,Int.toNat_natCast]
 unfold Addr.add
 split
 ·rename_i h;rw [h];rfl
 ·rfl
theorem zlM {P : Program} {t e : TypeId} {size : Nat} (ht : P.underlying t = some (.slice e)) (hs : (P.info? e).map (·.size) = some size) (A : Option Addr) (n c hi : Nat) (h2 : hi ≤ c) (i : Int) (hi' : i = hi) (w : World) :
  (Instr.slice t (.slice A n c) none (some (.int .i64 i)) none).run P w = .ok (.slice A hi c) w := by
 subst hi'
 have he : P.elem t = e := by simp [Program.elem,ht]
 have hz : (sizeOf e).run P w = .ok size w := by
  cases hi : P.info? e with
  |none=>rw [hi] at hs;cases hs
  |some i=>rw [hi] at hs;injection hs with hs;subst hs;simp [sizeOf,typeInfo,hi]
 rw [run_slice_h w t A n c (by rw [he];exact ht) .i64 hi (by omega) (by omega),he,hz]
 simp [sliced]
 cases A with
 |none=>simp
 |some a=>simp [Addr.add]
def Fs {α : Type} (f : α → List Value) (s : Nat) (w : World) (A : Option Addr) (l : List α) : Prop := Rd w A s l.length (l.flatMap f)
section
variable {α : Type} {f : α → List Value} {s : Nat} {w w' : World} {A : Option Addr} {l : List α}
theorem Fs.below (h : Fs f s w A l) (hb : Below w.heap.size w w') : Fs f s w' A l := Rd.below h hb
theorem Fs.drewN (h : Fs f s w A l) (k : Nat) : Fs f s (w.drewN k) A l := h
theorem Fs.alloc (h : Fs f s w A l) (o : Obj) : Fs f s (w.alloc o) A l := Rd.alloc h o
theorem Fs.empty (w : World) (A : Option Addr) : Fs f s w A [] := Rd.empty _ _ _
theorem Fs.cell (h : Fs f s w A l) (hf : ∀ x,(f x).length = s) (hn : 0 < l.length) : ∃ b off,A = some ⟨b,off,none⟩ ∧ b < w.heap.size ∧ ∀ i (hi : i < l.length) j u,j < s → (f l[i])[j]? = some u → w.cell? ⟨b,off + i * s + j,none⟩ = some u := by
 obtain ⟨b,off,e,hb,hc⟩ := h.2 hn
 refine ⟨b,off,e,hb,fun i hi j u hj hu=>?_⟩
 rw [Nat.add_assoc]
 exact hc (i * s + j) u (by rw [zdV hf l i hi j hj];exact hu)
theorem Fs.cutA (h : Fs f s w A l) (hf : ∀ x,(f x).length = s) {lo n c : Nat} (h2 : lo + n ≤ l.length) (hc : l.length ≤ c) : Fs f s w (cutA A c lo s) ((l.drop lo).take n) := by
 have := Rd.cutA h (lo := lo) (hi := lo + n) (by omega) h2 hc
 unfold Fs
 rw [show lo + n - lo = n from by omega] at this
 rw [zhH hf,znH hf,show ((l.drop lo).take n).length = n from by simp;omega]
 exact this
theorem Fs.cutL (h : Fs f s w A l) (hf : ∀ x,(f x).length = s) {lo c : Nat} (h2 : lo ≤ l.length) (hc : l.length ≤ c) : Fs f s w (_root_.Go.Proofs.YtaplemeamcgpkaaDoor.cutA A c lo s) (l.drop lo) := by
 have := h.cutA hf (lo := lo) (n := l.length - lo) (c := c) (by omega) hc
 rwa [List.take_of_length_le (by simp)] at this
theorem Fs.take (h : Fs f s w A l) (hf : ∀ x,(f x).length = s) (k : Nat) : Fs f s w A (l.take k) := by
 unfold Fs
 rw [zhH hf]
 by_cases hk : k ≤ l.length
 ·rw [List.length_take,Nat.min_eq_left hk];exact Rd.less h hk
 ·rw [List.length_take,Nat.min_eq_right (by omega),List.take_of_length_le (by rw [z43 hf];exact Nat.mul_le_mul_right _ (by omega))];exact h
theorem Fs.of_own {base : Nat} {e : TypeId} {n c : Nat} (hn : n = l.length) (h : w.ownsRow base e s (.slice A n c) n (l.flatMap f)) : Fs f s w A l := by subst hn;exact Rd.of_own h
end
def zCm {α : Type} (f : α → List Value) (s : Nat) (t : TypeId) (w : World) (l : List α) (e : Ending) (w' : World) : Prop :=
 ∃ A cap,e = .returned (.slice A l.length cap) ∧ w'.ownsRow w.heap.size t s (.slice A l.length cap) l.length (l.flatMap f) ∧ Below w.heap.size w w'
end Go.Proofs.YtaplemeamcgpkaaDoor

namespace Go.Proofs.YtaplemeamcgpkaaDoor
open Go.RowKit
section
variable {P : Program} {G : Gl}
theorem acp_of {f : FuncId} {args : List AV} {X : AV} (hc : z5e    P f = true)
    (h : ∀ w S (vs : List Value), Rel w S [] [] → GOk G S → vs.length = args.length → (∀ (j : Nat) (d : AV) (v : Value), args[j]? = some d → vs[j]? = some v → rep S [] d v) →
      Calls P f vs.toArray w fun e w' => ∃ v, e = .returned v ∧ Below w.heap.size w w' ∧ ∃ N : SS, (∀ b j d, N b j d → w.heap.size ≤ b ∧ ∃ u, w'.cell? ⟨b, j, none⟩ = some u ∧ d = V u ∧ u.oneCell' = true) ∧ rep (fun b j d => S b j d ∨ N b j d) [] X v) : ACp P G f args X := by
  refine ⟨hc, fun w S μ vs hr hg hl hv => ?_⟩
  have hμ : μ = [] := List.eq_nil_of_length_eq_zero hr.len
  subst hμ
  refine (h w S vs hr hg hl hv).mono ?_
  rintro e w' ⟨v, rfl, hb, N, hN, hrep⟩
  obtain ⟨h1, h2⟩ := hr.grow (S' := fun b j d => S b j d ∨ N b j d) hb (fun _ _ _ q => .inl q) (fun b j d q => q.imp id fun k => (hN b j d k).1) (fun b j d q hb' => by
    rcases q with q | q
    · have := hr.still_lt q; omega
    · obtain ⟨_, u, h3, rfl, h4⟩ := hN b j d q
      exact ⟨u, h3, h4, rfl, h4⟩)
  exact ⟨v, X, [], _, [], rfl, ⟨rfl, rfl⟩, h1, hrep, h2⟩
theorem acp_of_tells {f : FuncId} {args : List AV} {X : AV} (hc : z5e    P f = true)
    (h : ∀ w S (vs : List Value), Rel w S [] [] → GOk G S → vs.length = args.length → (∀ (j : Nat) (d : AV) (v : Value), args[j]? = some d → vs[j]? = some v → rep S [] d v) →
      Calls P f vs.toArray w fun e w' => ∃ v, e = .returned v ∧ Below w.heap.size w w' ∧ rep S [] X v) : ACp P G f args X :=
  acp_of hc fun w S vs hr hg hl hv => (h w S vs hr hg hl hv).mono fun e w' ⟨v, he, hb, k⟩ => ⟨v, he, hb, fun _ _ _ => False, fun _ _ _ q => q.elim, k.ext ⟨fun _ _ _ q => .inl q, fun i x hx => ⟨x, hx, .inl rfl⟩⟩⟩
end
section
variable {α : Type} {f : α → List Value} {s : Nat} {w w' : World} {S : SS} {A : Option Addr} {l : List α}
def flA (f : α → List Value) (x : α) : AV := .agg ((f x).map fun u=>V u)
theorem zpC (hf : ∀ x,(f x).length = s) (hs : 0 < s) (hr : Rel w S [] []) {v : Value} (h : rep S [] (SL (l.map (flA f))) v) : ∃ A c,v = .slice A l.length c ∧ l.length ≤ c ∧ c ≤ maxLen ∧ Fs f s w A l := by
 obtain ⟨A,c,rfl,h1,h2,h3⟩ := h
 rw [List.length_map] at h1 ⊢
 refine ⟨A,c,rfl,h1,h2,z43 hf l,fun hn=>?_⟩
 obtain ⟨b,o,z,rfl,hin⟩ := h3 (by intro e;have := congrArg List.length e;simp at this;simp [this] at hn)
 have hz : z = s := by
  have hh : (l.map (flA f))[0]? = some (flA f l[0]) := by simp [List.getElem?_eq_getElem hn]
  have := (hin 0 _ hh).1
  simp [flA,cellsOf,hf] at this
  exact this.symm
 subst hz
 have hcell : ∀ j u,(l.flatMap f)[j]? = some u → S b (o + j) (V u) := by
  intro j u hj
  have hz0 : 0 < z := by
   rcases Nat.eq_zero_or_pos z with h0|h0
   ·have := z43 hf l
    rw [h0,Nat.mul_zero] at this
    rw [List.eq_nil_of_length_eq_zero this] at hj;simp at hj
   ·exact h0
  have hlt : j < l.length * z := by
   have := (List.getElem?_eq_some_iff.1 hj).1
   rwa [z43 hf l] at this
  have hd : j / z < l.length := Nat.div_lt_of_lt_mul (by rw [Nat.mul_comm];exact hlt)
  have hj2 : j = (j / z) * z + j % z := by rw [Nat.mul_comm];exact (Nat.div_add_mod j z).symm
  have hm := Nat.mod_lt j hz0
  rw [hj2,zdV hf l _ hd _ hm] at hj
  have := (hin (j / z) (flA f l[j / z]) (by simp [List.getElem?_eq_getElem hd])).2 (j % z) (V u) (by simp [flA,cellsOf,List.getElem?_map,hj])
  rw [Nat.add_assoc,← hj2] at this
  exact this
 have h0 : b < w.heap.size := by
  have hp : 0 < (l.flatMap f).length := by rw [z43 hf l];exact Nat.mul_pos hn hs
  exact hr.still_lt (hcell 0 _ (List.getElem?_eq_getElem hp))
 refine ⟨b,o,rfl,h0,fun j u hj=>?_⟩
 obtain ⟨u',h4,_,h5⟩ := hr.still _ _ _ (hcell j u hj)
 rw [h4,h5.1]
theorem zli (hf : ∀ x,(f x).length = s) (h1 : ∀ x,∀ u ∈ f x,u.oneCell' = true) {base : Nat} {t : TypeId} {cap : Nat} (h : w'.ownsRow base t s (.slice A l.length cap) l.length (l.flatMap f)) (S : SS) :
  ∃ N : SS,(∀ b j d,N b j d → base ≤ b ∧ ∃ u,w'.cell? ⟨b,j,none⟩ = some u ∧ d = V u ∧ u.oneCell' = true) ∧ rep1 (fun b j d=>S b j d ∨ N b j d) [] (SL (l.map (flA f))) (.slice A l.length cap) := by
 obtain ⟨A',c',e,hc1,hc2⟩ := ziN h
 injection e with e1 e2 e3
 subst e1 e3
 have hF : Fs f s w' A l := Fs.of_own rfl h
 by_cases hn : l = []
 ·subst hn
  exact ⟨fun _ _ _=>False,fun _ _ _ q=>q.elim,A,cap,by simp,by simp,hc2,fun q=>by simp at q⟩
 ·obtain ⟨b,off,rfl,hb,hcell⟩ := hF.2 (List.length_pos_iff.2 hn)
  have hbase : base ≤ b := by
   rcases h.2 with ⟨q,_⟩|⟨g,cap',cur,q,q2,_⟩
   ·cases q
   ·injection q with q3;injection q3 with q3;injection q3 with q3;omega
  refine ⟨fun b' j d=>b' = b ∧ ∃ u,w'.cell? ⟨b,j,none⟩ = some u ∧ d = V u ∧ u.oneCell' = true,fun b' j d q=>by obtain ⟨rfl,u,q1,q2,q3⟩ := q;exact ⟨hbase,u,q1,q2,q3⟩,
   some ⟨b,off,none⟩,cap,by simp,by simpa using hc1,hc2,fun _=>⟨b,off,s,rfl,fun i d hd=>?_⟩⟩
  rw [List.getElem?_map] at hd
  obtain ⟨x,hx,rfl⟩ := Option.map_eq_some_iff.1 hd
  obtain ⟨hi,rfl⟩ := List.getElem?_eq_some_iff.1 hx
  refine ⟨by simp [flA,cellsOf,hf],fun j y hy=>?_⟩
  simp only [flA,cellsOf,List.getElem?_map] at hy
  obtain ⟨u,hu,rfl⟩ := Option.map_eq_some_iff.1 hy
  have hj : j < s := by rw [← hf l[i]];exact (List.getElem?_eq_some_iff.1 hu).1
  refine .inr ⟨rfl,u,?_,rfl,h1 _ u (List.mem_of_getElem? hu)⟩
  rw [Nat.add_assoc]
  exact hcell (i * s + j) u (by rw [zdV hf l i hi j hj];exact hu)
theorem zzG {S : SS} {u v : Value} (h : rep S [] (V u) v) : v = u := h.1
theorem zyE {S : SS} {x : α} {v : Value} (h : rep S [] (flA f x) v) : v = .agg (f x).toArray := by
 obtain ⟨us,rfl,hr⟩ := h
 rw [z6L hr]
theorem znv {G : Gl} {g : Nat} {u1 u2 : Value} (hr : Rel w S [] []) (hg : GOk G S) (hm : (g,(.agg [V u1,V u2] : AV)) ∈ G) : g < w.heap.size ∧ w.cell? ⟨g,0,none⟩ = some u1 ∧ w.cell? ⟨g,1,none⟩ = some u2 := by
 have a1 := hg _ _ hm 0 (V u1) rfl
 have a2 := hg _ _ hm 1 (V u2) rfl
 obtain ⟨x1,b1,_,c1⟩ := hr.still _ _ _ a1
 obtain ⟨x2,b2,_,c2⟩ := hr.still _ _ _ a2
 exact ⟨hr.still_lt a1,by rw [b1,c1.1],by rw [b2,c2.1]⟩
end
end Go.Proofs.YtaplemeamcgpkaaDoor

namespace Go.Proofs.YtaplemeamcgpkaaDoor
open Go.RowKit
section
variable {P : Program} {G : Gl}
theorem zqE {w : World} {S : SS} {μ : List Value} {H : List AObj} {t : TypeId} {d : AV} {v : Value} {K : AV → Prop} (hrel : Rel w S μ H) (hx : rep S μ d v) (h : z67 (z0z P t) H d K) :
  ∃ (ad : Addr) (u : Value) (r : AV),v = .pointer (some ad) ∧ (loadVar t ad).run P w = .ok u w ∧ rep S μ r u ∧ K r := by
 unfold z67 at h
 split at h
 ·rename_i cs
  obtain ⟨hk,hK⟩ := h
  obtain ⟨b,off,he,hs⟩ := hx
  obtain ⟨us,hr,hc⟩ := z9C hrel (cs := cs) hs
  have hg := z9w (P := P) (t := t) w hk
  have hl := run_loadCells_list (P := P) w ⟨b,off,none⟩ us hc
  refine ⟨_, .agg us.toArray, .agg cs,he,?_,⟨us,rfl,hr.free⟩,hK⟩
  simp only [loadVar,Sem.run_bind,hg.1,hg.2,Result.andThen_ok,← hr.1,hl,if_true,Sem.run_pure]
 ·rename_i d hne
  obtain ⟨hk,hK⟩ := h
  obtain ⟨b,off,he,hs⟩ := hx
  rw [z6g hne] at hs
  obtain ⟨u,h1,h2,h3⟩ := hrel.still _ _ _ (hs 0 d rfl)
  refine ⟨_,u,_,he,?_,z2T ?_,hK⟩
  ·have := (z98 (P := P) (t := t) w hk).1
   simp only [loadVar,Sem.run_bind,this,Result.andThen_ok]
   simp only [Nat.add_zero] at h1
   simp [load,Sem.run,h1]
  ·unfold repA
   split
   ·exact absurd rfl (hne _)
   ·exact h3.free
 ·rename_i i off
  obtain ⟨ob,hob,h⟩ := h
  obtain ⟨l,hl,hK⟩ := zhU h
  obtain ⟨b,x',hμ,hp,he⟩ := hx
  obtain ⟨cs,us,hc,hr,hus⟩ := zua hrel hμ hob hp hl
  obtain ⟨d,u,hK',hru,hrun⟩ := zij hc hus hr hK rfl
  exact ⟨_,u,d,he,hrun,hru,hK'⟩
 ·exact h.elim
def zCE (P : Program) (H : List AObj) (T : Tm) : List ResultVar → (List AV → Prop) → Prop
 |[],K=>K []
 |.tmp t :: rs,K=>zCE P H T rs fun ds=>K (get T t :: ds)
 |.cell b t :: rs,K=>z67 (z0z P t) H (get T b) fun d=>zCE P H T rs fun ds=>K (d :: ds)
def z2s : List AV → AV
 |[d]=>d
 |ds=>TU (ds.map noT)
theorem zgv {w : World} {S : SS} {μ : List Value} {H : List AObj} {N : FS} {T : Tm} {a : Act} (hrel : Rel w S μ H) (hf : Fr S μ N T a) : ∀ (rs : List ResultVar) (K : List AV → Prop),zCE P H T rs K →
  ∃ (ds : List AV) (us : List Value),K ds ∧ us.length = ds.length ∧ (∀ (j : Nat) (d : AV) (u : Value),ds[j]? = some d → us[j]? = some u → rep S μ d u) ∧
   (rs.mapM fun r : ResultVar=>(match r with|.tmp t=>(pure (a.tmps.getD t undef) : Sem Value)|.cell b t=>(do loadVar t (← asAddr (a.tmps.getD b undef))))).run P w = .ok us w
 |[],K,h=>⟨[],[],h,rfl,fun j d u hd=>by simp at hd,by simp [List.mapM_nil,Sem.run_pure]⟩
 |.tmp t :: rs,K,h=>by
  obtain ⟨ds,us,h1,h2,h3,h4⟩ := zgv hrel hf rs _ h
  refine ⟨_,a.tmps.getD t undef :: us,h1,by simp [h2],fun j d u hd hu=>?_,?_⟩
  ·cases j with
   |zero=>simp only [List.getElem?_cons_zero,Option.some.injEq] at hd hu;subst hd hu;exact hf.slot t
   |succ j=>simp at hd hu;exact h3 j d u hd hu
  ·have := z7c
   rw [List.mapM_cons]
   simp only [Sem.run_bind,Sem.run_pure,Result.andThen_ok]
   erw [h4]
   rfl
 |.cell b t :: rs,K,h=>by
  obtain ⟨ad,u0,r,e,hl,hr,hk⟩ := zqE hrel (hf.slot b) h
  obtain ⟨ds,us,h1,h2,h3,h4⟩ := zgv hrel hf rs _ hk
  refine ⟨_,u0 :: us,h1,by simp [h2],fun j d u hd hu=>?_,?_⟩
  ·cases j with
   |zero=>simp at hd hu;subst hd hu;exact hr
   |succ j=>simp at hd hu;exact h3 j d u hd hu
  ·have := z7c
   rw [List.mapM_cons]
   simp only [Sem.run_bind,e,asAddr,Sem.run_pure,Result.andThen_ok,hl]
   erw [h4]
   rfl
theorem z4f {fn : Func} {rs : List ResultVar} (h : fn.results.toList = rs) {w : World} {S : SS} {μ : List Value} {H : List AObj} {N : FS} {T : Tm} {a : Act} (hrel : Rel w S μ H) (hf : Fr S μ N T a) {K : AV → Prop} (hK : zCE P H T rs fun ds=>K (z2s ds)) :
  ∃ v r,(results fn a.tmps).run P w = .ok v w ∧ rep S μ r v ∧ K r := by
 obtain ⟨ds,us,h1,h2,h3,h4⟩ := zgv (P := P) hrel hf rs _ hK
 have hr : (results fn a.tmps).run P w = .ok (if h : us.toArray.size = 1 then us.toArray[0] else .tuple us.toArray) w := by
  have := z7c
  have hm : (fn.results.mapM fun r : ResultVar=>(match r with|.tmp t=>(pure (a.tmps.getD t undef) : Sem Value)|.cell b t=>(do loadVar t (← asAddr (a.tmps.getD b undef))))).run P w = .ok us.toArray w := by
   rw [Array.mapM_eq_mapM_toList,h]
   simp only [map_eq_pure_bind,Sem.run_bind,Sem.run_pure]
   erw [h4]
   rfl
  unfold results
  simp only [Sem.run_bind]
  erw [hm]
  simp only [Result.andThen_ok,Sem.run_pure]
 refine ⟨_,_,hr,?_,h1⟩
 match us,ds,h2,h3 with
 |[u],[d],_,h3=>exact h3 0 d u rfl rfl
 |[],[],_,_=>exact ⟨[],rfl,rfl,fun j d u hd=>by simp at hd⟩
 |u :: u' :: r,d :: d' :: q,h2,h3 =>
  refine ⟨u :: u' :: r,by simp,by simpa using h2,fun j e x hd hu=>?_⟩
  rw [List.getElem?_map] at hd
  obtain ⟨e0,he0,rfl⟩ := Option.map_eq_some_iff.1 hd
  exact zsX (h3 j e0 x he0 hu)
def zDQ (P : Program) (rs : List ResultVar) (n : Nat) (R : AV → List AObj → Prop) : Exit → ASt → Prop
 |.normal,s=>zCE P s.H s.T rs fun ds=>∃ X H',(X = z2s ds ∨ X = ro s.H (z2s ds)) ∧ HLe s.H H' ∧ H'.all (ltO H'.length) = true ∧ n ≤ H'.length ∧ ltT H'.length X = true ∧ R X H'
 |.ret,s=>zCE P s.H s.T rs fun ds=>∃ X H',(X = z2s ds ∨ X = ro s.H (z2s ds)) ∧ HLe s.H H' ∧ H'.all (ltO H'.length) = true ∧ n ≤ H'.length ∧ ltT H'.length X = true ∧ R X H'
 |_,_=>False
theorem zaR {f : FuncId} {fn : Func} {c : Code} {args : List AV} {H : List AObj} {R : AV → List AObj → Prop} (hf : P.funcs[f]? = some fn) (hb : fn.body = some c) (hc : z5e P f = true) (rs : List ResultVar) (hrs : fn.results.toList = rs) (N : Nat) (hN : fn.ntmps = N) (hargs : args.length ≤ N)
  (h : AWp P G (F0 N) H.length c (zDQ P rs H.length R) ⟨H,z2t 0 args⟩) : AC P G f args H R := by
 subst hN
 refine ⟨hc,fun w S μ vs hr hg hl hv=>?_⟩
 refine calls_of_wp hf hb ?_
 have hfr : Fr S μ (F0 fn.ntmps) (z2t 0 args) { tmps := vs.toArray ++ Array.replicate (fn.ntmps - vs.toArray.size) undef,defers := [] } := by
  refine ⟨by simp;omega,rfl,fun i=>?_⟩
  rw [z8U]
  simp only [Nat.zero_le,if_true,Nat.sub_zero]
  cases hd : args[i]? with
  |none=>trivial
  |some d =>
   have hi : i < vs.length := by rw [hl];exact (List.getElem?_eq_some_iff.1 hd).1
   have := hv i d vs[i] hd (List.getElem?_eq_getElem hi)
   simp only [Option.getD_some]
   have e : (vs.toArray ++ Array.replicate (fn.ntmps - vs.toArray.size) undef).getD i undef = vs[i] := by
    rw [Array.getD_eq_getD_getElem?,Array.getElem?_append_left (by simpa using hi)]
    simp [hi]
   rw [e];exact this
 refine wp_mono (h w S μ _ hr hfr hg) ?_
 rintro e a' w' ⟨s',S',μ',hq,hr',hf',hst⟩
 have fin : (zCE P s'.H s'.T rs fun ds=>∃ X H',(X = z2s ds ∨ X = ro s'.H (z2s ds)) ∧ HLe s'.H H' ∧ H'.all (ltO H'.length) = true ∧ H.length ≤ H'.length ∧ ltT H'.length X = true ∧ R X H') → a'.defers = [] ∧ ∃ v,(results fn a'.tmps).run P w' = .ok v w' ∧ zns w S μ H R (.returned v) w' := by
  intro hK
  obtain ⟨v,r,hrun,hrep,X,H',hX,hle,hlt,hn,hltX,hR⟩ := z4f (K := fun r=>∃ X H',(X = r ∨ X = ro s'.H r) ∧ HLe s'.H H' ∧ H'.all (ltO H'.length) = true ∧ H.length ≤ H'.length ∧ ltT H'.length X = true ∧ R X H') hrs hr' hf' hK
  have hrepX : rep S' μ' X v := by
   rcases hX with rfl|rfl
   ·exact hrep
   ·exact hrep.toRo hr'
  refine ⟨hf'.nodef,v,hrun,v,X,H',S',μ'.take H'.length,rfl,hR,hr'.le hle hlt,hrepX.take hltX,hst.trans ⟨rfl,rfl,rfl,Nat.le_refl _,fun _ _ _=>rfl,fun _ _ _ h=>h,fun i x hi hx=>⟨x,by rw [List.getElem?_take,if_pos (by omega)];exact hx, .inl rfl⟩,fun _ _ _ h _=>.inl h,fun _ k _=>hle.own k⟩⟩
 cases e with
 |normal=>exact fin hq
 |ret=>exact fin hq
 |exit id=>exact hq.elim
 |goto l=>exact hq.elim
 |panic ch=>exact hq.elim
 |outgrown=>exact hq.elim
def zzi (P : Program) (rs : List ResultVar) (X : AV) : Exit → ASt → Prop
 |.normal,s=>zCE P s.H s.T rs fun ds=>ro s.H (z2s ds) = X
 |.ret,s=>zCE P s.H s.T rs fun ds=>ro s.H (z2s ds) = X
 |_,_=>False
theorem z1Q {H : List AObj} {T : Tm} : ∀ {rs : List ResultVar} {K K' : List AV → Prop},(∀ ds,K ds → K' ds) → zCE P H T rs K → zCE P H T rs K'
 |[],K,K',hk,h=>hk _ h
 |.tmp t :: rs,K,K',hk,h=>z1Q (rs := rs) (fun ds=>hk _) h
 |.cell b t :: rs,K,K',hk,h=>by
  simp only [zCE] at h ⊢
  obtain ⟨d,h1,h2⟩ := z5z h
  have : z67 (z0z P t) H (_root_.Go.Proofs.YtaplemeamcgpkaaDoor.get T b) (fun d=>zCE P H T rs fun ds=>K' (d :: ds)) := by
   unfold z67 at h1 ⊢
   split at h1
   ·exact ⟨h1.1,by have := h1.2;subst this;exact z1Q (fun ds=>hk _) h2⟩
   ·exact ⟨h1.1,by have := h1.2;subst this;exact z1Q (fun ds=>hk _) h2⟩
   ·obtain ⟨ob,q1,q2⟩ := h1
    exact ⟨ob,q1,z9x q2 fun l q=>z1I q fun d' e=>by subst e;exact z1Q (fun ds=>hk _) h2⟩
   ·exact h1
  exact this
theorem z0x {f : FuncId} {fn : Func} {c : Code} {args : List AV} {X : AV} (hf : P.funcs[f]? = some fn) (hb : fn.body = some c) (hc : z5e P f = true) (rs : List ResultVar) (hrs : fn.results.toList = rs) (N : Nat) (hN : fn.ntmps = N) (hargs : args.length ≤ N) (hX : ltT 0 X = true)
  (h : AWp P G (F0 N) 0 c (zzi P rs X) ⟨[],z2t 0 args⟩) : ACp P G f args X := by
 refine zaR hf hb hc rs hrs N hN hargs (h.mono fun e s q=>?_)
 have fin : (zCE P s.H s.T rs fun ds=>ro s.H (z2s ds) = X) → zCE P s.H s.T rs fun ds=>∃ X' H',(X' = z2s ds ∨ X' = ro s.H (z2s ds)) ∧ HLe s.H H' ∧ H'.all (ltO H'.length) = true ∧ ([] : List AObj).length ≤ H'.length ∧ ltT H'.length X' = true ∧ (X' = X ∧ H' = []) :=
  z1Q fun ds hds=>⟨X,[], .inr hds.symm,by cases hh : s.H <;> trivial,rfl,Nat.le_refl _,hX,rfl,rfl⟩
 cases e with
 |normal=>exact fin q
 |ret=>exact fin q
 |exit id=>exact q.elim
 |goto l=>exact q.elim
 |panic ch=>exact q.elim
 |outgrown=>exact q.elim
theorem zpZ {N : FS} {n : Nat} {c : Code} {Q : Exit → ASt → Prop} {H : List AObj} {T : Tm} (i : Nat) (e : TypeId) (z : Nat) (hi : get T i = V (.slice none 0 0)) (hn : n ≤ H.length) (h : AWp P G N n c Q ⟨H ++ [⟨2,e,z,[]⟩],(i,OW H.length 0) :: T⟩) : AWp P G N n c Q ⟨H,T⟩ := by
 intro w S μ a hr hf hg
 obtain ⟨h1,h2⟩ := hr.nilRow none e z
 have hx : Ext S μ S (μ ++ [.slice none 0 0]) := ziK S μ _
 have hf' : Fr S (μ ++ [.slice none 0 0]) N ((i,OW H.length 0) :: T) a := by
  refine ⟨hf.size,hf.nodef,fun k=>?_⟩
  simp only [_root_.Go.Proofs.YtaplemeamcgpkaaDoor.get]
  split
  ·rename_i e;subst e
   have := (hf.slot i)
   rw [hi] at this
   refine ⟨none,0,0,none,0,?_,Nat.le_refl _,this.1,fun _=>⟨rfl,rfl⟩⟩
   rw [← hr.len];simp
  ·exact (hf.slot k).ext hx
 exact wp_mono (h w S _ a h1 hf' hg) fun _ _ _ k=>Lift.trans (h2.less hn) k
variable {H : List AObj} {T : Tm} {X : AV} {s : ASt}
theorem zz0 {K : List AV → Prop} : zCE P H T [] K = K [] := _root_.id rfl
theorem zmq {b : Tmp} {t : TypeId} {rs : List ResultVar} {K : List AV → Prop} : zCE P H T (.cell b t :: rs) K = z67 (z0z P t) H (get T b) fun d=>zCE P H T rs fun ds=>K (d :: ds) := _root_.id rfl
theorem zoB {d : AV} : z2s [d] = d := _root_.id rfl
theorem zoh {d e : AV} : z2s [d,e] = TU [noT d,noT e] := _root_.id rfl
theorem ze7 {d e f : AV} : z2s [d,e,f] = TU [noT d,noT e,noT f] := _root_.id rfl
theorem znr : z2s [] = TU [] := _root_.id rfl
theorem zxN {e : TypeId} {z m : Nat} {c : List AV} : ro1 (⟨2,e,z,c⟩ :: H) (OW 0 m) = if m = c.length then SL c else OW 0 m := by simp [ro1]
theorem zyr {o : AObj} {e : TypeId} {z m : Nat} {c : List AV} : ro1 (o :: ⟨2,e,z,c⟩ :: H) (OW 1 m) = if m = c.length then SL c else OW 1 m := by simp [ro1]
theorem zxF {o o' : AObj} {e : TypeId} {z m : Nat} {c : List AV} : ro1 (o :: o' :: ⟨2,e,z,c⟩ :: H) (OW 2 m) = if m = c.length then SL c else OW 2 m := by simp [ro1]
theorem zyp {o o' o2 : AObj} {e : TypeId} {z m : Nat} {c : List AV} : ro1 (o :: o' :: o2 :: ⟨2,e,z,c⟩ :: H) (OW 3 m) = if m = c.length then SL c else OW 3 m := by simp [ro1]
section
variable {m : Nat}
theorem zE0 {v : Value} : ltT m (V v) = true := _root_.id rfl
theorem zyd {es : List AV} : ltT m (SL es) = true := _root_.id rfl
theorem znI {d : AV} : ltT m (.ptr d) = true := _root_.id rfl
theorem zye {i q : Nat} : ltT m (OW i q) = decide (i < m) := _root_.id rfl
theorem zxp {i q : Nat} : ltT m (OP i q) = decide (i < m) := _root_.id rfl
theorem zow {cs : List AV} : ltT m (.agg cs) = cs.all (lt1 m) := _root_.id rfl
theorem zxI {ds : List AV} : ltT m (TU ds) = ds.all (ltA m) := _root_.id rfl
theorem zFE {v : Value} : ltA m (V v) = true := _root_.id rfl
theorem zyk {es : List AV} : ltA m (SL es) = true := _root_.id rfl
theorem znE {d : AV} : ltA m (.ptr d) = true := _root_.id rfl
theorem zxH {i q : Nat} : ltA m (OW i q) = decide (i < m) := _root_.id rfl
theorem zxh {i q : Nat} : ltA m (OP i q) = decide (i < m) := _root_.id rfl
theorem zmL {cs : List AV} : ltA m (.agg cs) = cs.all (lt1 m) := _root_.id rfl
theorem zEj {v : Value} : lt1 m (V v) = true := _root_.id rfl
theorem zy8 {es : List AV} : lt1 m (SL es) = true := _root_.id rfl
theorem zn7 {d : AV} : lt1 m (.ptr d) = true := _root_.id rfl
theorem zxt {i q : Nat} : lt1 m (OW i q) = decide (i < m) := _root_.id rfl
theorem zxG {i q : Nat} : lt1 m (OP i q) = decide (i < m) := _root_.id rfl
theorem zxQ {k e z : Nat} {c : List AV} : ltO m ⟨k,e,z,c⟩ = (k == 0 || c.all (ltA m)) := _root_.id rfl
end
end
end Go.Proofs.YtaplemeamcgpkaaDoor

namespace Go.Proofs.YtaplemeamcgpkaaDoor
open Go.RowKit
section
variable {P : Program} {G : Gl}
def zAg (P : Program) (rs : List ResultVar) (X : AV) (H0 : List AObj) : Exit → ASt → Prop
 |.normal,s=>zCE P s.H s.T rs fun ds=>ro s.H (z2s ds) = X ∧ HLe s.H H0
 |.ret,s=>zCE P s.H s.T rs fun ds=>ro s.H (z2s ds) = X ∧ HLe s.H H0
 |_,_=>False
abbrev Is (X : AV) (H0 : List AObj) : AV → List AObj → Prop := fun r H'=>r = X ∧ H' = H0
theorem z5p {f : FuncId} {fn : Func} {c : Code} {args : List AV} {H H0 : List AObj} {X : AV} (hf : P.funcs[f]? = some fn) (hb : fn.body = some c) (hc : z5e P f = true) (rs : List ResultVar) (hrs : fn.results.toList = rs) (N : Nat) (hN : fn.ntmps = N) (hargs : args.length ≤ N)
  (h1 : H0.all (ltO H0.length) = true) (h2 : H.length ≤ H0.length) (h3 : ltT H0.length X = true)
  (h : AWp P G (F0 N) H.length c (zAg P rs X H0) ⟨H,z2t 0 args⟩) : AC P G f args H (Is X H0) := by
 refine zaR hf hb hc rs hrs N hN hargs (h.mono fun e s q=>?_)
 have fin : (zCE P s.H s.T rs fun ds=>ro s.H (z2s ds) = X ∧ HLe s.H H0) → zCE P s.H s.T rs fun ds=>∃ X' H',(X' = z2s ds ∨ X' = ro s.H (z2s ds)) ∧ HLe s.H H' ∧ H'.all (ltO H'.length) = true ∧ H.length ≤ H'.length ∧ ltT H'.length X' = true ∧ (X' = X ∧ H' = H0) :=
  z1Q fun ds hds=>⟨X,H0, .inr hds.1.symm,hds.2,h1,h2,h3,rfl,rfl⟩
 cases e with
 |normal=>exact fin q
 |ret=>exact fin q
 |exit id=>exact q.elim
 |goto l=>exact q.elim
 |panic ch=>exact q.elim
 |outgrown=>exact q.elim
theorem z3T {f : FuncId} {args : List AV} {X : AV} {H H0 : List AObj} {R : AV → List AObj → Prop} (h : AC P G f args H (Is X H0)) (k : R X H0) : AC P G f args H R :=
 h.mono fun r H' ⟨e1,e2⟩=>by subst e1 e2;exact k
variable {H H0 : List AObj} {T : Tm} {X : AV} {s : ASt}
section
variable {K : ASt → Prop} {ops l r : List Oper} {dst : Option Tmp} {ty : TypeId} {pos : String} {af : Array Edge} {b : Bool}
theorem zx2 {a : Operand} : z0n P G ops b (⟨dst, .move a,ty,pos,af,none⟩ :: r) s K = (okX b (.move a) ∧ z1x P G ops b ⟨dst, .move a,ty,pos,af,none⟩ r s K) := z34 rfl
theorem zvU {a : Operand} {j : Nat} {w : Bool} : z0n P G ops false (⟨dst, .move a,ty,pos,af,some (j,w)⟩ :: r) s K = z4g (z1N ops j) s.T w (z1x P G ops false ⟨dst, .move a,ty,pos,af,some (j,w)⟩ r s K) (z0n P G ops false r (s.set s.H dst UD) K) := z1F rfl rfl
theorem znO {a : Operand} : z0n P G ops b (⟨dst, .assign a,ty,pos,af,none⟩ :: r) s K = (okX b (.assign a) ∧ z1x P G ops b ⟨dst, .assign a,ty,pos,af,none⟩ r s K) := z34 rfl
theorem zoJ {a : Operand} {j : Nat} {w : Bool} : z0n P G ops false (⟨dst, .assign a,ty,pos,af,some (j,w)⟩ :: r) s K = z4g (z1N ops j) s.T w (z1x P G ops false ⟨dst, .assign a,ty,pos,af,some (j,w)⟩ r s K) (z0n P G ops false r (s.set s.H dst UD) K) := z1F rfl rfl
theorem zx0 {a c d : Operand} : z0n P G ops b (⟨dst, .pick a c d,ty,pos,af,none⟩ :: r) s K = (okX b (.pick a c d) ∧ z1x P G ops b ⟨dst, .pick a c d,ty,pos,af,none⟩ r s K) := z34 rfl
theorem zvk {a c d : Operand} {j : Nat} {w : Bool} : z0n P G ops false (⟨dst, .pick a c d,ty,pos,af,some (j,w)⟩ :: r) s K = z4g (z1N ops j) s.T w (z1x P G ops false ⟨dst, .pick a c d,ty,pos,af,some (j,w)⟩ r s K) (z0n P G ops false r (s.set s.H dst UD) K) := z1F rfl rfl
theorem zzm {o : BinOp} {t t' : TypeId} {a c : Operand} : z0n P G ops b (⟨dst, .binOp o t a c t',ty,pos,af,none⟩ :: r) s K = (okX b (.binOp o t a c t') ∧ z1x P G ops b ⟨dst, .binOp o t a c t',ty,pos,af,none⟩ r s K) := z34 rfl
theorem zA9 {o : BinOp} {t t' : TypeId} {a c : Operand} {j : Nat} {w : Bool} : z0n P G ops false (⟨dst, .binOp o t a c t',ty,pos,af,some (j,w)⟩ :: r) s K = z4g (z1N ops j) s.T w (z1x P G ops false ⟨dst, .binOp o t a c t',ty,pos,af,some (j,w)⟩ r s K) (z0n P G ops false r (s.set s.H dst UD) K) := z1F rfl rfl
theorem zBJ {o : UnOp} {t : TypeId} {a : Operand} : z0n P G ops b (⟨dst, .unOp o t a,ty,pos,af,none⟩ :: r) s K = (okX b (.unOp o t a) ∧ z1x P G ops b ⟨dst, .unOp o t a,ty,pos,af,none⟩ r s K) := z34 rfl
theorem zCo {o : UnOp} {t : TypeId} {a : Operand} {j : Nat} {w : Bool} : z0n P G ops false (⟨dst, .unOp o t a,ty,pos,af,some (j,w)⟩ :: r) s K = z4g (z1N ops j) s.T w (z1x P G ops false ⟨dst, .unOp o t a,ty,pos,af,some (j,w)⟩ r s K) (z0n P G ops false r (s.set s.H dst UD) K) := z1F rfl rfl
theorem zrg {t : TypeId} {ps : Array (Nat × Operand)} : z0n P G ops b (⟨dst, .build t ps,ty,pos,af,none⟩ :: r) s K = (okX b (.build t ps) ∧ z1x P G ops b ⟨dst, .build t ps,ty,pos,af,none⟩ r s K) := z34 rfl
theorem zrl {t : TypeId} {ps : Array (Nat × Operand)} {j : Nat} {w : Bool} : z0n P G ops false (⟨dst, .build t ps,ty,pos,af,some (j,w)⟩ :: r) s K = z4g (z1N ops j) s.T w (z1x P G ops false ⟨dst, .build t ps,ty,pos,af,some (j,w)⟩ r s K) (z0n P G ops false r (s.set s.H dst UD) K) := z1F rfl rfl
theorem zeA {t : TypeId} {m : Nat} {ps : Array (Nat × Operand)} : z0n P G ops b (⟨dst, .buildSlice t m ps,ty,pos,af,none⟩ :: r) s K = (okX b (.buildSlice t m ps) ∧ z1x P G ops b ⟨dst, .buildSlice t m ps,ty,pos,af,none⟩ r s K) := z34 rfl
theorem zfd {t : TypeId} {m : Nat} {ps : Array (Nat × Operand)} {j : Nat} {w : Bool} : z0n P G ops false (⟨dst, .buildSlice t m ps,ty,pos,af,some (j,w)⟩ :: r) s K = z4g (z1N ops j) s.T w (z1x P G ops false ⟨dst, .buildSlice t m ps,ty,pos,af,some (j,w)⟩ r s K) (z0n P G ops false r (s.set s.H dst UD) K) := z1F rfl rfl
theorem zv3 {t : TypeId} {a : Operand} : z0n P G ops b (⟨dst, .load t a,ty,pos,af,none⟩ :: r) s K = (okX b (.load t a) ∧ z1x P G ops b ⟨dst, .load t a,ty,pos,af,none⟩ r s K) := z34 rfl
theorem ztd {t : TypeId} {a : Operand} {j : Nat} {w : Bool} : z0n P G ops false (⟨dst, .load t a,ty,pos,af,some (j,w)⟩ :: r) s K = z4g (z1N ops j) s.T w (z1x P G ops false ⟨dst, .load t a,ty,pos,af,some (j,w)⟩ r s K) (z0n P G ops false r (s.set s.H dst UD) K) := z1F rfl rfl
theorem zjj {a : Operand} : z0n P G ops b (⟨dst, .nilCheck a,ty,pos,af,none⟩ :: r) s K = (okX b (.nilCheck a) ∧ z1x P G ops b ⟨dst, .nilCheck a,ty,pos,af,none⟩ r s K) := z34 rfl
theorem ziZ {a : Operand} {j : Nat} {w : Bool} : z0n P G ops false (⟨dst, .nilCheck a,ty,pos,af,some (j,w)⟩ :: r) s K = z4g (z1N ops j) s.T w (z1x P G ops false ⟨dst, .nilCheck a,ty,pos,af,some (j,w)⟩ r s K) (z0n P G ops false r (s.set s.H dst UD) K) := z1F rfl rfl
theorem zuO {t t' : TypeId} {a : Operand} : z0n P G ops b (⟨dst, .convert t t' a,ty,pos,af,none⟩ :: r) s K = (okX b (.convert t t' a) ∧ z1x P G ops b ⟨dst, .convert t t' a,ty,pos,af,none⟩ r s K) := z34 rfl
theorem zuH {t t' : TypeId} {a : Operand} {j : Nat} {w : Bool} : z0n P G ops false (⟨dst, .convert t t' a,ty,pos,af,some (j,w)⟩ :: r) s K = z4g (z1N ops j) s.T w (z1x P G ops false ⟨dst, .convert t t' a,ty,pos,af,some (j,w)⟩ r s K) (z0n P G ops false r (s.set s.H dst UD) K) := z1F rfl rfl
theorem zjV {a : Operand} {i : Nat} : z0n P G ops b (⟨dst, .extract a i,ty,pos,af,none⟩ :: r) s K = (okX b (.extract a i) ∧ z1x P G ops b ⟨dst, .extract a i,ty,pos,af,none⟩ r s K) := z34 rfl
theorem zkT {a : Operand} {i : Nat} {j : Nat} {w : Bool} : z0n P G ops false (⟨dst, .extract a i,ty,pos,af,some (j,w)⟩ :: r) s K = z4g (z1N ops j) s.T w (z1x P G ops false ⟨dst, .extract a i,ty,pos,af,some (j,w)⟩ r s K) (z0n P G ops false r (s.set s.H dst UD) K) := z1F rfl rfl
theorem zhb {t : TypeId} {a : Operand} {i : Nat} : z0n P G ops b (⟨dst, .fieldAddr t a i,ty,pos,af,none⟩ :: r) s K = (okX b (.fieldAddr t a i) ∧ z1x P G ops b ⟨dst, .fieldAddr t a i,ty,pos,af,none⟩ r s K) := z34 rfl
theorem zgn {t : TypeId} {a : Operand} {i : Nat} {j : Nat} {w : Bool} : z0n P G ops false (⟨dst, .fieldAddr t a i,ty,pos,af,some (j,w)⟩ :: r) s K = z4g (z1N ops j) s.T w (z1x P G ops false ⟨dst, .fieldAddr t a i,ty,pos,af,some (j,w)⟩ r s K) (z0n P G ops false r (s.set s.H dst UD) K) := z1F rfl rfl
theorem zrV {t : TypeId} {a : Operand} {i : Nat} : z0n P G ops b (⟨dst, .field t a i,ty,pos,af,none⟩ :: r) s K = (okX b (.field t a i) ∧ z1x P G ops b ⟨dst, .field t a i,ty,pos,af,none⟩ r s K) := z34 rfl
theorem zqB {t : TypeId} {a : Operand} {i : Nat} {j : Nat} {w : Bool} : z0n P G ops false (⟨dst, .field t a i,ty,pos,af,some (j,w)⟩ :: r) s K = z4g (z1N ops j) s.T w (z1x P G ops false ⟨dst, .field t a i,ty,pos,af,some (j,w)⟩ r s K) (z0n P G ops false r (s.set s.H dst UD) K) := z1F rfl rfl
theorem zgp {t : TypeId} {a c : Operand} : z0n P G ops b (⟨dst, .indexAddr t a c,ty,pos,af,none⟩ :: r) s K = (okX b (.indexAddr t a c) ∧ z1x P G ops b ⟨dst, .indexAddr t a c,ty,pos,af,none⟩ r s K) := z34 rfl
theorem zgy {t : TypeId} {a c : Operand} {j : Nat} {w : Bool} : z0n P G ops false (⟨dst, .indexAddr t a c,ty,pos,af,some (j,w)⟩ :: r) s K = z4g (z1N ops j) s.T w (z1x P G ops false ⟨dst, .indexAddr t a c,ty,pos,af,some (j,w)⟩ r s K) (z0n P G ops false r (s.set s.H dst UD) K) := z1F rfl rfl
theorem zqX {t : TypeId} {a c : Operand} : z0n P G ops b (⟨dst, .index t a c,ty,pos,af,none⟩ :: r) s K = (okX b (.index t a c) ∧ z1x P G ops b ⟨dst, .index t a c,ty,pos,af,none⟩ r s K) := z34 rfl
theorem zqP {t : TypeId} {a c : Operand} {j : Nat} {w : Bool} : z0n P G ops false (⟨dst, .index t a c,ty,pos,af,some (j,w)⟩ :: r) s K = z4g (z1N ops j) s.T w (z1x P G ops false ⟨dst, .index t a c,ty,pos,af,some (j,w)⟩ r s K) (z0n P G ops false r (s.set s.H dst UD) K) := z1F rfl rfl
theorem zsr {t : TypeId} {a : Operand} {lo hi : Option Operand} : z0n P G ops b (⟨dst, .slice t a lo hi none,ty,pos,af,none⟩ :: r) s K = (okX b (.slice t a lo hi none) ∧ z1x P G ops b ⟨dst, .slice t a lo hi none,ty,pos,af,none⟩ r s K) := z34 rfl
theorem zsq {t : TypeId} {a : Operand} {lo hi : Option Operand} {j : Nat} {w : Bool} : z0n P G ops false (⟨dst, .slice t a lo hi none,ty,pos,af,some (j,w)⟩ :: r) s K = z4g (z1N ops j) s.T w (z1x P G ops false ⟨dst, .slice t a lo hi none,ty,pos,af,some (j,w)⟩ r s K) (z0n P G ops false r (s.set s.H dst UD) K) := z1F rfl rfl
theorem zpG {q : Call} : z0n P G ops b (⟨dst, .call q,ty,pos,af,none⟩ :: r) s K = (okX b (.call q) ∧ z1x P G ops b ⟨dst, .call q,ty,pos,af,none⟩ r s K) := z34 rfl
theorem zq3 {q : Call} {j : Nat} {w : Bool} : z0n P G ops false (⟨dst, .call q,ty,pos,af,some (j,w)⟩ :: r) s K = z4g (z1N ops j) s.T w (z1x P G ops false ⟨dst, .call q,ty,pos,af,some (j,w)⟩ r s K) (z0n P G ops false r (s.set s.H dst UD) K) := z1F rfl rfl
end
end
end Go.Proofs.YtaplemeamcgpkaaDoor

namespace Go.Proofs.YtaplemeamcgpkaaDoor
open Go.RowKit
section
variable {P : Program} {G : Gl} {H : List AObj} {x y z : AV} {K K' : AV → Prop} {t : TypeId}
theorem zlB {l : List AV} {i : Nat} (q : ∀ d,K d → K' d) (h : nth l i K) : nth l i K' := by
 obtain ⟨d,h1,h2⟩ := h
 exact ⟨d,h1,q _ h2⟩
theorem zaN {l : List AObj} {i : Nat} {K K' : AObj → Prop} (q : ∀ d,K d → K' d) (h : zEG l i K) : zEG l i K' := by
 obtain ⟨d,h1,h2⟩ := h
 exact ⟨d,h1,q _ h2⟩
theorem zo9 {op : BinOp} {k k' : IntKind} {a b : Int} (q : ∀ d,K d → K' d) (h : zEw op k a k' b K) : zEw op k a k' b K' := by
 cases op <;> simp only [zEw] at h ⊢ <;> first|exact ⟨h.1,q _ h.2⟩|exact ⟨h.1,h.2.1,q _ h.2.2⟩
theorem znw {op : BinOp} {a b : ByteArray} (q : ∀ d,K d → K' d) (h : zFF op a b K) : zFF op a b K' := by
 cases op <;> simp only [zFF] at h ⊢ <;> first|exact ⟨h.1,q _ h.2⟩|exact q _ h
theorem zil {op : BinOp} (q : ∀ d,K d → K' d) (h : zF5 P t op x y K) : zF5 P t op x y K' := by
 unfold zF5 at h ⊢
 split at h
 ·obtain ⟨us,vs,b,h1,h2,h3,h4⟩ := h;exact ⟨us,vs,b,h1,h2,h3,q _ h4⟩
 ·exact zo9 q h
 ·exact znw q h
 ·refine ⟨h.1,?_⟩
  have h := h.2
  split at h
  ·exact q _ h
  ·exact q _ h
  ·exact h
 ·refine ⟨h.1,?_⟩
  have h := h.2
  split at h
  ·exact q _ h
  ·exact q _ h
  ·exact h
 ·refine ⟨h.1,?_⟩
  have h := h.2
  split at h
  ·exact q _ h
  ·exact q _ h
  ·exact h
 ·refine ⟨h.1,?_⟩
  have h := h.2
  split at h
  ·exact q _ h
  ·exact q _ h
  ·exact h
 ·exact h
theorem zkD {op : UnOp} (q : ∀ d,K d → K' d) (h : aUn op x K) : aUn op x K' := by
 unfold aUn at h ⊢
 split at h
 ·exact q _ h
 ·exact q _ h
 ·exact q _ h
 ·exact h
theorem zeZ (q : ∀ d,K d → K' d) (h : zdk x y z K) : zdk x y z K' := by
 unfold zdk at h ⊢
 split at h
 ·exact q _ h
 ·exact h
theorem za7 {i : Nat} (q : ∀ d,K d → K' d) (h : z1Z x i K) : z1Z x i K' := by
 unfold z1Z at h ⊢
 split at h
 ·exact zlB q h
 ·exact h
theorem z4j {k : Nat} (q : ∀ d,K d → K' d) (h : z67 k H x K) : z67 k H x K' := by
 unfold z67 at h ⊢
 split at h
 ·exact ⟨h.1,q _ h.2⟩
 ·exact ⟨h.1,q _ h.2⟩
 ·exact zaN (fun ob h=>z9x h fun l h=>z1I h q) h
 ·exact h
theorem zcZ {k : Nat} {K K' : List AObj → Prop} (q : ∀ d,K d → K' d) (h : z5M k H x y K) : z5M k H x y K' := by
 unfold z5M at h ⊢
 split at h
 ·exact zaN (fun ob h=>zdy h fun l h=>q _ h) h
 ·exact h
theorem zd0 {f : Option (Nat × Nat)} (q : ∀ d,K d → K' d) (h : z6u f x K) : z6u f x K' := by
 unfold z6u at h ⊢
 split at h
 ·split at h
  ·exact z1I h fun d=>q _
  ·exact q _ h
  ·exact h
 ·exact h
theorem zbP {f : Option (Nat × Nat)} (q : ∀ d,K d → K' d) (h : z3D f x K) : z3D f x K' := by
 unfold z3D at h ⊢
 split at h
 ·split at h
  ·exact z1I h q
  ·exact h
 ·exact h
theorem zgd {k : Nat} (q : ∀ d,K d → K' d) (h : z3E k H x y K) : z3E k H x y K' := by
 unfold z3E at h ⊢
 split at h
 ·refine ⟨h.1,?_⟩
  have h2 := h.2
  split at h2
  ·exact ⟨h2.1,zaN (fun ob h=>⟨h.1,h.2.1,h.2.2.1,q _ h.2.2.2⟩) h2.2⟩
  ·exact z16 h2 fun es h=>zlB (fun d h=>⟨h.1,q _ h.2⟩) h
 ·exact h
theorem zc5 (q : ∀ d,K d → K' d) (h : z3c P t H x y K) : z3c P t H x y K' := by
 unfold z3c at h ⊢
 split at h
 ·exact zgd q h
 ·split at h
  ·split at h
   ·refine ⟨h.1,h.2.1,?_⟩
    have h := h.2.2
    split at h
    ·exact z1I h fun d=>q _
    ·exact q _ h
    ·exact h
   ·exact h
  ·exact h
theorem zbd (q : ∀ d,K d → K' d) (h : z39 P t x y K) : z39 P t x y K' := by
 unfold z39 at h ⊢
 split at h
 ·split at h
  ·exact ⟨h.1,h.2.1,h.2.2.1,q _ h.2.2.2⟩
  ·split at h
   ·exact ⟨h.1,h.2.1,z1I h.2.2 q⟩
   ·exact h
  ·exact h
 ·exact h
theorem ziq (q : ∀ d,K d → K' d) (h : zCJ P t H x K) : zCJ P t H x K' := by
 unfold zCJ at h ⊢
 split at h
 ·exact ⟨h.1,q _ h.2⟩
 ·exact ⟨h.1,q _ h.2⟩
 ·exact ⟨h.1,q _ h.2⟩
 ·exact ⟨h.1,z16 h.2 fun es=>q _⟩
theorem zi9 (q : ∀ d,K d → K' d) (h : zEm x K) : zEm x K' := by
 unfold zEm at h ⊢
 split at h
 ·exact q _ h
 ·exact q _ h
 ·exact h
theorem zfz {t' : TypeId} (q : ∀ d,K d → K' d) (h : zec P t t' x K) : zec P t t' x K' := by
 unfold zec at h ⊢
 split at h
 ·refine ⟨h.1,?_⟩
  have h := h.2
  split at h
  ·exact q _ h
  ·exact h
 ·rcases h with h|h
  ·exact .inl ⟨h.1,h.2.1,q _ h.2.2⟩
  ·exact .inr ⟨h.1,h.2.1,h.2.2.1,q _ h.2.2.2⟩
 ·refine ⟨h.1,h.2.1,?_⟩
  have h := h.2.2
  split at h
  ·exact q _ h
  ·exact h
 ·exact h
theorem zcT {ps : List (Nat × AV)} (q : ∀ d,K d → K' d) (h : z7o P t ps K) : z7o P t ps K' := by
 unfold z7o at h ⊢
 split at h
 ·split at h
  ·exact q _ h
  ·exact h
 ·exact h
theorem zbS {n : Nat} {ps : List (Nat × AV)} (q : ∀ d,K d → K' d) (h : z3F P t n ps K) : z3F P t n ps K' := by
 unfold z3F at h ⊢
 split at h
 ·exact ⟨h.1,h.2.1,h.2.2.1,h.2.2.2.1,q _ h.2.2.2.2⟩
 ·exact h
theorem zcG {lo hi : Option AV} (q : ∀ d,K d → K' d) (h : z4X P t H x lo hi K) : z4X P t H x lo hi K' := by
 unfold z4X at h ⊢
 split at h
 ·exact ⟨h.1,z3y h.2 fun l h=>z3y h fun u h=>⟨h.1,h.2.1,h.2.2.1,q _ h.2.2.2⟩⟩
 ·split at h
  ·exact z16 h fun es h=>⟨h.1,z3y h.2 fun l h=>z3y h fun u h=>⟨h.1,h.2.1,h.2.2.1,q _ h.2.2.2⟩⟩
  ·exact h
theorem zjq {K K' : AV → List AObj → Prop} (m : ∀ y,zDr P t H x y K → zDr P t H x y K') (h : zqi P t H x y K) : zqi P t H x y K' := by
 unfold zqi at h ⊢
 split at h
 ·exact m _ h
 ·exact h.elim
theorem zho {K K' : AV → List AObj → Prop} (q : ∀ d H,K d H → K' d H) (h : zDr P t H x y K) : zDr P t H x y K' := by
 unfold zDr at h ⊢
 split at h
 ·refine z16 h fun es h=>⟨h.1,?_⟩
  have h := h.2
  split at h
  ·exact ⟨h.1,q _ _ h.2⟩
  ·exact ⟨h.1,q _ _ h.2⟩
  ·exact zaN (fun ob h=>⟨h.1,h.2.1,h.2.2.1,h.2.2.2.1,h.2.2.2.2.1,q _ _ h.2.2.2.2.2⟩) h
  ·exact h
 ·exact h
theorem ziP {args : List AV} {K K' : AV → List AObj → Prop} (q : ∀ d H,K d H → K' d H) (h : zcj P G x args H K) : zcj P G x args H K' := by
 unfold zcj at h ⊢
 split at h
 ·exact h.mono q
 ·exact h.mono q
 ·exact h
theorem zmb {mx : Bool} {x y : AV} {K K' : AV → Prop} (q : ∀ d,K d → K' d) (h : aMM mx x y K) : aMM mx x y K' := by
 unfold aMM at h ⊢
 split at h
 ·exact ⟨h.1,q _ h.2⟩
 ·exact h
theorem z1V {o : Oper} {s : ASt} {K K' : AV → List AObj → Prop} (q : ∀ d H,K d H → K' d H) (h : z08 P G o s K) : z08 P G o s K' := by
 obtain ⟨dst,op,ty,pos,af,gd⟩ := o
 unfold z08 at h ⊢
 dsimp only at h ⊢
 split at h
 ·exact q _ _ h
 ·exact q _ _ h
 ·exact zeZ (fun d=>q d _) h
 ·exact zil (fun d=>q d _) h
 ·exact zkD (fun d=>q d _) h
 ·split at h
  ·exact q _ _ h
  ·exact h
 ·exact ⟨h.1,q _ _ h.2⟩
 ·exact zcT (fun d=>q d _) h
 ·exact zbS (fun d=>q d _) h
 ·exact z4j (fun d=>q d _) h
 ·exact zcZ (fun H=>q _ H) h
 ·exact zi9 (fun d=>q d _) h
 ·exact zfz (fun d=>q d _) h
 ·exact za7 (fun d=>q d _) h
 ·exact zd0 (fun d=>q d _) h
 ·exact zbP (fun d=>q d _) h
 ·exact zc5 (fun d=>q d _) h
 ·exact zbd (fun d=>q d _) h
 ·exact zcG (fun d=>q d _) h
 ·exact AC.mono h q
 ·exact ⟨h.1,q _ _ h.2⟩
 ·exact ziP q h
 ·exact ziq (fun d=>q d _) h
 ·split at h
  ·rename_i e;rw [if_pos e];exact zho q h
  ·rename_i e;rw [if_neg e];exact ⟨h.1,zjq (fun _=>zho q) h.2⟩
 ·exact zmb (fun d=>q d _) h
 ·exact zmb (fun d=>q d _) h
 ·obtain ⟨d,h1,h2⟩ := h;exact ⟨d,h1,q _ _ h2⟩
 ·obtain ⟨d,h1,h2⟩ := h;exact ⟨d,h1,q _ _ h2⟩
 ·unfold zt5 at h ⊢;split at h <;> first|exact q _ _ h|exact h
 ·exact h
theorem zkb {f : FuncId} {args : List AV} (q : ∀ d,K d → K' d) (h : zsW P G f args K) : zsW P G f args K' := by
 obtain ⟨X,h1,h2,h3⟩ := h
 exact ⟨X,h1,h2,q _ h3⟩
theorem zg9 {o : Oper} {s : ASt} {K : AV → List AObj → Prop} (hl : loud o.op = false) (h : z08 P G o s K) : z08 P G o s fun d H'=>H' = s.H ∧ K d H' := by
 obtain ⟨dst,op,ty,pos,af,gd⟩ := o
 unfold z08 at h ⊢
 dsimp only at h ⊢ hl
 split at h
 ·exact ⟨rfl,h⟩
 ·exact ⟨rfl,h⟩
 ·exact zeZ (fun d h=>⟨rfl,h⟩) h
 ·exact zil (fun d h=>⟨rfl,h⟩) h
 ·exact zkD (fun d h=>⟨rfl,h⟩) h
 ·cases hl
 ·cases hl
 ·exact zcT (fun d h=>⟨rfl,h⟩) h
 ·exact zbS (fun d h=>⟨rfl,h⟩) h
 ·exact z4j (fun d h=>⟨rfl,h⟩) h
 ·cases hl
 ·exact zi9 (fun d h=>⟨rfl,h⟩) h
 ·exact zfz (fun d h=>⟨rfl,h⟩) h
 ·exact za7 (fun d h=>⟨rfl,h⟩) h
 ·exact zd0 (fun d h=>⟨rfl,h⟩) h
 ·exact zbP (fun d h=>⟨rfl,h⟩) h
 ·exact zc5 (fun d h=>⟨rfl,h⟩) h
 ·exact zbd (fun d h=>⟨rfl,h⟩) h
 ·exact zcG (fun d h=>⟨rfl,h⟩) h
 ·cases hl
 ·cases hl
 ·cases hl
 ·exact ziq (fun d h=>⟨rfl,h⟩) h
 ·cases hl
 ·cases hl
 ·cases hl
 ·obtain ⟨d,h1,h2⟩ := h;exact ⟨d,h1,rfl,h2⟩
 ·cases hl
 ·cases hl
 ·exact h
theorem ziY {w : Bool} {A B A' B' : Prop} (ha : A → A') (hb : B → B') (h : z3t x w A B) : z3t x w A' B' := by
 unfold z3t at h ⊢
 split at h
 ·exact ⟨fun e=>ha (h.1 e),fun e=>hb (h.2 e)⟩
 ·exact hb h
 ·exact h
theorem z7i {ops : List Oper} {K K' : ASt → Prop} (q : ∀ s,K s → K' s) : ∀ {l : List Oper} {s : ASt},z21 P G ops l s K → z21 P G ops l s K'
 |[],s,h=>q s h
 |o :: r,s,h=>by
  unfold z21 at h ⊢
  split at h
  ·rename_i hg;exact z1V (fun d H=>z7i q) h
  ·rename_i j want hg
   split at h
   ·exact ziY (z1V fun d H=>z7i q) (z7i q) h
   ·exact h.elim
theorem zfB {o : Oper} {s : ASt} (q : ∀ d,K d → K' d) (h : z0T P G o s K) : z0T P G o s K' := by
 obtain ⟨dst,op,ty,pos,af,gd⟩ := o
 unfold z0T at h ⊢
 dsimp only at h ⊢
 split at h
 ·exact zkb q h
 ·exact ⟨h.1,z1V (fun d H w=>⟨w.1,q _ w.2⟩) h.2⟩
end
end Go.Proofs.YtaplemeamcgpkaaDoor

