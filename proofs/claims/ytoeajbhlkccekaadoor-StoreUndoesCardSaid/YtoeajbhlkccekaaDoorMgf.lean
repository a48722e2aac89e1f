/-
  Texts laid together, part 6 of 7: laws of a walk over data, contracts of functions, each whole by itself.
-/
import Derived.Test.YtoeajbhlkccekaaDoorMge
import Derived.Defers
import Derived.Recover
import Derived.Tactics2
set_option maxRecDepth 100000
set_option linter.unusedVariables false
set_option linter.unusedSimpArgs false
namespace Go.Proofs.YtoeajbhlkccekaaDoor
open Go.RowKit
section
variable {P : Program} {G : Gl} {n d : Nat} {N : FS} {w w' w0 : World} {S S' S0 : SS} {μ μ' μ0 : List Value} {H H' H0 : List AObj} {E : Env} {M : Nat}
theorem told_get {T2 : Tm} : ∀ {rs : List Tmp} {ds : List AV},(TU ds : AV) = TU (sltK T2 rs) → ∀ i,get (rs.zip ds) i = get T2 i ∨ get (rs.zip ds) i = .nil := by
 intro rs ds h
 rw [sltK_eq] at h
 simp only [DataW.iface.injEq,DataW.agg.injEq,true_and] at h
 subst h
 induction rs with
 |nil=>exact fun i=>.inr rfl
 |cons t r ih =>
  intro i
  simp only [List.map_cons,List.zip_cons_cons,_root_.Go.Proofs.YtoeajbhlkccekaaDoor.get]
  split
  ·rename_i e;subst e;exact .inl rfl
  ·exact ih i
theorem Fr.less {T T' : Tm} {a : Act} (hf : Fr S μ N T a) (h : ∀ i,get T' i = get T i ∨ get T' i = .nil) : Fr S μ N T' a :=
 ⟨hf.size,hf.nodef,fun i=>by
  rcases h i with e|e
  ·rw [e];exact hf.slot i
  ·rw [e];exact rep_any _ _ _⟩
theorem Fr.some {T T' : Tm} {a : Act} (hf : Fr S μ N T a) (h : ∀ p ∈ T',get T p.1 = p.2) : Fr S μ N T' a := hf.less (by
 intro i
 induction T' with
 |nil=>exact .inr rfl
 |cons p r ih =>
  obtain ⟨j,x⟩ := p
  simp only [_root_.Go.Proofs.YtoeajbhlkccekaaDoor.get]
  split
  ·rename_i e
   subst e
   exact .inl (h (j,x) (List.mem_cons_self ..)).symm
  ·exact ih fun p hp=>h p (List.mem_cons_of_mem _ hp))
theorem nsl_some {rs : List Tmp} {e : Exit} {s : ASt} {X : AV} (h : nslFK rs e s = some (X,H')) : e = .normal ∧ X = TU (sltK s.T rs) ∧ s.H = H' := by
 cases e with
 |normal=>cases h;exact ⟨rfl,rfl,rfl⟩
 |exit id=>cases h
 |goto l=>cases h
 |ret=>cases h
 |panic ch=>cases h
 |outgrown=>cases h
def PartP (G : Gl) (N : FS) (rs : List Tmp) (ds : List AV) (w : World) (S : SS) (μ : List Value) (H H' : List AObj) (a' : Act) (w' : World) : Prop :=
 ∃ S' μ',Rel w' S' μ' H' ∧ Fr S' μ' N (rs.zip ds) a' ∧ GOk G S' ∧ Step H.length w S μ H w' S' μ' H'
theorem part_w (hm : P.follows .mixedOrders = true) (hE : EnvOk P G E) {c : Code} {h : Hint} {s : ASt} {rs : List Tmp} {ds : List AV} {a : Act} (hx : exec P G E M N c h s (nslFK rs) = some (TU ds,H')) (hr : Rel w S μ s.H) (hf : Fr S μ N s.T a) (hg : GOk G S) :
  c.wpIn (FL none) d P (fun e a' w'=>e = .normal ∧ PartP G N rs ds w S μ s.H H' a' w') a w := by
 refine wpIn_wide.2 (wp_mono (exec_ok (n := s.H.length) hm hE c h s _ (Nat.le_refl _) hx w S μ a hr hf hg) ?_)
 rintro e a' w' ⟨s',S',μ',hq,hr',hf',hst⟩
 obtain ⟨rfl,e2,rfl⟩ := nsl_some hq
 exact ⟨rfl,S',μ',hr',hf'.less (told_get e2),hg.ext hst.still,hst⟩
theorem part_ops (hE : EnvOk P G E) (hp : E.any isPan = false) {id : Nat} {l : List Oper} {h : Hint} {s : ASt} {rs : List Tmp} {ds : List AV} {a : Act} {ops : Array Oper} {l2 : List Oper} {Q : Exit → Act → World → Prop} (hgu : (l.all fun o=>o.guard.isNone) = true) (hx : exec P G E M N (.region id l.toArray false) h s (nslFK rs) = some (TU ds,H'))
  (hr : Rel w S μ s.H) (hf : Fr S μ N s.T a) (hg : GOk G S) (hK : ∀ a' w',PartP G N rs ds w S μ s.H H' a' w' → wpListIn (FL none) d P ops Q l2 a' w') : wpListIn (FL none) d P ops Q (l ++ l2) a w := by
 obtain ⟨f1,f2⟩ := exec_region hE hp hx
 refine runOps_pre (L := l) (N := N) hr.len ?_ l s hgu f2 f1 w S μ a hr hf hg (Step.refl _ _ _ _ _)
 rintro s' w' S' μ' a' ⟨T2,ht,hk⟩ hr' hf' hg' hst
 obtain ⟨_,e2,e3⟩ := nsl_some (s := ⟨s'.H,T2⟩) hk
 dsimp only at e2 e3
 subst e3
 exact hK a' w' ⟨S',μ',hr',(hf'.less fun i=>.inl (ht i).symm).less (told_get e2),hg',hst⟩
theorem part_all (hE : EnvOk P G E) (hp : E.any isPan = false) {id : Nat} {l : List Oper} {h : Hint} {s : ASt} {rs : List Tmp} {ds : List AV} {a : Act} {ops : Array Oper} {Q : Exit → Act → World → Prop} (hgu : (l.all fun o=>o.guard.isNone) = true) (hx : exec P G E M N (.region id l.toArray false) h s (nslFK rs) = some (TU ds,H'))
  (hr : Rel w S μ s.H) (hf : Fr S μ N s.T a) (hg : GOk G S) (hK : ∀ a' w',PartP G N rs ds w S μ s.H H' a' w' → Q .normal a' w') : wpListIn (FL none) d P ops Q l a w := by
 have key := part_ops (d := d) (ops := ops) (l2 := []) (Q := Q) hE hp hgu hx hr hf hg fun a' w' q=>wpListIn_nil (hK a' w' q)
 rwa [List.append_nil] at key
theorem exec_farW (hm : P.follows .mixedOrders = true) (hE : EnvOk P G E) {rs : List Tmp} {ds : List AV} {Q : Exit → Act → World → Prop} : ∀ (m : Nat) (c : Code) (h : Hint) (s : ASt) {w : World} {S : SS} {μ : List Value} {a : Act},deepC m c = true → exec P G E M N (farC m c .skip) h s (nslFK rs) = some (TU ds,H') →
  Rel w S μ s.H → Fr S μ N s.T a → GOk G S →
  (∀ a' w',(∃ S' μ',n ≤ H'.length ∧ Rel w' S' μ' H' ∧ Fr S' μ' N (rs.zip ds) a' ∧ GOk G S' ∧ Step n w S μ s.H w' S' μ' H') → (endC m c).wpIn (FL none) d P Q a' w') → n ≤ s.H.length → c.wpIn (FL none) d P Q a w
 |0,c,h,s,w,S,μ,a,hd,hx,hr,hf,hg,hK,hn=>by
  have hx : nslFK rs .normal s = some (TU ds,H') := hx
  obtain ⟨_,e2,e3⟩ := nsl_some hx
  subst e3
  exact hK a w ⟨S,μ,hn,hr,hf.less (told_get e2),hg,Step.refl _ _ _ _ _⟩
 |m + 1, .seq x y,h,s,w,S,μ,a,hd,hx,hr,hf,hg,hK,hn=>by
  refine wpIn_seq (wpIn_mono (wpIn_wide.2 (AWp.len (exec_ok (n := n) hm hE x h.l s _ hn hx) hn w S μ a hr hf hg)) ?_)
  rintro e a' w' ⟨s',S',μ',⟨hq,hl⟩,hr',hf',hst⟩
  cases e with
  |normal =>
   have q : exec P G E M N (farC m y .skip) h.r (ghJ h.gho (joinS h.J s')) (nslFK rs) = some (TU ds,H') := hq
   have key : ∀ (T3 : Tm),(∀ i,get T3 i = get s'.T i ∨ get T3 i = .nil) → exec P G E M N (farC m y .skip) h.r (ghJ h.gho ⟨s'.H,T3⟩) (nslFK rs) = some (TU ds,H') → y.wpIn (FL none) d P Q a' w' := by
    intro T3 h3 q
    have gh : ∀ g,∃ μ2,Rel w' S' μ2 (ghJ g ⟨s'.H,T3⟩).H ∧ Fr S' μ2 N (ghJ g ⟨s'.H,T3⟩).T a' ∧ Step n w' S' μ' s'.H w' S' μ2 (ghJ g ⟨s'.H,T3⟩).H := by
     intro g
     have triv : ∃ μ2,Rel w' S' μ2 s'.H ∧ Fr S' μ2 N T3 a' ∧ Step n w' S' μ' s'.H w' S' μ2 s'.H := ⟨μ',hr',hf'.less h3,Step.refl _ _ _ _ _⟩
     cases g with
     |none=>exact triv
     |some g =>
      obtain ⟨i,off,e,z⟩ := g
      show ∃ μ2,Rel w' S' μ2 (ghS i off e z ⟨s'.H,T3⟩).H ∧ Fr S' μ2 N (ghS i off e z ⟨s'.H,T3⟩).T a' ∧ Step n w' S' μ' s'.H w' S' μ2 (ghS i off e z ⟨s'.H,T3⟩).H
      unfold ghS
      split
      ·rename_i j hi
       split
       ·rename_i ob hj
        split
        ·rename_i hk hc
         obtain ⟨h1,h2⟩ := hr'.nilRow none e z
         have hjl : j < s'.H.length := (List.getElem?_eq_some_iff.1 hj).1
         obtain ⟨h3',h4⟩ := h1.recell (off := off) (d' := OW s'.H.length 0) (by rw [List.getElem?_append_left hjl];exact hj) hk hc (fun u hu=>⟨none,0,0,none,0,by rw [← hr'.len];simp,Nat.le_refl _,hu.1,fun _=>⟨rfl,rfl⟩⟩)
         rw [List.set_append_left _ _ hjl] at h3' h4
         have hx : Ext S' μ' S' (μ' ++ [.slice none 0 0]) := ext_add S' μ' _
         exact ⟨_,h3',(hf'.less h3).ext hx,(h2.less hl).trans (h4.less (by simp only [List.length_append];omega))⟩
        ·exact triv
       ·exact triv
      ·exact triv
    obtain ⟨μ2,g1,g2,g3⟩ := gh h.gho
    have hl2 : n ≤ (ghJ h.gho ⟨s'.H,T3⟩).H.length := Nat.le_trans hl (ghJ_len h.gho ⟨s'.H,T3⟩)
    refine exec_farW hm hE m y h.r (ghJ h.gho ⟨s'.H,T3⟩) hd q g1 g2 (hg.ext hst.still) ?_ hl2
    rintro a2 w2 ⟨S2,μ3,b1,b2,b3,b4,b5⟩
    exact hK a2 w2 ⟨S2,μ3,b1,b2,b3,b4,(hst.trans g3).trans b5⟩
   cases hj : h.J with
   |none=>rw [hj] at q;exact key s'.T (fun i=>.inl rfl) q
   |some L=>rw [hj] at q;exact key (keepT L s'.T) (keepT_get L s'.T) q
  |exit id=>cases hq
  |goto l=>cases hq
  |ret=>cases hq
  |panic ch=>cases hq
  |outgrown=>cases hq
theorem putObj_self {l : Nat} {o : Obj} (h : w.heap[l]? = some o) : w.putObj l o = w := by
 obtain ⟨hl,e⟩ := Array.getElem?_eq_some_iff.1 h
 unfold World.putObj
 have : w.heap.setIfInBounds l o = w.heap := by
  apply Array.ext_getElem?
  intro j
  rw [Array.getElem?_setIfInBounds]
  split
  ·rename_i q;subst q;exact h.symm
  ·rfl
 rw [this]
theorem putObj_putObj (w : World) (l : Nat) (o o' : Obj) : (w.putObj l o).putObj l o' = w.putObj l o' := by
 unfold World.putObj
 simp [Array.setIfInBounds_setIfInBounds]
theorem mark_end {fnn : Func} {rs : List Nat} {X : AV} {T : Tm} {a : Act} {D K : Nat} (hrs : fnn.results.toList = rs.map ResultVar.tmp) (hr : Rel w S μ H) (hf : Fr S μ ⟨K,[⟨.collected D,#[]⟩]⟩ T a) (hD : w.heap[D]? = some (.deferred (some []))) (hX : ro H (resA rs T) = X) (hl : ltT 0 X = true)
  (hst : Step 0 w0 S0 [] [] w S μ H) (h0 : w0.heap.size ≤ D) : LeavesInM Fence.wide d P fnn a.tmps (CPost w0 S0 [] [] fun r H'=>r = X ∧ H' = []) a.defers .returning w := by
 have hnd : ∀ r cs t p,(Obj.deferred r) ≠ .cells cs t p := fun _ _ _ _ e=>by cases e
 rw [hf.nodef]
 refine ⟨by simp, .inl ⟨D,_,rfl,run_takeDeferred hD,?_⟩⟩
 obtain ⟨v,hrun,hrep⟩ := results_run (P := P) hrs hf (w.putObj D (.deferred none))
 have hrepX : rep S μ X v := by rw [← hX];exact hrep.toRo hr
 have hr2 := hr.touch (w' := w.putObj D (.deferred none)) D (NoCells.of hD (hnd _)) (putObj_other _ _ _)
 have hle : HLe H [] := by cases H <;> trivial
 refine ⟨v,hrun,v,X,[],S,μ.take 0,rfl,⟨rfl,rfl⟩,hr2.le hle rfl,hrepX.take hl,?_⟩
 exact (hst.touch (w' := w.putObj D (.deferred none)) (l := D) h0 rfl rfl rfl (Nat.le_of_eq (putObj_size w D _).symm) (putObj_other _ _ _)).trans (Le.step (s := ⟨H,[]⟩) (s' := ⟨[],[]⟩) ⟨hle,rfl,trivial⟩ (Nat.le_refl _) _ _ _)
end
end Go.Proofs.YtoeajbhlkccekaaDoor

namespace Go.Proofs.YtoeajbhlkccekaaDoor
open Go.RowKit
def ty_a16_sl_api_Item : TypeId := 23
def ty_int : TypeId := 3
def ty_sl_api_Item : TypeId := 22
def ty_string : TypeId := 9
def zc_sl_api_Item : List AV := [(V (.slice none 0 0))]
noncomputable def span_least_c : Code := (Tryd.f91.body).getD .skip
def span_least_h : Hint := (.two .n (.two .n (.join [3] (.two .n (.one (.lp [] [1,3,6,7] [3] (.two .n (.two (.two .n .n) (.join [1,3,6,7] (.one (.two .n (.join [1,3,4,6,7,30] .n (.two .n .n)))) .n)))))) (.two .n .n))))
noncomputable def span_least_env (m : Nat) : Env := []
noncomputable abbrev span_least_fin : KO (AV × List AObj) := tellFK Tryd.prog [.tmp 2]
noncomputable def span_least_r3 (m : Nat) (n0 : Nat) (kc : ASt → RO) (kx : KO (AV × List AObj)) (s : ASt) : RO := joinW Tryd.prog GG (span_least_env m) m ⟨34,[]⟩ (cdR (cdR (cdR (cdL (cdL (cdR (cdL (cdR (cdR span_least_c))))))))) span_least_h.r.r.l.r.c.c.r.r.r s (backW n0 [1,3,6,7] [3] kc kx)
noncomputable def span_least_r2 (m : Nat) (n0 : Nat) (kc : ASt → RO) (kx : KO (AV × List AObj)) (s : ASt) : RO := joinW Tryd.prog GG (span_least_env m) m ⟨34,[]⟩ (cdR (cdR (cdL (cdL (cdR (cdR (cdL (cdL (cdR (cdL (cdR (cdR span_least_c)))))))))))) span_least_h.r.r.l.r.c.c.r.r.l.c.r.r s (blockX 1 (seqX (fun s=>span_least_r3 m n0 kc kx ⟨s.H,[(1,gt s.T 1),(3,gt s.T 3),(6,gt s.T 6),(7,gt s.T 7)]⟩) (backW n0 [1,3,6,7] [3] kc kx)))
noncomputable def span_least_r1 (m : Nat) (s : ASt) : RO := joinW Tryd.prog GG (span_least_env m) m ⟨34,[]⟩ (cdR (cdR (cdR span_least_c))) span_least_h.r.r.r s (span_least_fin)
noncomputable def span_least_b1 (m : Nat) (s : ASt) (kc : ASt → RO) (kx : KO (AV × List AObj)) : RO := bodyW Tryd.prog GG (span_least_env m) m ⟨34,[]⟩ (cdL (cdL (cdR (cdL (cdR (cdR span_least_c)))))) span_least_h.r.r.l.r.c.c [1,3,6,7] [3] s kc kx
noncomputable def span_least (m : Nat) (t0 : AV) : RO := exec Tryd.prog GG (span_least_env m) m ⟨34,[]⟩ span_least_c span_least_h ⟨[],argsT 0 [t0]⟩ (span_least_fin)
theorem span_least_r3_eq (m : Nat) (n0 : Nat) (kc : ASt → RO) (kx : KO (AV × List AObj)) (H : List AObj) (t1 t3 t6 t7 : AV) : span_least_r3 m n0 kc kx ⟨H,[(1,t1),(3,t3),(6,t6),(7,t7)]⟩ =
 binE none false false .add t7 (V (.int .i64 1)) fun t32 =>
 backE n0 H [(1,t1),(3,t3),(6,t6),(7,t32)] kc := by
 refine (joinW_eq _ _ _ _ _ _ _ _ _).trans ?_
 kernel_rfl
theorem span_least_r2_eq (m : Nat) (n0 : Nat) (kc : ASt → RO) (kx : KO (AV × List AObj)) (H : List AObj) (t1 t3 t4 t6 t7 t30 : AV) : span_least_r2 m n0 kc kx ⟨H,[(1,t1),(3,t3),(4,t4),(6,t6),(7,t7),(30,t30)]⟩ =
 condE t30 (
  span_least_r3 m n0 kc kx ⟨H,[(1,t1),(3,t4),(6,t6),(7,t7)]⟩) (
  span_least_r3 m n0 kc kx ⟨H,[(1,t1),(3,t3),(6,t6),(7,t7)]⟩) := by
 refine (joinW_eq _ _ _ _ _ _ _ _ _).trans ?_
 kernel_rfl
theorem span_least_r1_eq (m : Nat) (H : List AObj) (t3 : AV) : span_least_r1 m ⟨H,[(3,t3)]⟩ =
 tellK H (ro H t3) := by
 refine (joinW_eq _ _ _ _ _ _ _ _ _).trans ?_
 kernel_rfl
theorem span_least_b1_eq (m : Nat) (H : List AObj) (t1 t3 t6 t7 : AV) (kc : ASt → RO) (kx : KO (AV × List AObj)) : span_least_b1 m ⟨H,[(1,t1),(3,t3),(6,t6),(7,t7)]⟩ kc kx =
 binE none false false .lss t7 (V (.int .i64 16)) fun t8 =>
 condE t8 (
  idxVE false (some (16,1)) t6 t7 fun t10 =>
  lenE false true H t10 fun t12 =>
  binE none false false .gtr t12 (V (.int .i64 0)) fun t13 =>
  condE t13 (
   binE none false false .lss t3 (V (.int .i64 0)) fun t16 =>
   condE t16 (
   span_least_r2 m H.length kc kx ⟨H,[(1,t1),(3,t3),(4,t7),(6,t6),(7,t7),(30,(V (.bool true)))]⟩) (
   idxSE 7 H t10 (V (.int .i64 0)) fun t19 =>
   fieldE (some (0,1)) t19 fun t20 =>
   loadE 1 H t20 fun t21 =>
   idxPE 16 1 t1 t3 fun t23 =>
   loadE 1 H t23 fun t24 =>
   idxSE 7 H t24 (V (.int .i64 0)) fun t25 =>
   fieldE (some (0,1)) t25 fun t26 =>
   loadE 1 H t26 fun t27 =>
   binE none false false .lss t21 t27 fun t28 =>
   span_least_r2 m H.length kc kx ⟨H,[(1,t1),(3,t3),(4,t7),(6,t6),(7,t7),(30,t28)]⟩)) (
   span_least_r2 m H.length kc kx ⟨H,[(1,t1),(3,t3),(4,t7),(6,t6),(7,t7),(30,(V (.bool false)))]⟩)) (
  kx (.exit 0) ⟨H,[(3,t3)]⟩) := by
 refine (bodyW_eq _ _ _ _ _ _ _ _ _ _ _ _).trans ?_
 kernel_rfl
theorem span_least_eq (m : Nat) (t0 : AV) : span_least m t0 =
 boxE ty_a16_sl_api_Item [] t0 fun t1 H1 =>
 loadE 18 H1 t1 fun t6 =>
 iterC m (span_least_b1 m) ⟨H1,[(1,t1),(3,(V (.int .i64 (-1)))),(6,t6),(7,(V (.int .i64 0)))]⟩ (blockX 0 (seqX (fun s=>span_least_r1 m ⟨s.H,[(3,gt s.T 3)]⟩) (span_least_fin))) := by
 refine (tellX _ _ _ _ _ _ _ _ _).trans ?_
 kernel_rfl
noncomputable def span_least_t (m : Nat) : List AV → RO|[t0]=>span_least m t0|_=>none
theorem span_least_ok (m : Nat) : ∀ args X H',span_least_t m args = some (X,H') → ACp Tryd.prog GG 91 args X := by
 intro args X H' h
 unfold span_least_t at h
 split at h
 ·exact tell_okK MIX (by intro f e h;cases h) (f := 91) (c := span_least_c) Tryd.func91 rfl (by kernel_rfl) _ rfl Tryd.ntmps91 (Nat.le_of_ble_eq_true rfl) span_least_h h
 ·cases h
noncomputable def span_all_c : Code := (Tryd.f72.body).getD .skip
def span_all_h : Hint := (.two .n (.two .n .n))
noncomputable def span_all_env (m : Nat) : Env := []
noncomputable abbrev span_all_fin (n0 : Nat) : KO (AV × List AObj) := openFK Tryd.prog n0 [.tmp 2]
noncomputable def span_all (m : Nat) (t0 : AV) (H : List AObj) : RO := exec Tryd.prog GG (span_all_env m) m ⟨4,[]⟩ span_all_c span_all_h ⟨H,argsT 0 [t0]⟩ (span_all_fin H.length)
theorem span_all_eq (m : Nat) (t0 : AV) (H : List AObj) : span_all m t0 H =
 boxE ty_api_Trunk H t0 fun t1 H2 =>
 whenE (([t1] : List AV).all cap0) (
 openK H2 (ro H2 (CL (.func 90) 0 [t1]))) := by
 refine (openX Tryd.prog GG (span_all_env m) m ⟨4,[]⟩ H.length span_all_c span_all_h ⟨H,argsT 0 [t0]⟩ [.tmp 2]).trans ?_
 kernel_rfl
noncomputable def span_all_t (m : Nat) : List AV → List AObj → RO|[t0],H=>span_all m t0 H|_,_=>none
theorem span_all_ok (m : Nat) : ∀ args H X H',span_all_t m args H = some (X,H') → AC Tryd.prog GG 72 args H (Is X H') := by
 intro args H X H' h
 unfold span_all_t at h
 split at h
 ·exact open_ok (n := H.length) MIX (by intro f e h;cases h) (f := 72) (c := span_all_c) Tryd.func72 rfl (by kernel_rfl) _ rfl Tryd.ntmps72 (Nat.le_of_ble_eq_true rfl) span_all_h h
 ·cases h
noncomputable def span_right_c : Code := (Tryd.f71.body).getD .skip
def span_right_h : Hint := (.two .n (.two (.two .n (.two (.two .n .n) .n)) (.join [] (.two .n (.one (.lp [] [10,11,12] [4] (.two .n (.two (.two .n .n) (.two (.one (.two .n (.two .n (.two (.two .n .n) .n)))) .n)))))) (.two .n .n))))
noncomputable def span_right_env (m : Nat) : Env := [(47, .tell (trunk_May_t m)),(89, .tell (key_Pattern_t m))]
noncomputable abbrev span_right_fin : KO (AV × List AObj) := tellFK Tryd.prog [.tmp 4]
noncomputable def span_right_r1 (m : Nat) (s : ASt) : RO := joinW Tryd.prog GG (span_right_env m) m ⟨20,[]⟩ (cdR (cdR (cdR span_right_c))) span_right_h.r.r.r s (span_right_fin)
noncomputable def span_right_b1 (m : Nat) (s : ASt) (kc : ASt → RO) (kx : KO (AV × List AObj)) : RO := bodyW Tryd.prog GG (span_right_env m) m ⟨20,[]⟩ (cdL (cdL (cdR (cdL (cdR (cdR span_right_c)))))) span_right_h.r.r.l.r.c.c [10,11,12] [4] s kc kx
noncomputable def span_right (m : Nat) (t0 t1 : AV) : RO := exec Tryd.prog GG (span_right_env m) m ⟨20,[]⟩ span_right_c span_right_h ⟨[],argsT 0 [t0,t1]⟩ (span_right_fin)
theorem span_right_r1_eq (m : Nat) (H : List AObj) : span_right_r1 m ⟨H,[]⟩ =
 tellK H (ro H (V (.int .i64 0))) := by
 refine (joinW_eq _ _ _ _ _ _ _ _ _).trans ?_
 kernel_rfl
theorem span_right_b1_eq (m : Nat) (H : List AObj) (t10 t11 t12 : AV) (kc : ASt → RO) (kx : KO (AV × List AObj)) : span_right_b1 m ⟨H,[(10,t10),(11,t11),(12,t12)]⟩ kc kx =
 binE none false false .lss t12 t11 fun t13 =>
 condE t13 (
  idxSE 1 H t10 t12 fun t14 =>
  loadE 1 H t14 fun t15 =>
  tellE (key_Pattern_t m [(ro H t15)]) [(ro H t15)] fun t17 =>
  unE .not t17 fun t18 =>
  condE t18 (
   kx .ret ⟨H,[(4,(V (.int .i64 3)))]⟩) (
   binE none false false .add t12 (V (.int .i64 1)) fun t19 =>
   backE H.length H [(10,t10),(11,t11),(12,t19)] kc)) (
  kx (.exit 0) ⟨H,[(4, .nil)]⟩) := by
 refine (bodyW_eq _ _ _ _ _ _ _ _ _ _ _ _).trans ?_
 kernel_rfl
theorem span_right_eq (m : Nat) (t0 t1 : AV) : span_right m t0 t1 =
 boxE ty_api_Trunk [] t0 fun t2 H1 =>
 loadE 34 H1 t2 fun t7 =>
 tellE (trunk_May_t m [(ro H1 t7)]) [(ro H1 t7)] fun t8 =>
 unE .not t8 fun t9 =>
 condE t9 (
  tellK H1 (ro H1 (V (.int .i64 1)))) (
  lenE false true H1 t1 fun t11 =>
  iterC m (span_right_b1 m) ⟨H1,[(10,t1),(11,t11),(12,(V (.int .i64 0)))]⟩ (blockX 0 (seqX (fun s=>span_right_r1 m ⟨s.H,[]⟩) (span_right_fin)))) := by
 refine (tellX _ _ _ _ _ _ _ _ _).trans ?_
 kernel_rfl
noncomputable def span_right_t (m : Nat) : List AV → RO|[t0,t1]=>span_right m t0 t1|_=>none
theorem span_right_ok (m : Nat) : ∀ args X H',span_right_t m args = some (X,H') → ACp Tryd.prog GG 71 args X := by
 intro args X H' h
 unfold span_right_t at h
 split at h
 ·exact tell_okK MIX (by
  intro f e h
  simp only [span_right_env,Prod.mk.injEq,List.mem_cons,List.not_mem_nil,or_false] at h
  rcases h with ⟨rfl,rfl⟩|⟨rfl,rfl⟩
  ·exact trunk_May_ok m
  ·exact key_Pattern_ok m) (f := 71) (c := span_right_c) Tryd.func71 rfl (by kernel_rfl) _ rfl Tryd.ntmps71 (Nat.le_of_ble_eq_true rfl) span_right_h h
 ·cases h
noncomputable def span_Scan_c : Code := (Tryd.f49.body).getD .skip
def span_Scan_h : Hint := (.two .n (.two (.two .n (.two .n (.two (.two .n .n) .n))) (.two .n (.two (.two .n (.one .n)) (.two .n .n)))))
noncomputable def span_Scan_env (m : Nat) : Env := [(71, .tell (span_right_t m)),(72, .keep (span_all_t m))]
noncomputable abbrev span_Scan_fin : KO (AV × List AObj) := tellFK Tryd.prog [.tmp 8, .tmp 9]
noncomputable def span_Scan (m : Nat) (t0 t1 t2 t3 : AV) : RO := exec Tryd.prog GG (span_Scan_env m) m ⟨49,[]⟩ span_Scan_c span_Scan_h ⟨[],argsT 0 [t0,t1,t2,t3]⟩ (span_Scan_fin)
theorem span_Scan_eq (m : Nat) (t0 t1 t2 t3 : AV) : span_Scan m t0 t1 t2 t3 =
 boxE ty_api_Trunk [] t0 fun t4 H1 =>
 boxE ty_string H1 t1 fun t5 H2 =>
 boxE ty_string H2 t2 fun t6 H3 =>
 boxE ty_int H3 t3 fun t7 H4 =>
 loadE 34 H4 t4 fun t14 =>
 loadE 1 H4 t5 fun t15 =>
 loadE 1 H4 t6 fun t16 =>
 buildSE (some (ty_string,1)) 2 [(0,t15),(1,t16)] fun t17 =>
 tellE (span_right m (ro H4 t14) (ro H4 t17)) [(ro H4 t14),(ro H4 t17)] fun t18 =>
 binE none false false .neq t18 (V (.int .i64 0)) fun t20 =>
 condE t20 (
  tellK H4 (ro H4 (TU [noT (V (.slice none 0 0)),noT t18]))) (
  allocE (some zc_sl_api_Item) ty_sl_api_Item H4 fun t11 H5 =>
  loadE 34 H5 t4 fun t22 =>
  keepE (span_all m (ro H5 t22) H5) fun t23 H6 =>
  none) := by
 refine (tellX _ _ _ _ _ _ _ _ _).trans ?_
 kernel_rfl
noncomputable def span_Scan_t (m : Nat) : List AV → RO|[t0,t1,t2,t3]=>span_Scan m t0 t1 t2 t3|_=>none
theorem span_Scan_ok (m : Nat) : ∀ args X H',span_Scan_t m args = some (X,H') → ACp Tryd.prog GG 49 args X := by
 intro args X H' h
 unfold span_Scan_t at h
 split at h
 ·exact tell_okK MIX (by
  intro f e h
  simp only [span_Scan_env,Prod.mk.injEq,List.mem_cons,List.not_mem_nil,or_false] at h
  rcases h with ⟨rfl,rfl⟩|⟨rfl,rfl⟩
  ·exact span_right_ok m
  ·exact span_all_ok m) (f := 49) (c := span_Scan_c) Tryd.func49 rfl (by kernel_rfl) _ rfl Tryd.ntmps49 (Nat.le_of_ble_eq_true rfl) span_Scan_h h
 ·cases h
end Go.Proofs.YtoeajbhlkccekaaDoor

namespace Go.Proofs.YtoeajbhlkccekaaDoor
open Go.RowKit
noncomputable def ScanA_c : Code := farC 3 (endC 0 ((Tryd.f49.body).getD .skip)) .skip
def ScanA_h : Hint := (.two .n (.two (.two .n (.two .n (.two (.two .n .n) .n))) (.two .n .n)))
noncomputable def ScanA_env (m : Nat) : Env := [(71, .tell (span_right_t m))]
noncomputable abbrev ScanA_fin (n0 : Nat) : KO (AV × List AObj) := nslFK [4,5,6,7,11]
noncomputable def ScanA (m : Nat) (D : List Deferred) (t0 t1 t2 t3 : AV) (H : List AObj) : RO := exec Tryd.prog GG (ScanA_env m) m ⟨49,D⟩ ScanA_c ScanA_h ⟨H,[(0,t0),(1,t1),(2,t2),(3,t3)]⟩ (ScanA_fin H.length)
theorem ScanA_eq (m : Nat) (D : List Deferred) (t0 t1 t2 t3 : AV) (H : List AObj) : ScanA m D t0 t1 t2 t3 H =
 boxE ty_api_Trunk H t0 fun t4 H2 =>
 boxE ty_string H2 t1 fun t5 H3 =>
 boxE ty_string H3 t2 fun t6 H4 =>
 boxE ty_int H4 t3 fun t7 H5 =>
 loadE 34 H5 t4 fun t14 =>
 loadE 1 H5 t5 fun t15 =>
 loadE 1 H5 t6 fun t16 =>
 buildSE (some (ty_string,1)) 2 [(0,t15),(1,t16)] fun t17 =>
 tellE (span_right m (ro H5 t14) (ro H5 t17)) [(ro H5 t14),(ro H5 t17)] fun t18 =>
 binE none false false .neq t18 (V (.int .i64 0)) fun t20 =>
 condE t20 (
  none) (
  allocE (some zc_sl_api_Item) ty_sl_api_Item H5 fun t11 H6 =>
  some (TU [t4,t5,t6,t7,t11],H6)) := by
 refine (nslX _ _ _ _ _ _ _ _ _).trans ?_
 kernel_rfl
theorem ScanA_hE (m : Nat) : EnvOk Tryd.prog GG (ScanA_env m) := (by
 intro f e h
 simp only [ScanA_env,Prod.mk.injEq,List.mem_cons,List.not_mem_nil,or_false] at h
 obtain ⟨rfl,rfl⟩ := h
 ·exact span_right_ok m)
end Go.Proofs.YtoeajbhlkccekaaDoor

namespace Go.Proofs.YtoeajbhlkccekaaDoor
open Go.RowKit
noncomputable def ScanB_c : Code := (cdL (cdL (endC 3 ((Tryd.f49.body).getD .skip))))
def ScanB_h : Hint := .n
noncomputable def ScanB_env (m : Nat) : Env := [(72, .keep (span_all_t m))]
noncomputable abbrev ScanB_fin (n0 : Nat) : KO (AV × List AObj) := nslFK [4,5,6,7,11,23]
noncomputable def ScanB (m : Nat) (D : List Deferred) (t4 t5 t6 t7 t11 : AV) (H : List AObj) : RO := exec Tryd.prog GG (ScanB_env m) m ⟨49,D⟩ ScanB_c ScanB_h ⟨H,[(4,t4),(5,t5),(6,t6),(7,t7),(11,t11)]⟩ (ScanB_fin H.length)
theorem ScanB_eq (m : Nat) (D : List Deferred) (t4 t5 t6 t7 t11 : AV) (H : List AObj) : ScanB m D t4 t5 t6 t7 t11 H =
 loadE 34 H t4 fun t22 =>
 keepE (span_all m (ro H t22) H) fun t23 H2 =>
 some (TU [t4,t5,t6,t7,t11,t23],H2) := by
 refine (nslX _ _ _ _ _ _ _ _ _).trans ?_
 kernel_rfl
theorem ScanB_hE (m : Nat) : EnvOk Tryd.prog GG (ScanB_env m) := (by
 intro f e h
 simp only [ScanB_env,Prod.mk.injEq,List.mem_cons,List.not_mem_nil,or_false] at h
 obtain ⟨rfl,rfl⟩ := h
 ·exact span_all_ok m)
end Go.Proofs.YtoeajbhlkccekaaDoor

namespace Go.Proofs.YtoeajbhlkccekaaDoor
open Go.RowKit
noncomputable def ScanC_c : Code := (endC 4 ((Tryd.f49.body).getD .skip))
def ScanC_h : Hint := (.two .n .n)
noncomputable def ScanC_env (m : Nat) : Env := []
noncomputable abbrev ScanC_fin (n0 : Nat) : KO (AV × List AObj) := rawFK Tryd.prog n0 [.tmp 8, .tmp 9]
noncomputable def ScanC (m : Nat) (D : List Deferred) (t11 : AV) (H : List AObj) : RO := exec Tryd.prog GG (ScanC_env m) m ⟨49,D⟩ ScanC_c ScanC_h ⟨H,[(11,t11)]⟩ (ScanC_fin H.length)
theorem ScanC_eq (m : Nat) (D : List Deferred) (t11 : AV) (H : List AObj) : ScanC m D t11 H =
 loadE 1 H t11 fun t48 =>
 some (ro H (TU [noT t48,noT (V (.int .i64 0))]),H) := by
 refine (rawX Tryd.prog GG (ScanC_env m) m ⟨49,D⟩ H.length ScanC_c ScanC_h ⟨H,[(11,t11)]⟩ [.tmp 8, .tmp 9]).trans ?_
 kernel_rfl
theorem ScanC_hE (m : Nat) : EnvOk Tryd.prog GG (ScanC_env m) := (by intro f e h;cases h)
end Go.Proofs.YtoeajbhlkccekaaDoor

namespace Go.Proofs.YtoeajbhlkccekaaDoor
open Go.RowKit
def zc_a16_sl_api_Item : List AV := [(V (.slice none 0 0)),(V (.slice none 0 0)),(V (.slice none 0 0)),(V (.slice none 0 0)),(V (.slice none 0 0)),(V (.slice none 0 0)),(V (.slice none 0 0)),(V (.slice none 0 0)),(V (.slice none 0 0)),(V (.slice none 0 0)),(V (.slice none 0 0)),(V (.slice none 0 0)),(V (.slice none 0 0)),(V (.slice none 0 0)),(V (.slice none 0 0)),(V (.slice none 0 0))]
noncomputable def AllA_c : Code := farC 3 (endC 0 ((Tryd.f90.body).getD .skip)) .skip
def AllA_h : Hint := (.two .n (.two .n (.two .n .n)))
noncomputable def AllA_env (m : Nat) : Env := [(91, .tell (span_least_t m))]
noncomputable abbrev AllA_fin (n0 : Nat) : KO (AV × List AObj) := nslFK [0,3,4,5]
noncomputable def AllA (m : Nat) (D : List Deferred) (t0 t1 : AV) (H : List AObj) : RO := exec Tryd.prog GG (AllA_env m) m ⟨31,D⟩ AllA_c AllA_h ⟨H,[(0,t0),(1,t1)]⟩ (AllA_fin H.length)
theorem AllA_eq (m : Nat) (D : List Deferred) (t0 t1 : AV) (H : List AObj) : AllA m D t0 t1 H =
 fieldE (some (0,18)) t1 fun t6 =>
 loadE 18 H t6 fun t7 =>
 allocE (some zc_a16_sl_api_Item) ty_a16_sl_api_Item H fun t3 H2 =>
 storeE 18 H2 t3 t7 fun H3 =>
 loadE 18 H3 t3 fun t8 =>
 tellE (span_least m (ro H3 t8)) [(ro H3 t8)] fun t9 =>
 some (TU [t0,t3,(V (.int .i64 0)),t9],H3) := by
 refine (nslX _ _ _ _ _ _ _ _ _).trans ?_
 kernel_rfl
theorem AllA_hE (m : Nat) : EnvOk Tryd.prog GG (AllA_env m) := (by
 intro f e h
 simp only [AllA_env,Prod.mk.injEq,List.mem_cons,List.not_mem_nil,or_false] at h
 obtain ⟨rfl,rfl⟩ := h
 ·exact span_least_ok m)
end Go.Proofs.YtoeajbhlkccekaaDoor

namespace Go.Proofs.YtoeajbhlkccekaaDoor
open Go.RowKit
noncomputable def AllB_c : Code := (cdL (cdL (cdL (cdL (endC 3 ((Tryd.f90.body).getD .skip))))))
def AllB_h : Hint := .n
noncomputable def AllB_env (m : Nat) : Env := []
noncomputable abbrev AllB_fin (n0 : Nat) : KO (AV × List AObj) := nslFK [0,3,4,5,11]
noncomputable def AllB (m : Nat) (D : List Deferred) (t0 t3 t4 t5 : AV) (H : List AObj) : RO := exec Tryd.prog GG (AllB_env m) m ⟨31,D⟩ AllB_c AllB_h ⟨H,[(0,t0),(3,t3),(4,t4),(5,t5)]⟩ (AllB_fin H.length)
theorem AllB_eq (m : Nat) (D : List Deferred) (t0 t3 t4 t5 : AV) (H : List AObj) : AllB m D t0 t3 t4 t5 H =
 binE none false false .geq t5 (V (.int .i64 0)) fun t11 =>
 some (TU [t0,t3,t4,t5,t11],H) := by
 refine (nslX _ _ _ _ _ _ _ _ _).trans ?_
 kernel_rfl
theorem AllB_hE (m : Nat) : EnvOk Tryd.prog GG (AllB_env m) := (by intro f e h;cases h)
end Go.Proofs.YtoeajbhlkccekaaDoor

namespace Go.Proofs.YtoeajbhlkccekaaDoor
open Go.RowKit
noncomputable def AllC_c : Code := (regP 7 (cdL (cdL (cdL (cdL (cdR (cdL (cdL (endC 3 ((Tryd.f90.body).getD .skip))))))))))
def AllC_h : Hint := .n
noncomputable def AllC_env (m : Nat) : Env := []
noncomputable abbrev AllC_fin (n0 : Nat) : KO (AV × List AObj) := nslFK [0,3,4,5,14,15,20]
noncomputable def AllC (m : Nat) (D : List Deferred) (t0 t3 t4 t5 : AV) (H : List AObj) : RO := exec Tryd.prog GG (AllC_env m) m ⟨31,D⟩ AllC_c AllC_h ⟨H,[(0,t0),(3,t3),(4,t4),(5,t5)]⟩ (AllC_fin H.length)
theorem AllC_eq (m : Nat) (D : List Deferred) (t0 t3 t4 t5 : AV) (H : List AObj) : AllC m D t0 t3 t4 t5 H =
 idxPE 16 1 t3 t5 fun t17 =>
 loadE 1 H t17 fun t18 =>
 idxSE 7 H t18 (V (.int .i64 0)) fun t19 =>
 loadE 7 H t19 fun t20 =>
 some (TU [t0,t3,t4,t5,t0,t4,t20],H) := by
 refine (nslX _ _ _ _ _ _ _ _ _).trans ?_
 kernel_rfl
theorem AllC_hE (m : Nat) : EnvOk Tryd.prog GG (AllC_env m) := (by intro f e h;cases h)
end Go.Proofs.YtoeajbhlkccekaaDoor

namespace Go.Proofs.YtoeajbhlkccekaaDoor
open Go.RowKit
noncomputable def AllD_c : Code := (regD 8 (cdL (cdL (cdL (cdL (cdR (cdL (cdL (endC 3 ((Tryd.f90.body).getD .skip))))))))))
def AllD_h : Hint := .n
noncomputable def AllD_env (m : Nat) : Env := []
noncomputable abbrev AllD_fin (n0 : Nat) : KO (AV × List AObj) := nslFK [0,3,4,5,22]
noncomputable def AllD (m : Nat) (D : List Deferred) (t0 t3 t4 t5 t21 : AV) (H : List AObj) : RO := exec Tryd.prog GG (AllD_env m) m ⟨31,D⟩ AllD_c AllD_h ⟨H,[(0,t0),(3,t3),(4,t4),(5,t5),(21,t21)]⟩ (AllD_fin H.length)
theorem AllD_eq (m : Nat) (D : List Deferred) (t0 t3 t4 t5 t21 : AV) (H : List AObj) : AllD m D t0 t3 t4 t5 t21 H =
 unE .not t21 fun t22 =>
 some (TU [t0,t3,t4,t5,t22],H) := by
 refine (nslX _ _ _ _ _ _ _ _ _).trans ?_
 kernel_rfl
theorem AllD_hE (m : Nat) : EnvOk Tryd.prog GG (AllD_env m) := (by intro f e h;cases h)
end Go.Proofs.YtoeajbhlkccekaaDoor

namespace Go.Proofs.YtoeajbhlkccekaaDoor
open Go.RowKit
noncomputable def AllE_c : Code := (cdR (cdL (cdL (cdR (cdL (cdL (endC 3 ((Tryd.f90.body).getD .skip))))))))
def AllE_h : Hint := (.two .n .n)
noncomputable def AllE_env (m : Nat) : Env := []
noncomputable abbrev AllE_fin (n0 : Nat) : KO (AV × List AObj) := nslFK [0,3,4,5]
noncomputable def AllE (m : Nat) (D : List Deferred) (t0 t3 t4 t5 : AV) (H : List AObj) : RO := exec Tryd.prog GG (AllE_env m) m ⟨31,D⟩ AllE_c AllE_h ⟨H,[(0,t0),(3,t3),(4,t4),(5,t5)]⟩ (AllE_fin H.length)
theorem AllE_eq (m : Nat) (D : List Deferred) (t0 t3 t4 t5 : AV) (H : List AObj) : AllE m D t0 t3 t4 t5 H =
 idxPE 16 1 t3 t5 fun t25 =>
 loadE 1 H t25 fun t26 =>
 sliceE false (some (ty_api_Item,7)) H t26 (some (V (.int .i64 1))) none fun t27 =>
 idxPE 16 1 t3 t5 fun t28 =>
 storeE 1 H t28 t27 fun H2 =>
 binE none false false .add t4 (V (.int .i64 1)) fun t30 =>
 some (TU [t0,t3,t30,t5],H2) := by
 refine (nslX _ _ _ _ _ _ _ _ _).trans ?_
 kernel_rfl
theorem AllE_hE (m : Nat) : EnvOk Tryd.prog GG (AllE_env m) := (by intro f e h;cases h)
end Go.Proofs.YtoeajbhlkccekaaDoor

namespace Go.Proofs.YtoeajbhlkccekaaDoor
open Go.RowKit
noncomputable def AllF_c : Code := (cdR (cdR (cdL (cdL (endC 3 ((Tryd.f90.body).getD .skip))))))
def AllF_h : Hint := .n
noncomputable def AllF_env (m : Nat) : Env := [(91, .tell (span_least_t m))]
noncomputable abbrev AllF_fin (n0 : Nat) : KO (AV × List AObj) := nslFK [0,3,4,5]
noncomputable def AllF (m : Nat) (D : List Deferred) (t0 t3 t4 t5 : AV) (H : List AObj) : RO := exec Tryd.prog GG (AllF_env m) m ⟨31,D⟩ AllF_c AllF_h ⟨H,[(0,t0),(3,t3),(4,t4),(5,t5)]⟩ (AllF_fin H.length)
theorem AllF_eq (m : Nat) (D : List Deferred) (t0 t3 t4 t5 : AV) (H : List AObj) : AllF m D t0 t3 t4 t5 H =
 loadE 18 H t3 fun t12 =>
 tellE (span_least m (ro H t12)) [(ro H t12)] fun t13 =>
 some (TU [t0,t3,t4,t13],H) := by
 refine (nslX _ _ _ _ _ _ _ _ _).trans ?_
 kernel_rfl
theorem AllF_hE (m : Nat) : EnvOk Tryd.prog GG (AllF_env m) := (by
 intro f e h
 simp only [AllF_env,Prod.mk.injEq,List.mem_cons,List.not_mem_nil,or_false] at h
 obtain ⟨rfl,rfl⟩ := h
 ·exact span_least_ok m)
end Go.Proofs.YtoeajbhlkccekaaDoor

namespace Go.Proofs.YtoeajbhlkccekaaDoor
open Go.RowKit
noncomputable def ScanR_c : Code := (rfS (cdL (cdR (cdL (endC 3 ((Tryd.f49.body).getD .skip))))))
def ScanR_h : Hint := (.two .n (.one (.join [5,8,9,11,13] (.join [5,8,9,11,13,39] .n (.two .n .n)) (.two .n (.two .n .n)))))
noncomputable def ScanR_env (m : Nat) : Env := []
noncomputable abbrev ScanR_fin (n0 : Nat) : KO (AV × List AObj) := rndFK n0
noncomputable def ScanR_r2 (m : Nat) (D : List Deferred) (n0k : Nat) (s : ASt) : RO := joinW Tryd.prog GG (ScanR_env m) m ⟨49,D⟩ (cdR (cdL (cdR ScanR_c))) ScanR_h.r.c.r s (blockX 1 (ScanR_fin n0k))
noncomputable def ScanR_r1 (m : Nat) (D : List Deferred) (n0k : Nat) (s : ASt) : RO := joinW Tryd.prog GG (ScanR_env m) m ⟨49,D⟩ (cdR (cdL (cdL (cdR ScanR_c)))) ScanR_h.r.c.l.r s (seqX (fun s=>ScanR_r2 m D n0k ⟨s.H,[(5,gt s.T 5),(8,gt s.T 8),(9,gt s.T 9),(11,gt s.T 11),(13,gt s.T 13)]⟩) (blockX 1 (ScanR_fin n0k)))
noncomputable def ScanR (m : Nat) (D : List Deferred) (t25 t24 t4 t5 t6 t7 t11 : AV) (H : List AObj) : RO := exec Tryd.prog GG (ScanR_env m) m ⟨49,D⟩ ScanR_c ScanR_h ⟨H,[(25,t25),(24,t24),(4,t4),(5,t5),(6,t6),(7,t7),(11,t11)]⟩ (ScanR_fin H.length)
theorem ScanR_r2_eq (m : Nat) (D : List Deferred) (n0k : Nat) (H : List AObj) (t5 t8 t9 t11 t13 : AV) : ScanR_r2 m D n0k ⟨H,[(5,t5),(8,t8),(9,t9),(11,t11),(13,t13)]⟩ =
 fieldE (some (0,1)) t13 fun t40 =>
 loadE 1 H t40 fun t41 =>
 loadE 1 H t5 fun t42 =>
 binE none false false .geq t41 t42 fun t43 =>
 condE t43 (
  loadE 1 H t11 fun t44 =>
  loadE 7 H t13 fun t45 =>
  buildSE (some (ty_api_Item,5)) 1 [(0,t45)] fun t46 =>
  appE (some (ty_api_Item,5)) H t44 t46 fun t47 H2 =>
  storeE 1 H2 t11 t47 fun H3 =>
  roundK n0k H3 (V (.bool true))) (
  roundK n0k H (V (.bool true))) := by
 refine (joinW_eq _ _ _ _ _ _ _ _ _).trans ?_
 kernel_rfl
theorem ScanR_r1_eq (m : Nat) (D : List Deferred) (n0k : Nat) (H : List AObj) (t5 t8 t9 t11 t13 t39 : AV) : ScanR_r1 m D n0k ⟨H,[(5,t5),(8,t8),(9,t9),(11,t11),(13,t13),(39,t39)]⟩ =
 condE t39 (
  roundK n0k H (V (.int .i64 0))) (
  ScanR_r2 m D n0k ⟨H,[(5,t5),(8,t8),(9,t9),(11,t11),(13,t13)]⟩) := by
 refine (joinW_eq _ _ _ _ _ _ _ _ _).trans ?_
 kernel_rfl
theorem ScanR_eq (m : Nat) (D : List Deferred) (t25 t24 t4 t5 t6 t7 t11 : AV) (H : List AObj) : ScanR m D t25 t24 t4 t5 t6 t7 t11 H =
 allocE (some zc_api_Item) ty_api_Item H fun t13 H2 =>
 storeE 7 H2 t13 t25 fun H3 =>
 loadE 1 H3 t11 fun t26 =>
 lenE false true H3 t26 fun t27 =>
 loadE 1 H3 t7 fun t28 =>
 binE none false false .geq t27 t28 fun t29 =>
 condE t29 (
  ScanR_r1 m D H.length ⟨H3,[(5,t5),(8, .nil),(9, .nil),(11,t11),(13,t13),(39,(V (.bool true)))]⟩) (
  loadE 1 H3 t6 fun t31 =>
  binE none false false .neq t31 (V (.string ⟨#[]⟩)) fun t32 =>
  condE t32 (
  fieldE (some (0,1)) t13 fun t34 =>
  loadE 1 H3 t34 fun t35 =>
  loadE 1 H3 t6 fun t36 =>
  binE none false false .geq t35 t36 fun t37 =>
  ScanR_r1 m D H.length ⟨H3,[(5,t5),(8, .nil),(9, .nil),(11,t11),(13,t13),(39,t37)]⟩) (
  ScanR_r1 m D H.length ⟨H3,[(5,t5),(8, .nil),(9, .nil),(11,t11),(13,t13),(39,(V (.bool false)))]⟩)) := by
 refine (rndX Tryd.prog GG (ScanR_env m) m ⟨49,D⟩ H.length ScanR_c ScanR_h ⟨H,[(25,t25),(24,t24),(4,t4),(5,t5),(6,t6),(7,t7),(11,t11)]⟩ ).trans ?_
 kernel_rfl
theorem ScanR_hE (m : Nat) : EnvOk Tryd.prog GG (ScanR_env m) := (by intro f e h;cases h)
end Go.Proofs.YtoeajbhlkccekaaDoor

namespace Go.Proofs.YtoeajbhlkccekaaDoor
open Go.RowKit
attribute [local go_sem] tC_len tC_sure tC_ltA tC_lt1 tC_ro tC_take tC_all1 zcT_eq zcI_len zC_len zC_ltA zC_lt1 zC_sure zC_ro zC_take set_tl set_tv sc_tt sc_zt sc_tz sc_zz add16 tA_def lA_def natInt u_tl u_tv
def hdK (t : Tr) (b : Nat) : Item := (t.leaf b).headD Item.zero
def stepB (t : Tr) (b : Nat) (best : Int) : Int := if (t.leaf b).length = 0 then best else if best < 0 then b else if less (hdK t b).key (hdK t best.toNat).key then b else best
def bestN (t : Tr) : Nat → Int
 |0=>-1
 |k + 1=>stepB t k (bestN t k)
def leastT (t : Tr) : Int := bestN t 16
theorem bestN_at (t : Tr) : ∀ k,bestN t k = -1 ∨ ∃ j,j < k ∧ bestN t k = (j : Nat) ∧ 0 < (t.leaf j).length
 |0=>.inl rfl
 |k + 1=>by
  unfold bestN stepB
  split
  ·rcases bestN_at t k with h|⟨j,h1,h2,h3⟩
   ·exact .inl h
   ·exact .inr ⟨j,by omega,h2,h3⟩
  ·split
   ·exact .inr ⟨k,by omega,rfl,by omega⟩
   ·split
    ·exact .inr ⟨k,by omega,rfl,by omega⟩
    ·rcases bestN_at t k with h|⟨j,h1,h2,h3⟩
     ·exact .inl h
     ·exact .inr ⟨j,by omega,h2,h3⟩
theorem leC_all {t : Tr} {p : AV → Bool} (h1 : ∀ l : List Item,p (lA l) = true) : (leC t).all p = true := List.all_eq_true.2 fun d hd=>by obtain ⟨l,rfl⟩ := leC_mem hd;exact h1 l
theorem leC_ltA {t : Tr} {m : Nat} : (leC t).all (ltA m) = true := leC_all fun _=>rfl
theorem leC_sure {t : Tr} : (leC t).all sure = true := leC_all fun _=>rfl
theorem leC_take {t : Tr} : (leC t).take 16 = leC t := List.take_of_length_le (by rw [leC_len];exact Nat.le_refl _)
theorem leC_ro {t : Tr} {H : List AObj} : (leC t).map (ro1 H) = leC t := by
 have : ∀ l : List AV,(∀ d ∈ l,ro1 H d = d) → l.map (ro1 H) = l := fun l h=>by
  conv=>rhs;rw [← List.map_id l]
  exact List.map_congr_left h
 refine this _ fun d hd=>?_
 obtain ⟨l,rfl⟩ := leC_mem hd;rfl
theorem u_le {R : Type} {t : Tr} {i : Nat} {K1 : AV → Option R} (h : i < 16) : nthE (leC t) i K1 = K1 (lA (t.leaf i)) := by
 simp [nthE,leC,List.getElem?_map,List.getElem?_range h]
theorem set_le {t : Tr} {i : Nat} {l : List Item} : (leC t).set i (SL (l.map (flA Item.cells))) = leC (t.setL i l) := by
 rw [leC,set_map (α := Nat)]
 unfold leC Tr.setL
 refine List.map_congr_left fun j _=>?_
 dsimp only
 split <;> rfl
theorem zle_len : zc_a16_sl_api_Item.length = 16 := _root_.id rfl
theorem zle_set {t : Tr} : setCells zc_a16_sl_api_Item 0 (leC t) = leC t := setCells_all (by rw [leC_len];rfl)
theorem hd_get {l : List Item} (h : 0 < l.length) : l[0] = l.headD Item.zero := by cases l with|nil=>simp at h|cons=>rfl
theorem less_def {a b : Bytes} : Op.bytesLess a b = less a b := _root_.id rfl
theorem least_s (m : Nat) (t : Tr) (hm : 16 < m) : span_least m (.agg (leC t)) = some (nA (leastT t),[]) := by
 rw [span_least_eq]
 simp (config := {maxSteps := 4000000,implicitDefEqProofs := false}) (disch := omega) only [go_sem,leC_sure,leC_take,leC_ltA,leC_len,leC_ro]
 refine iter_go (ι := {k : Nat // k ≤ 16}) (fun k=>⟨[⟨1,ty_a16_sl_api_Item,0,leC t⟩],[(1,OP 0 0),(3,nA (bestN t k.1)),(6, .agg (leC t)),(7,nA k.1)]⟩) (fun k=>16 - k.1) (fun _=>some (nA (leastT t),[])) ?_ ⟨0,Nat.zero_le _⟩ (by dsimp only;omega)
 rintro kx hkx ⟨k,hk⟩ kc hkc
 dsimp only at hkc ⊢
 rw [span_least_b1_eq]
 by_cases hlt : k < 16
 ·have hlt' : (k : Int) < 16 := by omega
  have step := hkc ⟨k + 1,by omega⟩ (by dsimp only;omega)
  dsimp only at step
  rw [show bestN t (k + 1) = stepB t k (bestN t k) from rfl] at step
  unfold stepB at step
  have hb := bestN_at t k
  generalize bestN t k = best at *
  by_cases h0 : 0 < (t.leaf k).length
  ·have h0' : (0 : Int) < ((t.leaf k).length : Int) := by omega
   rw [if_neg (by omega)] at step
   rcases hb with rfl|⟨j,hj,rfl,hj0⟩
   ·rw [if_pos (by omega)] at step
    simp (config := {maxSteps := 4000000,implicitDefEqProofs := false}) (disch := omega) only [go_sem,hlt',u_le,h0',span_least_r2_eq,span_least_r3_eq,w_i64,leC_ltA]
    exact step
   ·have hj16 : j < 16 := by omega
    rw [if_neg (by omega),natInt] at step
    have hj16' : decide ((j : Int) < 16) = true := decide_eq_true (by omega)
    have hjn : ¬ (j : Int) < 0 := by omega
    have hj0' : (0 : Int) < ((t.leaf j).length : Int) := by omega
    simp (config := {maxSteps := 4000000,implicitDefEqProofs := false}) (disch := omega) only [go_sem,hlt',u_le,h0',hj0',hjn,u_nthM,fl_it,h0,hj0,hd_get,hj16,less_def,leC_lt1]
    unfold hdK at step
    cases hl : less ((t.leaf k).headD Item.zero).key ((t.leaf j).headD Item.zero).key with
    |false =>
     rw [hl,if_neg (by decide)] at step
     simp (config := {maxSteps := 4000000,implicitDefEqProofs := false}) (disch := omega) only [go_sem,span_least_r2_eq,span_least_r3_eq,w_i64,leC_ltA,hj16',hj16,leC_lt1]
     exact step
    |true =>
     rw [hl,if_pos rfl] at step
     simp (config := {maxSteps := 4000000,implicitDefEqProofs := false}) (disch := omega) only [go_sem,span_least_r2_eq,span_least_r3_eq,w_i64,leC_ltA,hj16',hj16,leC_lt1]
     exact step
  ·have h0' : ¬ (0 : Int) < ((t.leaf k).length : Int) := by omega
   rw [if_pos (by omega)] at step
   simp (config := {maxSteps := 4000000,implicitDefEqProofs := false}) (disch := omega) only [go_sem,hlt',u_le,h0',span_least_r2_eq,span_least_r3_eq,w_i64,leC_ltA]
   exact step
 ·have hlt' : ¬ (k : Int) < 16 := by omega
  have : k = 16 := by omega
  subst this
  simp (config := {maxSteps := 4000000,implicitDefEqProofs := false}) (disch := omega) only [go_sem,hlt',hkx,span_least_r1_eq]
  rfl
def frO (u : Tr) : AObj := ⟨1,ty_a16_sl_api_Item,0,leC u⟩
def hcl (t : Tr) (lo hi : Bytes) (most : Int) (acc : List Item) : List AObj := [⟨1,ty_api_Trunk,0,tC t⟩,⟨1,ty_string,0,[sA lo]⟩,⟨1,ty_string,0,[sA hi]⟩,⟨1,ty_int,0,[nA most]⟩,⟨1,ty_sl_api_Item,0,[OW 6 acc.length]⟩,⟨1,ty_api_Trunk,0,tC t⟩,⟨2,ty_api_Item,5,acc.map (flA Item.cells)⟩]
def stopB (hi : Bytes) (most : Int) (x : Item) (acc : List Item) : Bool := decide (most ≤ acc.length) || (!hi.isEmpty && !less x.key hi)
def takeX (lo : Bytes) (x : Item) (acc : List Item) : List Item := if less x.key lo then acc else acc ++ [x]
section
variable {t u : Tr} {lo hi : Bytes} {most : Int} {acc : List Item}
theorem right_s (m : Nat) (t : Tr) (lo hi : Bytes) (hm : 2 < m) (h : t.Ok) : span_right m (tA t) (SL [sA lo,sA hi]) = some (nA (if mayT t then (if patB lo && patB hi then 0 else 3) else 1),[]) := by
 rw [span_right_eq]
 have hM := trunk_May_e m t h
 rw [tA_def] at hM ⊢
 simp (config := {maxSteps := 4000000,implicitDefEqProofs := false}) (disch := omega) only [go_sem,hM]
 cases hmay : mayT t with
 |false=>simp (config := {maxSteps := 4000000,implicitDefEqProofs := false}) only [go_sem,]
 |true =>
  simp (config := {maxSteps := 4000000,implicitDefEqProofs := false}) only [go_sem,]
  obtain ⟨q,rfl⟩ : ∃ q,m = q + 3 := ⟨m - 3,by omega⟩
  rw [iterC,span_right_b1_eq]
  have h1 := key_Pattern_e (q + 3) lo
  have h2 := key_Pattern_e (q + 3) hi
  simp (config := {maxSteps := 4000000,implicitDefEqProofs := false}) (disch := omega) only [go_sem,h1,w_i64]
  cases hf : patB lo with
  |false=>simp (config := {maxSteps := 4000000,implicitDefEqProofs := false}) only [go_sem,]
  |true =>
   simp (config := {maxSteps := 4000000,implicitDefEqProofs := false}) (disch := omega) only [go_sem,]
   rw [iterC,span_right_b1_eq]
   simp (config := {maxSteps := 4000000,implicitDefEqProofs := false}) (disch := omega) only [go_sem,h2,w_i64]
   cases ht : patB hi with
   |false=>simp (config := {maxSteps := 4000000,implicitDefEqProofs := false}) only [go_sem,]
   |true =>
    simp (config := {maxSteps := 4000000,implicitDefEqProofs := false}) (disch := omega) only [go_sem,]
    rw [iterC,span_right_b1_eq]
    simp (config := {maxSteps := 4000000,implicitDefEqProofs := false}) (disch := omega) only [go_sem,span_right_r1_eq]
def itO (x : Item) : AObj := ⟨1,ty_api_Item,0,[V (.string ⟨x.key.toArray⟩),V (.int .i64 x.kind),V (.int .i64 x.i),V (.string ⟨x.s.toArray⟩),V (.int .i64 x.ver)]⟩
theorem round_r1 (m : Nat) (v : Bool) (x : Item) (hl : acc.length + 1 ≤ 34359738368) : ScanR_r1 m [] 8 ⟨hcl t lo hi most acc ++ [frO u,itO x],[(5,OP 1 0),(8, .nil),(9, .nil),(11,OP 4 0),(13,OP 8 0),(39,V (.bool v))]⟩ =
  some (if v then (V (.int .i64 0),hcl t lo hi most acc ++ [frO u]) else (V (.bool true),hcl t lo hi most (takeX lo x acc) ++ [frO u])) := by
 rw [ScanR_r1_eq]
 unfold hcl frO itO takeX
 cases v with
 |true=>simp (config := {maxSteps := 4000000,implicitDefEqProofs := false}) (disch := omega) only [go_sem,leC_ltA,fl_allA,ScanR_r2_eq,ScanR_r1_eq]
 |false =>
  simp (config := {maxSteps := 4000000,implicitDefEqProofs := false}) (disch := omega) only [go_sem,ScanR_r2_eq,less_def]
  cases hk : less x.key lo with
  |true=>simp (config := {maxSteps := 4000000,implicitDefEqProofs := false}) (disch := omega) only [go_sem,leC_ltA,fl_allA]
  |false =>
   simp (config := {maxSteps := 4000000,implicitDefEqProofs := false}) (disch := omega) only [go_sem,leC_ltA,fl_allA,fl_all5,hl,fl_it]
   rw [decide_eq_true (by omega),whenE_t,List.map_append];rfl
theorem round_s (m : Nat) (n : Int) (x : Item) (hl : acc.length + 1 ≤ 34359738368) : ScanR m [] (iA x) (nA n) (OP 0 0) (OP 1 0) (OP 2 0) (OP 3 0) (OP 4 0) (hcl t lo hi most acc ++ [frO u]) =
  some (if stopB hi most x acc then (V (.int .i64 0),hcl t lo hi most acc ++ [frO u]) else (V (.bool true),hcl t lo hi most (takeX lo x acc) ++ [frO u])) := by
 rw [ScanR_eq]
 have hz : setCells zc_api_Item 0 [V (.string ⟨x.key.toArray⟩),V (.int .i64 x.kind),V (.int .i64 x.i),V (.string ⟨x.s.toArray⟩),V (.int .i64 x.ver)] = [V (.string ⟨x.key.toArray⟩),V (.int .i64 x.kind),V (.int .i64 x.i),V (.string ⟨x.s.toArray⟩),V (.int .i64 x.ver)] := rfl
 have r := fun v=>round_r1 (t := t) (u := u) (lo := lo) (hi := hi) (most := most) m v x hl
 unfold stopB
 unfold hcl frO itO at r
 unfold hcl frO
 dsimp only [List.cons_append,List.nil_append] at r ⊢
 simp (config := {maxSteps := 4000000,implicitDefEqProofs := false}) (disch := omega) only [go_sem,iA_def,hz,r]
 by_cases h1 : most ≤ acc.length
 ·simp [h1]
 ·rw [if_neg h1]
  cases hi with
  |nil=>simp [h1]
  |cons c hi' =>
   simp only [h1,less_def]
   cases hk : less x.key (c :: hi') <;> simp
theorem allA_s (m : Nat) (Y : AV) (hm : 16 < m) : AllA m [] Y (OP 5 0) (hcl t lo hi most acc) = some (TU [Y,OP 7 0,nA 0,nA (leastT t)],hcl t lo hi most acc ++ [frO t]) := by
 rw [AllA_eq]
 have hL := least_s m t hm
 unfold hcl frO
 simp (config := {maxSteps := 4000000,implicitDefEqProofs := false}) (disch := omega) only [go_sem,tC_take16,zle_len,zle_set,leC_sure,leC_len,leC_take,leC_ltA,leC_lt1,leC_ro,hL]
theorem allB_s (m : Nat) (Y a3 a4 : AV) (b : Int) (H : List AObj) : AllB m [] Y a3 a4 (nA b) H = some (TU [Y,a3,a4,nA b,bA (decide (0 ≤ b))],H) := by
 rw [AllB_eq]
 simp (config := {maxSteps := 4000000,implicitDefEqProofs := false}) only [go_sem,]
theorem allC_s (m : Nat) (Y : AV) (n : Int) (b : Nat) (hb : b < 16) (h0 : 0 < (u.leaf b).length) : AllC m [] Y (OP 7 0) (nA n) (nA b) (hcl t lo hi most acc ++ [frO u]) = some (TU [Y,OP 7 0,nA n,nA b,Y,nA n,iA (hdK u b)],hcl t lo hi most acc ++ [frO u]) := by
 rw [AllC_eq]
 have hb' : decide ((b : Int) < 16) = true := decide_eq_true (by omega)
 have hg := hd_get h0
 unfold hcl frO hdK
 simp (config := {maxSteps := 4000000,implicitDefEqProofs := false}) (disch := omega) only [go_sem,hb,hb',u_le,u_nthM,h0,hg,iA_def,fl_it]
theorem allD_s (m : Nat) (Y a3 a4 a5 : AV) (v : Bool) (H : List AObj) : AllD m [] Y a3 a4 a5 (bA v) H = some (TU [Y,a3,a4,a5,bA (!v)],H) := by
 rw [AllD_eq]
 simp (config := {maxSteps := 4000000,implicitDefEqProofs := false}) only [go_sem,]
theorem allE_s (m : Nat) (Y : AV) (n : Int) (b : Nat) (hb : b < 16) (h0 : 0 < (u.leaf b).length) (hn : 0 ≤ n) (hn2 : n ≤ 1000000000) : AllE m [] Y (OP 7 0) (nA n) (nA b) (hcl t lo hi most acc ++ [frO u]) = some (TU [Y,OP 7 0,nA (n + 1),nA b],hcl t lo hi most acc ++ [frO (u.setL b (u.leaf b).tail)]) := by
 rw [AllE_eq]
 have hb' : decide ((b : Int) < 16) = true := decide_eq_true (by omega)
 unfold hcl frO
 have hc : cutE ((u.leaf b).map (flA Item.cells)) 1 ((u.leaf b).length : Int) = ((u.leaf b).tail).map (flA Item.cells) := by
  unfold cutE
  rw [Int.toNat_natCast,List.take_of_length_le (by rw [List.length_map];exact Nat.le_refl _)]
  show _root_.List.drop 1 _ = _
  rw [← List.map_drop,List.drop_one]
 simp (config := {maxSteps := 4000000,implicitDefEqProofs := false}) (disch := omega) only [go_sem,hb,hb',u_le,h0,w_i64,leC_len,set_le]
 rw [fl_all5,whenE_t,decide_eq_true (by omega),decide_eq_true (by omega),Bool.true_and,whenE_t,decide_eq_true (by omega),whenE_t,hc,set_le]
theorem allF_s (m : Nat) (Y a4 a5 : AV) (hm : 16 < m) : AllF m [] Y (OP 7 0) a4 a5 (hcl t lo hi most acc ++ [frO u]) = some (TU [Y,OP 7 0,a4,nA (leastT u)],hcl t lo hi most acc ++ [frO u]) := by
 rw [AllF_eq]
 have hL := least_s m u hm
 unfold hcl frO
 simp (config := {maxSteps := 4000000,implicitDefEqProofs := false}) (disch := omega) only [go_sem,leC_take,leC_ltA,leC_lt1,leC_ro,leC_sure,leC_len,hL]
theorem u_bs2 {R : Type} {x y : ByteArray} {K1 : AV → Option R} : buildSE (some (ty_string,1)) 2 [(0,V (.string x)),(1,V (.string y))] K1 = K1 (SL [V (.string x),V (.string y)]) := _root_.id rfl
def bx5 (t : Tr) (lo hi : Bytes) (most : Int) : List AObj := [⟨1,ty_api_Trunk,0,tC t⟩,⟨1,ty_string,0,[sA lo]⟩,⟨1,ty_string,0,[sA hi]⟩,⟨1,ty_int,0,[nA most]⟩,⟨1,ty_sl_api_Item,0,[V (.slice none 0 0)]⟩]
theorem scanA_s (m : Nat) (hm : 2 < m) (h : t.Ok) (h1 : mayT t = true) (h2 : patB lo = true) (h3 : patB hi = true) : ScanA m [] (tA t) (sA lo) (sA hi) (nA most) [] = some (TU [OP 0 0,OP 1 0,OP 2 0,OP 3 0,OP 4 0],bx5 t lo hi most) := by
 rw [ScanA_eq]
 have hR := right_s m t lo hi hm h
 rw [h1,h2,h3,if_pos rfl,if_pos (by decide)] at hR
 rw [tA_def] at hR ⊢
 have e1 : zc_sl_api_Item = [V (.slice none 0 0)] := rfl
 simp (config := {maxSteps := 4000000,implicitDefEqProofs := false}) (disch := omega) only [go_sem,hR,e1,u_bs2]
 rfl
theorem scanB_s (m : Nat) : ScanB m [] (OP 0 0) (OP 1 0) (OP 2 0) (OP 3 0) (OP 4 0) (bx5 t lo hi most) = some (TU [OP 0 0,OP 1 0,OP 2 0,OP 3 0,OP 4 0,CL (.func 90) 0 [OP 5 0]],bx5 t lo hi most ++ [⟨1,ty_api_Trunk,0,tC t⟩]) := by
 rw [ScanB_eq]
 unfold bx5
 simp (config := {maxSteps := 4000000,implicitDefEqProofs := false}) (disch := omega) only [go_sem,span_all_eq]
 rfl
theorem scanC_s (m : Nat) (D : List Deferred) : ScanC m D (OP 4 0) (hcl t lo hi most acc) = some (TU [lA acc,nA 0],hcl t lo hi most acc) := by
 rw [ScanC_eq]
 unfold hcl
 simp (config := {maxSteps := 4000000,implicitDefEqProofs := false}) (disch := omega) only [go_sem,List.take_length]
 simp [ro1]
end
theorem scan_err (m : Nat) (t : Tr) (lo hi : Bytes) (most : Int) (hm : 2 < m) (h : t.Ok) (h1 : (mayT t && (patB lo && patB hi)) = false) : span_Scan m (tA t) (sA lo) (sA hi) (nA most) = some (TU [lA [],nA (if mayT t then 3 else 1)],[]) := by
 rw [span_Scan_eq]
 have hR := right_s m t lo hi hm h
 rw [tA_def] at hR ⊢
 cases hmay : mayT t with
 |false =>
  rw [hmay,if_neg (by decide)] at hR
  simp (config := {maxSteps := 4000000,implicitDefEqProofs := false}) (disch := omega) only [go_sem,hR,u_bs2]
 |true =>
  rw [hmay,Bool.true_and] at h1
  rw [hmay,if_pos rfl,if_neg (by rw [h1];decide)] at hR
  simp (config := {maxSteps := 4000000,implicitDefEqProofs := false}) (disch := omega) only [go_sem,hR,u_bs2]
end Go.Proofs.YtoeajbhlkccekaaDoor

namespace Go.Proofs.YtoeajbhlkccekaaDoor
open Go.RowKit
def regO : Code → List Oper|.region _ ops _=>ops.toList|_=>[]
def opAt (k : Nat) (c : Code) : Oper := (regO c).getD k ⟨none, .move (.tmp 0), 0, "", #[], none⟩
noncomputable def itC : Code := (Tryd.f90.body).getD .skip
noncomputable def itR : Code := cdL (cdL (cdL (cdL (cdR (cdL (cdL (endC 3 itC)))))))
noncomputable def scC : Code := (Tryd.f49.body).getD .skip
theorem it_shape : endC 3 itC = .block 0 (.loop (.seq (.seq AllB_c (.cond (.tmp 11) .skip (.exit 0))) (.seq (.block 1 (.seq (.seq (.region 5 (regO AllC_c ++ opAt 7 itR :: regO AllD_c).toArray false) (.cond (.tmp 22) .ret .skip)) AllE_c)) AllF_c))) := by kernel_rfl
theorem allC_shape : AllC_c = .region 5 (regO AllC_c).toArray false := by kernel_rfl
theorem allD_shape : AllD_c = .region 5 (regO AllD_c).toArray false := by kernel_rfl
theorem yop_op : (opAt 7 itR).op = .call { callee := .value (.tmp 14),args := #[.tmp 15, .tmp 20],argTypes := #[3,58] } := by kernel_rfl
theorem yop_dst : (opAt 7 itR).dst = some 21 := by kernel_rfl
theorem yop_gd : (opAt 7 itR).guard = none := by kernel_rfl
theorem gdC : ((regO AllC_c).all fun o=>o.guard.isNone) = true := by kernel_rfl
theorem gdD : ((regO AllD_c).all fun o=>o.guard.isNone) = true := by kernel_rfl
theorem sc_shape : endC 3 scC = .seq (.seq ScanB_c (.block 0 (.rangeFunc (.tmp 23) #[24,25] (.region 6 (regO (cdL ScanR_c)).toArray false) (cdR ScanR_c)))) ScanC_c := by kernel_rfl
theorem scR_shape : ScanR_c = .seq (.region 6 (regO (cdL ScanR_c)).toArray false) (cdR ScanR_c) := by kernel_rfl
theorem scR_flat : flatC (cdR ScanR_c) = true := by kernel_rfl
def cntN (u : Tr) : Nat → Nat
 |0=>0
 |k + 1=>cntN u k + (u.leaf k).length
def cntT (u : Tr) : Nat := cntN u 16
def pop (u : Tr) (b : Nat) : Tr := u.setL b (u.leaf b).tail
theorem cntN_pop (u : Tr) (b : Nat) (h : 0 < (u.leaf b).length) : ∀ k,cntN (pop u b) k + (if b < k then 1 else 0) = cntN u k
 |0=>by simp [cntN]
 |k + 1=>by
  have ih := cntN_pop u b h k
  unfold cntN
  rcases Nat.lt_trichotomy b k with h1|h1|h1
  ·rw [if_pos h1] at ih
   rw [if_pos (by omega),show (pop u b).leaf k = u.leaf k from if_neg (by omega)]
   omega
  ·subst h1
   rw [if_neg (by omega)] at ih
   rw [if_pos (by omega),show (pop u b).leaf b = (u.leaf b).tail from if_pos rfl,List.length_tail]
   omega
  ·rw [if_neg (by omega)] at ih
   rw [if_neg (by omega),show (pop u b).leaf k = u.leaf k from if_neg (by omega)]
   omega
theorem cnt_pop {u : Tr} {b : Nat} (hb : b < 16) (h : 0 < (u.leaf b).length) : cntT (pop u b) + 1 = cntT u := by
 have := cntN_pop u b h 16
 rw [if_pos hb] at this
 exact this
theorem cnt_pos {u : Tr} {b : Nat} (hb : b < 16) (h : 0 < (u.leaf b).length) : 0 < cntT u := by have := cnt_pop hb h;omega
def runM (lo hi : Bytes) (most : Int) : Nat → Tr → List Item → List Item
 |0,_,acc=>acc
 |n + 1,u,acc=>if leastT u < 0 then acc else if stopB hi most (hdK u (leastT u).toNat) acc then acc else runM lo hi most n (pop u (leastT u).toNat) (takeX lo (hdK u (leastT u).toNat) acc)
theorem fr_args {S : SS} {μ : List Value} {N : Nat} {args : List AV} {vs : List Value} (hl : vs.length = args.length) (hargs : args.length ≤ N) (hv : ∀ (j : Nat) (d : AV) (v : Value),args[j]? = some d → vs[j]? = some v → rep S μ d v) :
  Fr S μ (F0 N) (argsT 0 args) { tmps := vs.toArray ++ Array.replicate (N - vs.toArray.size) undef,defers := [] } := by
 refine ⟨by simp;omega,rfl,fun i=>?_⟩
 rw [get_argsT]
 simp only [Nat.zero_le,if_true,Nat.sub_zero]
 cases hd : args[i]? with
 |none=>trivial
 |some d =>
  have hi : i < vs.length := by rw [hl];exact (List.getElem?_eq_some_iff.1 hd).1
  have := hv i d vs[i] hd (List.getElem?_eq_getElem hi)
  simp only [Option.getD_some]
  have e : (vs.toArray ++ Array.replicate (N - vs.toArray.size) undef).getD i undef = vs[i] := by
   rw [Array.getD_eq_getD_getElem?,Array.getElem?_append_left (by simpa using hi)]
   simp [hi]
  rw [e];exact this
def numV : Value → Nat|.int _ i=>i.toNat|_=>0
abbrev T0s : Tm := [(4,OP 0 0),(5,OP 1 0),(6,OP 2 0),(7,OP 3 0),(11,OP 4 0)]
noncomputable abbrev recS (fn D : Nat) (tm : Array Value) : Loop := ⟨.ready,none,fn,tm,[24,25].toArray, .region 6 (regO (cdL ScanR_c)).toArray false,cdR ScanR_c,D⟩
section
variable {t u : Tr} {lo hi : Bytes} {most : Int} {acc : List Item} {w w' w1 : World} {S S' S1 : SS} {μ μ' μ1 : List Value} {l D fn d : Nat} {tm : Array Value}
theorem hcl_len : (hcl t lo hi most acc).length = 7 := rfl
theorem hcl_ok : (hcl t lo hi most acc).all (ltO 7) = true := by
 have h1 : (tC t).all (ltA 7) = true := tC_ltA
 have h2 : (acc.map (flA Item.cells)).all (ltA 7) = true := by rw [List.all_map];exact List.all_eq_true.2 fun _ _=>rfl
 simp only [hcl,List.all_cons,List.all_nil,ltO,h1,h2]
 rfl
theorem round_w (n : Int) (x : Item) {vs : List Value} (hl1 : acc.length + 1 ≤ 34359738368) (hr : Rel w S μ (hcl t lo hi most acc ++ [frO u])) (hf : Fr S μ (F0 49) T0s ⟨tm,[]⟩) (hg : GOk GG S) (hl : w.heap[l]? = some (.loop (recS fn D tm)))
  (h1 : vs.length = 2) (hv : ∀ (j : Nat) (d : AV) (v : Value),[nA n,iA x][j]? = some d → vs[j]? = some v → rep S μ d v) :
  YieldAt Fence.wide d Tryd.prog l vs.toArray w (YPost l (recS fn D tm) w S μ (hcl t lo hi most acc ++ [frO u]) fun e H2 =>
   (stopB hi most x acc = true ∧ e = .exit 0 ∧ H2 = hcl t lo hi most acc ++ [frO u]) ∨ (stopB hi most x acc = false ∧ e = .normal ∧ H2 = hcl t lo hi most (takeX lo x acc) ++ [frO u])) := by
 have hx := round_s (t := t) (u := u) (lo := lo) (hi := hi) (most := most) (acc := acc) 1000 n x hl1
 have hR : ∀ {X : AV} {H' : List AObj},ScanR 1000 [] (iA x) (nA n) (OP 0 0) (OP 1 0) (OP 2 0) (OP 3 0) (OP 4 0) (hcl t lo hi most acc ++ [frO u]) = some (X,H') →
   YieldAt Fence.wide d Tryd.prog l vs.toArray w (YPost l (recS fn D tm) w S μ (hcl t lo hi most acc ++ [frO u]) fun e H2=>X = xA e ∧ H2 = H') := by
  intro X H' q
  unfold ScanR at q
  rw [scR_shape] at q
  exact round_exec (ScanR_hE 1000) rfl hr hf hg (by decide) hl (by rw [h1];rfl) rfl hv scR_flat rfl q
 have ym : ∀ {Q Q' : Exit → List AObj → Prop},(∀ e H2,Q e H2 → Q' e H2) → YieldAt Fence.wide d Tryd.prog l vs.toArray w (YPost l (recS fn D tm) w S μ (hcl t lo hi most acc ++ [frO u]) Q) → YieldAt Fence.wide d Tryd.prog l vs.toArray w (YPost l (recS fn D tm) w S μ (hcl t lo hi most acc ++ [frO u]) Q') := by
  rintro Q Q' hq ⟨fn,tmps,asg,bd,y1,y2⟩
  refine ⟨fn,tmps,asg,bd,y1,y2.mono ?_⟩
  rintro e w' ⟨w2,S',μ',H',x,q,rest⟩
  exact ⟨w2,S',μ',H',x,hq _ _ q,rest⟩
 cases hs : stopB hi most x acc with
 |true =>
  rw [hs,if_pos rfl] at hx
  refine ym ?_ (hR hx)
  rintro e H2 ⟨q1,q2⟩
  refine .inl ⟨rfl,?_,q2⟩
  cases e <;> simp [xA] at q1
  rename_i i
  have : i = 0 := by omega
  rw [this]
 |false =>
  rw [hs,if_neg (by decide)] at hx
  refine ym ?_ (hR hx)
  rintro e H2 ⟨q1,q2⟩
  refine .inr ⟨rfl,?_,q2⟩
  cases e <;> simp [xA] at q1
  rfl
abbrev TI (l : Nat) (k : Int) (b : Int) : Tm := [(0,V (.func (.yield l) #[] #[])),(3,OP 7 0),(4,nA k),(5,nA b)]
def ItI (t : Tr) (lo hi : Bytes) (most : Int) (l fn D : Nat) (tm : Array Value) (w1 : World) (S1 : SS) (μ1 : List Value) (a : Act) (w : World) : Prop :=
 ∃ (k : Nat) (u : Tr) (acc : List Item) (S : SS) (μ : List Value),Rel w S μ (hcl t lo hi most acc ++ [frO u]) ∧ Fr S μ (F0 31) (TI l k (leastT u)) a ∧ GOk GG S ∧ Step 7 w1 S1 μ1 (hcl t lo hi most []) w S μ (hcl t lo hi most acc ++ [frO u]) ∧
  w.heap[l]? = some (.loop (recS fn D tm)) ∧ cntT u + k = cntT t ∧ acc.length ≤ k ∧ runM lo hi most (cntT u) u acc = runM lo hi most (cntT t) t []
def itQ (t : Tr) (lo hi : Bytes) (most : Int) (e : Exit) (H2 : List AObj) : Prop := (e = .normal ∨ e = .exit 0) ∧ H2 = hcl t lo hi most (runM lo hi most (cntT t) t [])
theorem runM_done (h : leastT u < 0) : ∀ n acc,runM lo hi most n u acc = acc
 |0,acc=>rfl
 |n + 1,acc=>by unfold runM;rw [if_pos h]
theorem drop_front (hr : Rel w S μ (hcl t lo hi most acc ++ [frO u])) : Rel w S (μ.take 7) (hcl t lo hi most acc) ∧ Step 7 w S μ (hcl t lo hi most acc ++ [frO u]) w S (μ.take 7) (hcl t lo hi most acc) := by
 have hle : HLe (hcl t lo hi most acc ++ [frO u]) (hcl t lo hi most acc) := by
  have := HLe.take (hcl t lo hi most acc ++ [frO u]) 7
  rwa [List.take_left' hcl_len] at this
 exact ⟨hr.le hle hcl_ok,Le.step (s := ⟨hcl t lo hi most acc ++ [frO u],[]⟩) (s' := ⟨hcl t lo hi most acc,[]⟩) ⟨hle,hcl_ok,trivial⟩ (Nat.le_refl _) w S μ⟩
theorem slotV {T : Tm} {N : FS} {a : Act} {i : Nat} {v : Value} (hf : Fr S μ N T a) (h : get T i = V v) : a.tmps.getD i undef = v := by
 have := hf.slot i
 rw [h] at this
 exact this.1
theorem it_calls (hm : 0 < d) {us : List Value} (hr : Rel w1 S1 μ1 (hcl t lo hi most [])) (hf : Fr S1 μ1 (F0 49) T0s ⟨tm,[]⟩) (hg : GOk GG S1) (hl : w1.heap[l]? = some (.loop (recS fn D tm))) (hus : us.length = 1)
  (hu : ∀ (j : Nat) (x : AV) (v : Value),[OP 5 0][j]? = some x → us[j]? = some v → rep S1 μ1 x v) (hc : cntT t ≤ 1000000000) :
  CallsIn Fence.wide d Tryd.prog 90 (.func (.yield l) #[] #[] :: us).toArray w1 fun e w'=>∃ v,e = .returned v ∧ IPost l (recS fn D tm) w1 S1 μ1 (hcl t lo hi most []) (itQ t lo hi most) w' := by
 have hnl : ∀ r cs t p,(Obj.loop r) ≠ .cells cs t p := fun _ _ _ _ e=>by cases e
 refine callsIn_of_wp Tryd.func90 rfl trivial ?_
 have hfr0 : Fr S1 μ1 (F0 31) (argsT 0 [V (.func (.yield l) #[] #[]),OP 5 0]) { tmps := (.func (.yield l) #[] #[] :: us).toArray ++ Array.replicate (31 - (.func (.yield l) #[] #[] :: us).toArray.size) undef,defers := [] } :=
  fr_args (by simp [hus]) (by simp) (by
   intro j x v hx hv
   cases j with
   |zero=>simp at hx hv;subst hx hv;exact ⟨rfl,rfl⟩
   |succ j=>exact hu j x v (by simpa using hx) (by simpa using hv))
 rw [Tryd.ntmps90]
 have hA := allA_s (t := t) (lo := lo) (hi := hi) (most := most) (acc := []) 1000 (V (.func (.yield l) #[] #[])) (by decide)
 refine exec_farW (n := 7) MIX (AllA_hE 1000) 3 itC AllA_h ⟨hcl t lo hi most [],argsT 0 [V (.func (.yield l) #[] #[]),OP 5 0]⟩ (by kernel_rfl) hA hr hfr0 hg ?_ (Nat.le_refl _)
 rintro a w ⟨S,μ,_,hrA,hfA,hgA,hstA⟩
 rw [it_shape]
 refine wpIn_block ?_
 refine wpIn_loop (ItI t lo hi most l fn D tm w1 S1 μ1) (fun a _=>cntT t - numV (a.tmps.getD 4 undef)) ⟨0,t,[],S,μ,hrA,hfA,hgA,hstA,hstA.keeps hr hl (hnl _),by omega,Nat.le_refl _,rfl⟩ ?_
 rintro a w ⟨k,u,acc,S,μ,hr2,hf2,hg2,hst2,hl2,hcnt,hacc,hrun⟩
 have h4 : a.tmps.getD 4 undef = .int .i64 k := slotV hf2 rfl
 refine wpIn_seq (wpIn_seq (wpIn_mono (part_w (rs := [0,3,4,5,11]) MIX (AllB_hE 1000) (allB_s 1000 (V (.func (.yield l) #[] #[])) (OP 7 0) (nA k) (leastT u) (hcl t lo hi most acc ++ [frO u])) hr2 hf2 hg2) ?_))
 rintro e a3 w3 ⟨rfl,S3,μ3,hr3,hf3,hg3,hst3⟩
 have hl3 := hst3.keeps hr2 hl2 (hnl _)
 have hst3' := hst2.trans (hst3.less (show 7 ≤ (hcl t lo hi most acc ++ [frO u]).length by simp [hcl]))
 have h11 : a3.eval (.tmp 11) = .bool (decide (0 ≤ leastT u)) := slotV hf3 rfl
 refine wpIn_cond (t := decide (0 ≤ leastT u)) h11 ?_
 by_cases hb : 0 ≤ leastT u
 ·rw [decide_eq_true hb]
  rw [if_pos rfl]
  refine wpIn_skip ?_
  simp only [Exit.then]
  obtain ⟨b,hbb⟩ : ∃ b : Nat,leastT u = b := ⟨(leastT u).toNat,by omega⟩
  have hbn : b < 16 ∧ 0 < (u.leaf b).length := by
   rcases bestN_at u 16 with q|⟨j,q1,q2,q3⟩
   ·rw [leastT,q] at hbb;omega
   ·have : leastT u = j := q2
    have : j = b := by omega
    subst this
    exact ⟨q1,q3⟩
  obtain ⟨hb16,hb0⟩ := hbn
  rw [hbb] at hf3
  have hk1 : k + 1 ≤ cntT t := by have := cnt_pos hb16 hb0;omega
  refine wpIn_seq ?_
  refine wpIn_block ?_
  refine wpIn_seq ?_
  refine wpIn_seq ?_
  refine wpIn_region_lit ?_
  have hC := allC_s (t := t) (u := u) (lo := lo) (hi := hi) (most := most) (acc := acc) 1000 (V (.func (.yield l) #[] #[])) k b hb16 hb0
  unfold AllC at hC
  rw [allC_shape] at hC
  refine part_ops (rs := [0,3,4,5,14,15,20]) (AllC_hE 1000) rfl gdC hC hr3 (hf3.some (by simp [_root_.Go.Proofs.YtoeajbhlkccekaaDoor.get])) hg3 ?_
  rintro a4 w4 ⟨S4,μ4,hr4,hf4,hg4,hst4⟩
  have hl4 := hst4.keeps hr3 hl3 (hnl _)
  have hst4' := hst3'.trans (hst4.less (show 7 ≤ (hcl t lo hi most acc ++ [frO u]).length by simp [hcl]))
  have hfc4 : Fr S4 μ4 (F0 49) T0s ⟨tm,[]⟩ := hf.ext (Step.toExt hr hst4')
  unfold wpListIn
  rw [if_pos (by simp [Region.wanted,yop_gd])]
  have e15 := hf4.slot 15
  have e20 := hf4.slot 20
  have hy := round_w (d := d - 1) (t := t) (u := u) (lo := lo) (hi := hi) (most := most) (acc := acc) (fn := fn) (D := D) (tm := tm) k (hdK u b) (vs := [a4.tmps.getD 15 undef,a4.tmps.getD 20 undef]) (by omega) hr4 hfc4 hg4 hl4 rfl (by
   intro j x v hx hv
   match j,hx,hv with
   |0,hx,hv=>simp at hx hv;subst hx hv;simpa [_root_.Go.Proofs.YtoeajbhlkccekaaDoor.get] using e15
   |1,hx,hv=>simp at hx hv;subst hx hv;simpa [_root_.Go.Proofs.YtoeajbhlkccekaaDoor.get] using e20)
  refine yield_op (R := YPost l (recS fn D tm) w4 S4 μ4 (hcl t lo hi most acc ++ [frO u]) _) yop_op (slotV hf4 rfl) (by simpa [Act.eval] using hy) ?_
  rintro e w' ⟨w5,S5,μ5,H5,x,hq5,hr5,hst5,hl5,hx5⟩
  have hst5' := hst4'.trans (hst5.less (show 7 ≤ (hcl t lo hi most acc ++ [frO u]).length by simp [hcl]))
  have hg5 := hg4.ext hst5.still
  have hf5 := hf4.ext (Step.toExt hr4 hst5)
  rw [yop_dst]
  have hD : ∀ v,exec Tryd.prog GG (AllD_env 1000) 1000 ⟨31,[]⟩ (.region 5 (regO AllD_c).toArray false) AllD_h ⟨hcl t lo hi most acc ++ [frO u],[(0,V (.func (.yield l) #[] #[])),(3,OP 7 0),(4,nA k),(5,nA b),(21,bA v)]⟩ (nslFK [0,3,4,5,22]) = some (TU [V (.func (.yield l) #[] #[]),OP 7 0,nA k,nA b,bA (!v)],hcl t lo hi most acc ++ [frO u]) := by
   intro v
   have h := allD_s 1000 (V (.func (.yield l) #[] #[])) (OP 7 0) (nA k) (nA b) v (hcl t lo hi most acc ++ [frO u])
   unfold AllD at h
   rw [allD_shape] at h
   exact h
  rcases hq5 with ⟨hs,rfl,rfl⟩|⟨hs,rfl,rfl⟩
  ·obtain ⟨cj,hcj,rfl,rfl⟩ : ∃ c,jumpOf (.exit 0) = some c ∧ e = .returned (.bool false) ∧ w' = w5.putObj l (.loop { recS fn D tm with state := .done,pending := some c }) := by
    rcases hx5 with ⟨q,_⟩|q
    ·cases q
    ·exact q
   refine ⟨_,rfl,?_⟩
   have hll5 := (Array.getElem?_eq_some_iff.1 hl5).1
   have hrd := hr5.touch (w' := w5.putObj l (.loop { recS fn D tm with state := .done,pending := some cj })) l (NoCells.of hl5 (hnl _)) (putObj_other _ _ _)
   have hld : (w5.putObj l (.loop { recS fn D tm with state := .done,pending := some cj })).heap[l]? = some (.loop { recS fn D tm with state := .done,pending := some cj }) := World.putObj_heap_same hll5
   have hput := hf5.put (some 21) (fun i e=>by cases e;decide) (v := bA false) (u := .bool false) ⟨rfl,rfl⟩
   refine part_all (rs := [0,3,4,5,22]) (AllD_hE 1000) rfl gdD (hD false) hrd (hput.some (by simp [_root_.Go.Proofs.YtoeajbhlkccekaaDoor.get,ASt.set,tput])) hg5 ?_
   rintro a6 w6 ⟨S6,μ6,hr6,hf6,hg6,hst6⟩
   simp only [Exit.then]
   refine wpIn_cond (t := true) (slotV hf6 rfl) ?_
   rw [if_pos rfl]
   refine wpIn_ret ?_
   simp only [Exit.then,Exit.inBlock]
   have hl6 := hst6.keeps hrd hld (hnl _)
   have hsw := Step.swap hr5 hst6 hl5 (hnl _)
   have hr6' := hr6.touch (w' := w6.putObj l (.loop (recS fn D tm))) l (NoCells.of hl6 (hnl _)) (putObj_other _ _ _)
   obtain ⟨d1,d2⟩ := drop_front hr6'
   refine ⟨hf6.nodef,_,results_none rfl _ _ _,_,rfl,w6.putObj l (.loop (recS fn D tm)),S6,_,hcl t lo hi most acc, .exit 0,⟨.inr rfl,?_⟩,d1,(hst5'.trans (hsw.less (show 7 ≤ (hcl t lo hi most acc ++ [frO u]).length by simp [hcl]))).trans d2,World.putObj_heap_same (Array.getElem?_eq_some_iff.1 hl6).1, .inr ⟨cj,hcj,?_⟩⟩
   ·rw [← hrun]
    obtain ⟨n0,hn0⟩ : ∃ n0,cntT u = n0 + 1 := ⟨cntT u - 1,by have := cnt_pos hb16 hb0;omega⟩
    rw [hn0]
    unfold runM
    rw [hbb,if_neg (by omega),Int.toNat_natCast,hs,if_pos rfl]
   ·rw [putObj_putObj,putObj_self hl6]
  ·obtain ⟨rfl,rfl⟩ : e = .returned (.bool true) ∧ w' = w5 := by
    rcases hx5 with ⟨_,q1,q2⟩|⟨c,q,_⟩
    ·exact ⟨q1,q2⟩
    ·cases q
   refine ⟨_,rfl,?_⟩
   have hput := hf5.put (some 21) (fun i e=>by cases e;decide) (v := bA true) (u := .bool true) ⟨rfl,rfl⟩
   have hD2 := hD true
   have hacc2 : (takeX lo (hdK u b) acc).length ≤ k + 1 := by
    unfold takeX
    split
    ·omega
    ·simp only [List.length_append,List.length_cons,List.length_nil];omega
   have hrun2 : runM lo hi most (cntT (pop u b)) (pop u b) (takeX lo (hdK u b) acc) = runM lo hi most (cntT t) t [] := by
    rw [← hrun,← cnt_pop hb16 hb0]
    conv=>rhs;unfold runM
    rw [hbb,if_neg (by omega),Int.toNat_natCast,hs,if_neg (by decide)]
   generalize takeX lo (hdK u b) acc = acc2 at *
   have hD' : exec Tryd.prog GG (AllD_env 1000) 1000 ⟨31,[]⟩ (.region 5 (regO AllD_c).toArray false) AllD_h ⟨hcl t lo hi most acc2 ++ [frO u],[(0,V (.func (.yield l) #[] #[])),(3,OP 7 0),(4,nA k),(5,nA b),(21,bA true)]⟩ (nslFK [0,3,4,5,22]) = some (TU [V (.func (.yield l) #[] #[]),OP 7 0,nA k,nA b,bA (!true)],hcl t lo hi most acc2 ++ [frO u]) := by
    have h := allD_s 1000 (V (.func (.yield l) #[] #[])) (OP 7 0) (nA k) (nA b) true (hcl t lo hi most acc2 ++ [frO u])
    unfold AllD at h
    rw [allD_shape] at h
    exact h
   refine part_all (rs := [0,3,4,5,22]) (AllD_hE 1000) rfl gdD hD' hr5 (hput.some (by simp [_root_.Go.Proofs.YtoeajbhlkccekaaDoor.get,ASt.set,tput])) hg5 ?_
   rintro a6 w6 ⟨S6,μ6,hr6,hf6,hg6,hst6⟩
   simp only [Exit.then]
   refine wpIn_cond (t := false) (slotV hf6 rfl) ?_
   rw [if_neg (by decide)]
   refine wpIn_skip ?_
   have e7 := hst5'.trans (hst6.less (show 7 ≤ (hcl t lo hi most acc2 ++ [frO u]).length by simp [hcl]))
   have hl6 := hst6.keeps hr5 hl5 (hnl _)
   have hkn : (k : Int) ≤ 1000000000 := by omega
   refine wpIn_mono (part_w (rs := [0,3,4,5]) MIX (AllE_hE 1000) (allE_s (t := t) (u := u) (lo := lo) (hi := hi) (most := most) (acc := acc2) 1000 (V (.func (.yield l) #[] #[])) k b hb16 hb0 (by omega) hkn) hr6 (hf6.some (by simp [_root_.Go.Proofs.YtoeajbhlkccekaaDoor.get])) hg6) ?_
   rintro e8 a8 w8 ⟨rfl,S8,μ8,hr8,hf8,hg8,hst8⟩
   have hl8 := hst8.keeps hr6 hl6 (hnl _)
   have e8 := e7.trans (hst8.less (show 7 ≤ (hcl t lo hi most acc2 ++ [frO u]).length by simp [hcl]))
   simp only [Exit.inBlock,Exit.then]
   refine wpIn_mono (part_w (rs := [0,3,4,5]) MIX (AllF_hE 1000) (allF_s (t := t) (u := pop u b) (lo := lo) (hi := hi) (most := most) (acc := acc2) 1000 (V (.func (.yield l) #[] #[])) (nA ((k : Int) + 1)) (nA b) (by decide)) hr8 (hf8.some (by simp [_root_.Go.Proofs.YtoeajbhlkccekaaDoor.get])) hg8) ?_
   rintro e9 a9 w9 ⟨rfl,S9,μ9,hr9,hf9,hg9,hst9⟩
   have hl9 := hst9.keeps hr8 hl8 (hnl _)
   have e9 := e8.trans (hst9.less (show 7 ≤ (hcl t lo hi most acc2 ++ [frO (pop u b)]).length by simp [hcl]))
   have h49 : a9.tmps.getD 4 undef = .int .i64 ((k : Int) + 1) := slotV hf9 rfl
   refine ⟨⟨k + 1,pop u b,acc2,S9,μ9,hr9,hf9.some (by simp [_root_.Go.Proofs.YtoeajbhlkccekaaDoor.get]),hg9,e9,hl9,by have := cnt_pop hb16 hb0;omega,hacc2,hrun2⟩,?_⟩
   rw [h49,h4]
   simp only [numV]
   omega
 ·rw [decide_eq_false hb]
  refine wpIn_exit ?_
  simp only [Exit.then,Exit.inBlock,↓reduceIte]
  obtain ⟨d1,d2⟩ := drop_front hr3
  refine ⟨hf3.nodef,_,results_none rfl _ _ _,_,rfl,w3,S3,_,hcl t lo hi most acc, .normal,⟨.inl rfl,?_⟩,d1,hst3'.trans d2,hl3, .inl ⟨rfl,rfl⟩⟩
  rw [← hrun,runM_done (by omega)]
def scanT (lo hi : Bytes) (most : Int) (t : Tr) : List Item := runM lo hi most (cntT t) t []
theorem raw_some {n : Nat} {rs : List Nat} {e : Exit} {s : ASt} {ds : List AV} {H' : List AObj} (h : rawFK Tryd.prog n (rs.map ResultVar.tmp) e s = some (TU ds,H')) : (e = .normal ∨ e = .ret) ∧ ro s.H (oneOf (rs.map (get s.T))) = TU ds ∧ s.H = H' := by
 have key : ∀ (rs : List Nat) (K : List AV → RO),resEK Tryd.prog s.H s.T (rs.map ResultVar.tmp) K = K (rs.map (get s.T)) := by
  intro rs
  induction rs with
  |nil=>intro K;rfl
  |cons r rs ih =>
   intro K
   rw [resEK_eq]
   show resE Tryd.prog s.H s.T (rs.map ResultVar.tmp) (fun ds=>K (get s.T r :: ds)) = _
   rw [← resEK_eq,ih]
   rfl
 cases e with
 |normal =>
  have h : resEK Tryd.prog s.H s.T (rs.map ResultVar.tmp) _ = some (TU ds,H') := h
  rw [key] at h
  injection h with h
  injection h with h1 h2
  exact ⟨.inl rfl,h1,h2⟩
 |ret =>
  have h : resEK Tryd.prog s.H s.T (rs.map ResultVar.tmp) _ = some (TU ds,H') := h
  rw [key] at h
  injection h with h
  injection h with h1 h2
  exact ⟨.inr rfl,h1,h2⟩
 |exit id=>cases h
 |goto l=>cases h
 |panic ch =>
  exfalso
  have h : chE ch (fun u=>some (PN u,s.H)) = some (TU ds,H') := h
  unfold chE at h
  split at h <;> cases h
 |outgrown=>cases h
theorem scan_c (h : t.Ok) (h1 : mayT t = true) (h2 : patB lo = true) (h3 : patB hi = true) (hc : cntT t ≤ 1000000000) : ACp Tryd.prog GG 49 [tA t,sA lo,sA hi,nA most] (TU [lA (scanT lo hi most t),nA 0]) := by
 have hnd : ∀ r cs t p,(Obj.deferred r) ≠ .cells cs t p := fun _ _ _ _ e=>by cases e
 refine ⟨by kernel_rfl,?_⟩
 intro w S μ vs hr hg hlen hv
 have hμ : μ = [] := List.eq_nil_of_length_eq_zero hr.len
 subst hμ
 refine (callsIn_wide (n := 5)).1 ?_
 refine callsIn_of_wp_marks Tryd.func49 rfl trivial ?_
 rw [Tryd.ntmps49]
 have hfr := fr_args (S := S) (μ := []) (N := 49) (args := [tA t,sA lo,sA hi,nA most]) (vs := vs) hlen (by simp) hv
 refine exec_farW (n := 0) MIX (ScanA_hE 1000) 3 scC ScanA_h ⟨[],argsT 0 [tA t,sA lo,sA hi,nA most]⟩ (by kernel_rfl) (scanA_s (lo := lo) (hi := hi) (most := most) 1000 (by decide) h h1 h2 h3) hr hfr hg ?_ (Nat.le_refl _)
 rintro a2 w2 ⟨S2,μ2,_,hr2,hf2,hg2,hst2⟩
 rw [sc_shape]
 refine wpIn_seq (wpIn_seq (wpIn_mono (part_w (rs := [4,5,6,7,11,23]) MIX (ScanB_hE 1000) (scanB_s (t := t) (lo := lo) (hi := hi) (most := most) 1000) hr2 hf2 hg2) ?_))
 rintro e a3 w3 ⟨rfl,S3,μ3,hr3,hf3,hg3,hst3⟩
 simp only [Exit.then]
 obtain ⟨r1,r2⟩ := hr3.nilRow none ty_api_Item 5
 have hx : Ext S3 μ3 S3 (μ3 ++ [.slice none 0 0]) := ext_add S3 μ3 _
 obtain ⟨r3,r4⟩ := r1.recell (j := 4) (off := 0) (ob := ⟨1,ty_sl_api_Item,0,[V (.slice none 0 0)]⟩) (d := V (.slice none 0 0)) (d' := OW 6 0) rfl rfl rfl (fun u hu=>⟨none,0,0,none,0,by
  have e1 : μ3.length = 6 := hr3.len
  rw [List.getElem?_append_right (by omega),e1];rfl,Nat.le_refl _,hu.1,fun _=>⟨rfl,rfl⟩⟩)
 have hf3' := hf3.ext hx
 have hst3' : Step 0 w S [] [] w3 S3 (μ3 ++ [.slice none 0 0]) (hcl t lo hi most []) := ((hst2.trans (hst3.less (Nat.zero_le _))).trans (r2.less (Nat.zero_le _))).trans (r4.less (Nat.zero_le _))
 have r3' : Rel w3 S3 (μ3 ++ [.slice none 0 0]) (hcl t lo hi most []) := r3
 refine wpIn_block ?_
 have hlaw := range_law (d := 4) (P := Tryd.prog) (G := GG) (g := .tmp 23) (ps := [24,25]) (assign := .region 6 (regO (cdL ScanR_c)).toArray false) (body := cdR ScanR_c) (N := 49) (f := 90) (caps := [OP 5 0]) (q2 := 0) (Q := itQ t lo hi most) r3' hf3' hg3 rfl (by kernel_rfl) ?_
 refine wpIn_mono hlaw ?_
 ·rintro e a5 w5 ⟨S5,μ5,H5,⟨he,rfl⟩,hr5,hst5,hf5,hD5,hsz⟩
  have hn5 : Exit.inBlock 0 (Exit.then (ScanC_c.wpIn (FL none) 5 Tryd.prog (bodyPostM Fence.wide 5 Tryd.prog Tryd.f49 (CPost w S [] [] fun r H'=>r = TU [lA (scanT lo hi most t),nA 0] ∧ H' = []))) (bodyPostM Fence.wide 5 Tryd.prog Tryd.f49 (CPost w S [] [] fun r H'=>r = TU [lA (scanT lo hi most t),nA 0] ∧ H' = []))) .normal a5 w5 → Exit.inBlock 0 (Exit.then (ScanC_c.wpIn (FL none) 5 Tryd.prog (bodyPostM Fence.wide 5 Tryd.prog Tryd.f49 (CPost w S [] [] fun r H'=>r = TU [lA (scanT lo hi most t),nA 0] ∧ H' = []))) (bodyPostM Fence.wide 5 Tryd.prog Tryd.f49 (CPost w S [] [] fun r H'=>r = TU [lA (scanT lo hi most t),nA 0] ∧ H' = []))) e a5 w5 := by
   intro q
   rcases he with rfl|rfl
   ·exact q
   ·exact q
  refine hn5 ?_
  simp only [Exit.inBlock,Exit.then]
  have hst5' := hst3'.trans (hst5.less (Nat.zero_le _))
  have hx := scanC_s (t := t) (lo := lo) (hi := hi) (most := most) (acc := scanT lo hi most t) 1000 [⟨.collected w3.heap.size,#[]⟩]
  refine wpIn_wide.2 (wp_mono (exec_ok (n := 7) MIX (ScanC_hE 1000) ScanC_c ScanC_h ⟨hcl t lo hi most (scanT lo hi most t),[(11,OP 4 0)]⟩ _ (Nat.le_refl _) hx w5 S5 μ5 a5 hr5 (hf5.some (by simp [_root_.Go.Proofs.YtoeajbhlkccekaaDoor.get])) (hg3.ext hst5.still)) ?_)
  rintro e a6 w6 ⟨s6,S6,μ6,hq6,hr6,hf6,hst6⟩
  obtain ⟨he6,hX6,hH6⟩ := raw_some (rs := [8,9]) hq6
  have hend := mark_end (P := Tryd.prog) (d := 5) (fnn := Tryd.f49) (rs := [8,9]) (X := TU [lA (scanT lo hi most t),nA 0]) rfl hr6 hf6 (hst6.keeps hr5 hD5 (hnd _)) hX6 rfl (hst5'.trans (hst6.less (Nat.zero_le _))) hst3'.size
  rcases he6 with rfl|rfl
  ·exact hend
  ·exact hend
 ·intro l D fn w1 us hr1 hl1 hus hu
  exact it_calls (by decide) hr1 ⟨hf3'.size,rfl,(hf3'.some (T' := T0s) (by simp [_root_.Go.Proofs.YtoeajbhlkccekaaDoor.get])).slot⟩ hg3 hl1 hus hu hc
end
end Go.Proofs.YtoeajbhlkccekaaDoor

namespace Go.Proofs.YtoeajbhlkccekaaDoor
open Go.RowKit
theorem cntN_le {t : Tr} (h : t.Ok) : ∀ k,cntN t k ≤ k * 1000000
 |0=>Nat.le_refl _
 |k + 1=>by
  have := cntN_le h k
  have := h.len k
  unfold cntN
  omega
theorem cnt_le {t : Tr} (h : t.Ok) : cntT t ≤ 16000000 := cntN_le h 16
def okS (lo hi : Bytes) (t : Tr) : Bool := mayT t && (patB lo && patB hi)
def scanR (lo hi : Bytes) (most : Int) (t : Tr) : List Item := if okS lo hi t then scanT lo hi most t else []
def scanE (lo hi : Bytes) (t : Tr) : Int := if okS lo hi t then 0 else if mayT t then 3 else 1
theorem cl_scan (t : Tr) (lo hi : Bytes) (most : Int) (h : t.Ok) : ACp Tryd.prog GG 49 [tA t,sA lo,sA hi,nA most] (TU [lA (scanR lo hi most t),nA (scanE lo hi t)]) := by
 unfold scanR scanE
 cases hk : okS lo hi t with
 |true =>
  unfold okS at hk
  simp only [Bool.and_eq_true] at hk
  exact scan_c h hk.1 hk.2.1 hk.2.2 (Nat.le_trans (cnt_le h) (by decide))
 |false =>
  refine span_Scan_ok 1000 _ _ [] (show span_Scan_t 1000 [tA t,sA lo,sA hi,nA most] = _ from ?_)
  exact scan_err 1000 t lo hi most (by decide) h hk
noncomputable def span_ScanQ_t (m : Nat) : List AV → RO := orac (ι := Tr × Bytes × Bytes × Int) (fun p=>[tA p.1,sA p.2.1,sA p.2.2.1,nA p.2.2.2]) (fun p=>TU [lA (scanR p.2.1 p.2.2.1 p.2.2.2 p.1),nA (scanE p.2.1 p.2.2.1 p.1)]) (fun p=>p.1.Ok)
theorem span_ScanQ_ok (m : Nat) : ∀ args X H',span_ScanQ_t m args = some (X,H') → ACp Tryd.prog GG 49 args X := orac_ok (by
 rintro ⟨t,lo,hi,most⟩ h
 exact cl_scan t lo hi most h)
def LeEq (t u : Tr) : Prop := ∀ i,i < 16 → t.leaf i = u.leaf i
theorem cntN_eq {t u : Tr} (h : LeEq t u) : ∀ k,k ≤ 16 → cntN t k = cntN u k
 |0,_=>rfl
 |k + 1,hk=>by unfold cntN;rw [cntN_eq h k (by omega),h k (by omega)]
theorem bestN_eq {t u : Tr} (h : LeEq t u) : ∀ k,k ≤ 16 → bestN t k = bestN u k
 |0,_=>rfl
 |k + 1,hk=>by
  have ih := bestN_eq h k (by omega)
  have e2 : hdK t k = hdK u k := by unfold hdK;rw [h k (by omega)]
  have hb := bestN_at u k
  unfold bestN stepB
  rw [ih,h k (by omega),e2]
  rcases hb with q|⟨j,q1,q2,q3⟩
  ·rw [q];simp
  ·rw [q2,Int.toNat_natCast]
   have : hdK t j = hdK u j := by unfold hdK;rw [h j (by omega)]
   rw [this]
theorem pop_eq {t u : Tr} (h : LeEq t u) (b : Nat) (hb : b < 16) : LeEq (pop t b) (pop u b) := fun i hi=>by
 unfold pop Tr.setL
 dsimp only
 rw [h b hb,h i hi]
theorem runM_eq {lo hi : Bytes} {most : Int} : ∀ (n : Nat) {t u : Tr} (h : LeEq t u) (acc : List Item),runM lo hi most n t acc = runM lo hi most n u acc
 |0,t,u,h,acc=>rfl
 |n + 1,t,u,h,acc=>by
  have e1 : leastT t = leastT u := bestN_eq h 16 (Nat.le_refl _)
  unfold runM
  rw [e1]
  by_cases h0 : leastT u < 0
  ·rw [if_pos h0,if_pos h0]
  ·rw [if_neg h0,if_neg h0]
   have hb : (leastT u).toNat < 16 := by
    rcases bestN_at u 16 with q|⟨j,q1,q2,q3⟩
    ·unfold leastT at h0 ⊢;omega
    ·unfold leastT at h0 ⊢;omega
   have e2 : hdK t (leastT u).toNat = hdK u (leastT u).toNat := by unfold hdK;rw [h _ hb]
   rw [e2]
   split
   ·rfl
   ·exact runM_eq n (pop_eq h _ hb) _
theorem scanR_eq {t u : Tr} (h : t.Eq16 u) (lo hi : Bytes) (most : Int) : scanR lo hi most t = scanR lo hi most u ∧ scanE lo hi t = scanE lo hi u := by
 have hl : LeEq t u := fun i hi=>(h i hi).1
 have e1 : okS lo hi t = okS lo hi u := by unfold okS;rw [mayT_eq h]
 unfold scanR scanE
 rw [e1,mayT_eq h]
 refine ⟨?_,rfl⟩
 split
 ·unfold scanT
  rw [show cntT t = cntT u from cntN_eq hl 16 (Nat.le_refl _)]
  exact runM_eq _ hl _
 ·rfl
theorem span_ScanQ_e (m : Nat) (t : Tr) (lo hi : Bytes) (most : Int) (h : t.Ok) : span_ScanQ_t m [tA t,sA lo,sA hi,nA most] = some (TU [lA (scanR lo hi most t),nA (scanE lo hi t)],[]) := orac_eq (ι := Tr × Bytes × Bytes × Int) (by
 rintro ⟨t,lo,hi,q⟩ ⟨u,lo',hi',q'⟩ e
 dsimp only at e ⊢
 simp only [List.cons.injEq,and_true] at e
 obtain ⟨e1,e2,e3,e4⟩ := e
 have h2 := sA_inj e2
 have h3 := sA_inj e3
 have h4 := nA_inj e4
 rw [← h2,← h3,← h4,(scanR_eq (tA_inj e1) lo hi q).1,(scanR_eq (tA_inj e1) lo hi q).2]) (i := (t,lo,hi,most)) h
end Go.Proofs.YtoeajbhlkccekaaDoor

namespace Go.Proofs.YtoeajbhlkccekaaDoor
open Go.RowKit
def ty_api_Edit : TypeId := 47
def ty_api_Store : TypeId := 28
def zc_api_Edit : List AV := [(V (.string ⟨#[]⟩)),(V (.int .i64 0)),(V (.int .i64 0)),(V (.string ⟨#[]⟩))]
def zc_api_Store : List AV := [(V (.slice none 0 0)),(V (.slice none 0 0)),(V (.slice none 0 0)),(V (.slice none 0 0)),(V (.slice none 0 0)),(V (.slice none 0 0)),(V (.slice none 0 0)),(V (.slice none 0 0)),(V (.slice none 0 0)),(V (.slice none 0 0)),(V (.slice none 0 0)),(V (.slice none 0 0)),(V (.slice none 0 0)),(V (.slice none 0 0)),(V (.slice none 0 0)),(V (.slice none 0 0)),(V (.int .i64 0)),(V (.int .i64 0)),(V (.int .i64 0)),(V (.int .i64 0)),(V (.int .i64 0)),(V (.int .i64 0)),(V (.int .i64 0)),(V (.int .i64 0)),(V (.int .i64 0)),(V (.int .i64 0)),(V (.int .i64 0)),(V (.int .i64 0)),(V (.int .i64 0)),(V (.int .i64 0)),(V (.int .i64 0)),(V (.int .i64 0)),(V (.int .i64 0)),(V (.int .i64 0)),(V (.int .i64 0))]
def zc_store_no : List AV := [(V (.int .i64 0)),(V (.int .i64 0))]
def pl_api_Edit : List (Nat × Nat) := [(0,1),(1,3)]
def pl_api_Store : List (Nat × Nat) := [(0,32),(32,1),(33,1),(34,1)]
def pl_store_no : List (Nat × Nat) := [(0,1),(1,1)]
noncomputable def store_within_c : Code := (Tryd.f48.body).getD .skip
def store_within_h : Hint := (.two .n (.two .n .n))
noncomputable def store_within_env (m : Nat) : Env := []
noncomputable abbrev store_within_fin : KO (AV × List AObj) := tellFK Tryd.prog [.tmp 4]
noncomputable def store_within (m : Nat) (t0 t1 : AV) : RO := exec Tryd.prog GG (store_within_env m) m ⟨12,[]⟩ store_within_c store_within_h ⟨[],argsT 0 [t0,t1]⟩ (store_within_fin)
theorem store_within_eq (m : Nat) (t0 t1 : AV) : store_within m t0 t1 =
 binE none false false .geq t0 (V (.int .i64 0)) fun t6 =>
 condE t6 (
  binE none false false .leq t0 t1 fun t10 =>
  tellK [] (ro [] t10)) (
  tellK [] (ro [] (V (.bool false)))) := by
 refine (tellX _ _ _ _ _ _ _ _ _).trans ?_
 kernel_rfl
noncomputable def store_within_t (m : Nat) : List AV → RO|[t0,t1]=>store_within m t0 t1|_=>none
theorem store_within_ok (m : Nat) : ∀ args X H',store_within_t m args = some (X,H') → ACp Tryd.prog GG 48 args X := by
 intro args X H' h
 unfold store_within_t at h
 split at h
 ·exact tell_okK MIX (by intro f e h;cases h) (f := 48) (c := store_within_c) Tryd.func48 rfl (by kernel_rfl) _ rfl Tryd.ntmps48 (Nat.le_of_ble_eq_true rfl) store_within_h h
 ·cases h
noncomputable def store_May_c : Code := (Tryd.f17.body).getD .skip
def store_May_h : Hint := (.two .n (.join [1] (.join [1,26] .n (.two (.two .n .n) .n)) (.join [1] (.two .n (.one (.lp [] [1,29,30] [1,2] (.two .n (.two (.two .n .n) (.two (.one (.two .n (.two .n (.two (.two .n .n) .n)))) .n)))))) (.two .n .n))))
noncomputable def store_May_env (m : Nat) : Env := [(47, .tell (trunk_May_t m)),(48, .tell (store_within_t m)),(39, .tell (trunk_Weight_t m)),(40, .tell (trunk_Count_t m))]
noncomputable abbrev store_May_fin : KO (AV × List AObj) := tellFK Tryd.prog [.tmp 2]
noncomputable def store_May_r3 (m : Nat) (s : ASt) : RO := joinW Tryd.prog GG (store_May_env m) m ⟨52,[]⟩ (cdR (cdR (cdR store_May_c))) store_May_h.r.r.r s (store_May_fin)
noncomputable def store_May_b1 (m : Nat) (s : ASt) (kc : ASt → RO) (kx : KO (AV × List AObj)) : RO := bodyW Tryd.prog GG (store_May_env m) m ⟨52,[]⟩ (cdL (cdL (cdR (cdL (cdR (cdR store_May_c)))))) store_May_h.r.r.l.r.c.c [1,29,30] [1,2] s kc kx
noncomputable def store_May_r2 (m : Nat) (s : ASt) : RO := joinW Tryd.prog GG (store_May_env m) m ⟨52,[]⟩ (cdR (cdR store_May_c)) store_May_h.r.r s (store_May_fin)
noncomputable def store_May_r1 (m : Nat) (s : ASt) : RO := joinW Tryd.prog GG (store_May_env m) m ⟨52,[]⟩ (cdR (cdL (cdR store_May_c))) store_May_h.r.l.r s (seqX (fun s=>store_May_r2 m ⟨s.H,[(1,gt s.T 1)]⟩) (store_May_fin))
noncomputable def store_May (m : Nat) (t0 : AV) : RO := exec Tryd.prog GG (store_May_env m) m ⟨52,[]⟩ store_May_c store_May_h ⟨[],argsT 0 [t0]⟩ (store_May_fin)
theorem store_May_r3_eq (m : Nat) (H : List AObj) (t1 : AV) : store_May_r3 m ⟨H,[(1,t1)]⟩ =
 fieldE (some (0,34)) t1 fun t38 =>
 loadE 34 H t38 fun t39 =>
 tellE (trunk_Weight_t m [(ro H t39)]) [(ro H t39)] fun t40 =>
 fieldE (some (33,1)) t1 fun t41 =>
 loadE 1 H t41 fun t42 =>
 binE none false false .leq t40 t42 fun t43 =>
 condE t43 (
  fieldE (some (0,34)) t1 fun t45 =>
  loadE 34 H t45 fun t46 =>
  tellE (trunk_Count_t m [(ro H t46)]) [(ro H t46)] fun t47 =>
  fieldE (some (34,1)) t1 fun t48 =>
  loadE 1 H t48 fun t49 =>
  binE none false false .leq t47 t49 fun t50 =>
  tellK H (ro H t50)) (
  tellK H (ro H (V (.bool false)))) := by
 refine (joinW_eq _ _ _ _ _ _ _ _ _).trans ?_
 kernel_rfl
theorem store_May_b1_eq (m : Nat) (H : List AObj) (t1 t29 t30 : AV) (kc : ASt → RO) (kx : KO (AV × List AObj)) : store_May_b1 m ⟨H,[(1,t1),(29,t29),(30,t30)]⟩ kc kx =
 binE none false false .lss t30 (V (.int .i64 16)) fun t31 =>
 condE t31 (
  idxVE false (some (16,1)) t29 t30 fun t32 =>
  fieldE (some (32,1)) t1 fun t34 =>
  loadE 1 H t34 fun t35 =>
  binE none false false .gtr t32 t35 fun t36 =>
  condE t36 (
   kx .ret ⟨H,[(1,t1),(2,(V (.bool false)))]⟩) (
   binE none false false .add t30 (V (.int .i64 1)) fun t37 =>
   backE H.length H [(1,t1),(29,t29),(30,t37)] kc)) (
  kx (.exit 0) ⟨H,[(1,t1),(2, .nil)]⟩) := by
 refine (bodyW_eq _ _ _ _ _ _ _ _ _ _ _ _).trans ?_
 kernel_rfl
theorem store_May_r2_eq (m : Nat) (H : List AObj) (t1 : AV) : store_May_r2 m ⟨H,[(1,t1)]⟩ =
 fieldE (some (0,34)) t1 fun t27 =>
 fieldE (some (16,18)) t27 fun t28 =>
 loadE 18 H t28 fun t29 =>
 iterC m (store_May_b1 m) ⟨H,[(1,t1),(29,t29),(30,(V (.int .i64 0)))]⟩ (blockX 0 (seqX (fun s=>store_May_r3 m ⟨s.H,[(1,gt s.T 1)]⟩) (store_May_fin))) := by
 refine (joinW_eq _ _ _ _ _ _ _ _ _).trans ?_
 kernel_rfl
theorem store_May_r1_eq (m : Nat) (H : List AObj) (t1 t26 : AV) : store_May_r1 m ⟨H,[(1,t1),(26,t26)]⟩ =
 condE t26 (
  tellK H (ro H (V (.bool false)))) (
  store_May_r2 m ⟨H,[(1,t1)]⟩) := by
 refine (joinW_eq _ _ _ _ _ _ _ _ _).trans ?_
 kernel_rfl
theorem store_May_eq (m : Nat) (t0 : AV) : store_May m t0 =
 boxE ty_api_Store [] t0 fun t1 H1 =>
 fieldE (some (0,34)) t1 fun t5 =>
 loadE 34 H1 t5 fun t6 =>
 tellE (trunk_May_t m [(ro H1 t6)]) [(ro H1 t6)] fun t7 =>
 unE .not t7 fun t8 =>
 condE t8 (
  store_May_r1 m ⟨H1,[(1,t1),(26,(V (.bool true)))]⟩) (
  fieldE (some (32,1)) t1 fun t10 =>
  loadE 1 H1 t10 fun t11 =>
  tellE (store_within m (ro H1 t11) (V (.int .i64 2147483647))) [(ro H1 t11),(V (.int .i64 2147483647))] fun t12 =>
  unE .not t12 fun t13 =>
  condE t13 (
  store_May_r1 m ⟨H1,[(1,t1),(26,(V (.bool true)))]⟩) (
  fieldE (some (33,1)) t1 fun t16 =>
  loadE 1 H1 t16 fun t17 =>
  tellE (store_within m (ro H1 t17) (V (.int .i64 65536))) [(ro H1 t17),(V (.int .i64 65536))] fun t18 =>
  unE .not t18 fun t19 =>
  condE t19 (
  store_May_r1 m ⟨H1,[(1,t1),(26,(V (.bool true)))]⟩) (
  fieldE (some (34,1)) t1 fun t22 =>
  loadE 1 H1 t22 fun t23 =>
  tellE (store_within m (ro H1 t23) (V (.int .i64 1024))) [(ro H1 t23),(V (.int .i64 1024))] fun t24 =>
  unE .not t24 fun t25 =>
  store_May_r1 m ⟨H1,[(1,t1),(26,t25)]⟩))) := by
 refine (tellX _ _ _ _ _ _ _ _ _).trans ?_
 kernel_rfl
noncomputable def store_May_t (m : Nat) : List AV → RO|[t0]=>store_May m t0|_=>none
theorem store_May_ok (m : Nat) : ∀ args X H',store_May_t m args = some (X,H') → ACp Tryd.prog GG 17 args X := by
 intro args X H' h
 unfold store_May_t at h
 split at h
 ·exact tell_okK MIX (by
  intro f e h
  simp only [store_May_env,Prod.mk.injEq,List.mem_cons,List.not_mem_nil,or_false] at h
  rcases h with ⟨rfl,rfl⟩|⟨rfl,rfl⟩|⟨rfl,rfl⟩|⟨rfl,rfl⟩
  ·exact trunk_May_ok m
  ·exact store_within_ok m
  ·exact trunk_Weight_ok m
  ·exact trunk_Count_ok m) (f := 17) (c := store_May_c) Tryd.func17 rfl (by kernel_rfl) _ rfl Tryd.ntmps17 (Nat.le_of_ble_eq_true rfl) store_May_h h
 ·cases h
noncomputable def store_New_c : Code := (Tryd.f27.body).getD .skip
def store_New_h : Hint := (.two .n (.two .n (.two (.two .n (.two (.two .n .n) .n)) (.two .n .n))))
noncomputable def store_New_env (m : Nat) : Env := [(17, .tell (store_May_t m))]
noncomputable abbrev store_New_fin : KO (AV × List AObj) := tellFK Tryd.prog [.cell 4 28, .tmp 5]
noncomputable def store_New (m : Nat) (t0 t1 : AV) : RO := exec Tryd.prog GG (store_New_env m) m ⟨15,[]⟩ store_New_c store_New_h ⟨[],argsT 0 [t0,t1]⟩ (store_New_fin)
theorem store_New_eq (m : Nat) (t0 t1 : AV) : store_New m t0 t1 =
 allocE (some zc_api_Store) ty_api_Store [] fun t4 H1 =>
 buildE (some pl_api_Store) (some zc_api_Store) [(2,t0),(3,t1)] fun t9 =>
 allocE (some zc_api_Store) ty_api_Store H1 fun t6 H2 =>
 storeE 37 H2 t6 t9 fun H3 =>
 loadE 37 H3 t6 fun t10 =>
 tellE (store_May m (ro H3 t10)) [(ro H3 t10)] fun t11 =>
 unE .not t11 fun t12 =>
 condE t12 (
  buildE (some pl_api_Store) (some zc_api_Store) [] fun t13 =>
  storeE 37 H3 t4 t13 fun H4 =>
  loadE 37 H4 t4 fun t9000 =>
  tellK H4 (ro H4 (TU [noT t9000,noT (V (.int .i64 1))]))) (
  loadE 37 H3 t6 fun t14 =>
  storeE 37 H3 t4 t14 fun H4 =>
  loadE 37 H4 t4 fun t9000 =>
  tellK H4 (ro H4 (TU [noT t9000,noT (V (.int .i64 0))]))) := by
 refine (tellX _ _ _ _ _ _ _ _ _).trans ?_
 kernel_rfl
noncomputable def store_New_t (m : Nat) : List AV → RO|[t0,t1]=>store_New m t0 t1|_=>none
theorem store_New_ok (m : Nat) : ∀ args X H',store_New_t m args = some (X,H') → ACp Tryd.prog GG 27 args X := by
 intro args X H' h
 unfold store_New_t at h
 split at h
 ·exact tell_okK MIX (by
  intro f e h
  simp only [store_New_env,Prod.mk.injEq,List.mem_cons,List.not_mem_nil,or_false] at h
  obtain ⟨rfl,rfl⟩ := h
  ·exact store_May_ok m) (f := 27) (c := store_New_c) Tryd.func27 rfl (by kernel_rfl) _ rfl Tryd.ntmps27 (Nat.le_of_ble_eq_true rfl) store_New_h h
 ·cases h
noncomputable def store_Room_c : Code := (Tryd.f28.body).getD .skip
def store_Room_h : Hint := (.two .n (.two (.two .n (.two (.two .n .n) .n)) (.two .n .n)))
noncomputable def store_Room_env (m : Nat) : Env := [(17, .tell (store_May_t m)),(39, .tell (trunk_Weight_t m)),(40, .tell (trunk_Count_t m))]
noncomputable abbrev store_Room_fin : KO (AV × List AObj) := tellFK Tryd.prog [.tmp 2, .tmp 3]
noncomputable def store_Room (m : Nat) (t0 : AV) : RO := exec Tryd.prog GG (store_Room_env m) m ⟨19,[]⟩ store_Room_c store_Room_h ⟨[],argsT 0 [t0]⟩ (store_Room_fin)
theorem store_Room_eq (m : Nat) (t0 : AV) : store_Room m t0 =
 boxE ty_api_Store [] t0 fun t1 H1 =>
 loadE 37 H1 t1 fun t4 =>
 tellE (store_May m (ro H1 t4)) [(ro H1 t4)] fun t5 =>
 unE .not t5 fun t6 =>
 condE t6 (
  tellK H1 (ro H1 (TU [noT (V (.int .i64 0)),noT (V (.int .i64 0))]))) (
  fieldE (some (33,1)) t1 fun t7 =>
  loadE 1 H1 t7 fun t8 =>
  fieldE (some (0,34)) t1 fun t9 =>
  loadE 34 H1 t9 fun t10 =>
  tellE (trunk_Weight_t m [(ro H1 t10)]) [(ro H1 t10)] fun t11 =>
  binE none false false .sub t8 t11 fun t12 =>
  fieldE (some (34,1)) t1 fun t13 =>
  loadE 1 H1 t13 fun t14 =>
  fieldE (some (0,34)) t1 fun t15 =>
  loadE 34 H1 t15 fun t16 =>
  tellE (trunk_Count_t m [(ro H1 t16)]) [(ro H1 t16)] fun t17 =>
  binE none false false .sub t14 t17 fun t18 =>
  tellK H1 (ro H1 (TU [noT t12,noT t18]))) := by
 refine (tellX _ _ _ _ _ _ _ _ _).trans ?_
 kernel_rfl
noncomputable def store_Room_t (m : Nat) : List AV → RO|[t0]=>store_Room m t0|_=>none
theorem store_Room_ok (m : Nat) : ∀ args X H',store_Room_t m args = some (X,H') → ACp Tryd.prog GG 28 args X := by
 intro args X H' h
 unfold store_Room_t at h
 split at h
 ·exact tell_okK MIX (by
  intro f e h
  simp only [store_Room_env,Prod.mk.injEq,List.mem_cons,List.not_mem_nil,or_false] at h
  rcases h with ⟨rfl,rfl⟩|⟨rfl,rfl⟩|⟨rfl,rfl⟩
  ·exact store_May_ok m
  ·exact trunk_Weight_ok m
  ·exact trunk_Count_ok m) (f := 28) (c := store_Room_c) Tryd.func28 rfl (by kernel_rfl) _ rfl Tryd.ntmps28 (Nat.le_of_ble_eq_true rfl) store_Room_h h
 ·cases h
noncomputable def store_Get_c : Code := (Tryd.f16.body).getD .skip
def store_Get_h : Hint := (.two .n (.two (.one (.two .n (.two (.two .n .n) (.two .n (.two (.two .n .n) .n))))) (.two .n (.two (.two .n (.two (.two .n .n) .n)) (.two .n .n)))))
noncomputable def store_Get_env (m : Nat) : Env := [(17, .tell (store_May_t m)),(35, .tell (key_Is_t m)),(46, .tell (trunk_Get_t m))]
noncomputable abbrev store_Get_fin : KO (AV × List AObj) := tellFK Tryd.prog [.cell 4 43, .tmp 5, .tmp 6]
noncomputable def store_Get (m : Nat) (t0 t1 : AV) : RO := exec Tryd.prog GG (store_Get_env m) m ⟨33,[]⟩ store_Get_c store_Get_h ⟨[],argsT 0 [t0,t1]⟩ (store_Get_fin)
theorem store_Get_eq (m : Nat) (t0 t1 : AV) : store_Get m t0 t1 =
 boxE ty_api_Store [] t0 fun t2 H1 =>
 allocE (some zc_api_Value) ty_api_Value H1 fun t4 H2 =>
 loadE 37 H2 t2 fun t10 =>
 tellE (store_May m (ro H2 t10)) [(ro H2 t10)] fun t11 =>
 unE .not t11 fun t12 =>
 condE t12 (
  buildE (some pl_api_Value) (some zc_api_Value) [] fun t13 =>
  storeE 5 H2 t4 t13 fun H3 =>
  loadE 5 H3 t4 fun t9000 =>
  tellK H3 (ro H3 (TU [noT t9000,noT (V (.int .i64 0)),noT (V (.int .i64 1))]))) (
  tellE (key_Is_t m [(ro H2 t1)]) [(ro H2 t1)] fun t16 =>
  unE .not t16 fun t17 =>
  condE t17 (
   buildE (some pl_api_Value) (some zc_api_Value) [] fun t18 =>
   storeE 5 H2 t4 t18 fun H3 =>
   loadE 5 H3 t4 fun t9000 =>
   tellK H3 (ro H3 (TU [noT t9000,noT (V (.int .i64 0)),noT (V (.int .i64 3))]))) (
   fieldE (some (0,34)) t2 fun t20 =>
   loadE 34 H2 t20 fun t21 =>
   tellE (trunk_Get_t m [(ro H2 t21),(ro H2 t1)]) [(ro H2 t21),(ro H2 t1)] fun t23 =>
   extE t23 0 fun t24 =>
   extE t23 1 fun t25 =>
   allocE (some zc_api_Item) ty_api_Item H2 fun t7 H3 =>
   storeE 7 H3 t7 t24 fun H4 =>
   unE .not t25 fun t27 =>
   condE t27 (
    buildE (some pl_api_Value) (some zc_api_Value) [] fun t28 =>
    storeE 5 H4 t4 t28 fun H5 =>
    loadE 5 H5 t4 fun t9000 =>
    tellK H5 (ro H5 (TU [noT t9000,noT (V (.int .i64 0)),noT (V (.int .i64 6))]))) (
    fieldE (some (1,5)) t7 fun t29 =>
    loadE 5 H4 t29 fun t30 =>
    fieldE (some (4,1)) t7 fun t31 =>
    loadE 1 H4 t31 fun t32 =>
    storeE 5 H4 t4 t30 fun H5 =>
    loadE 1 H5 t31 fun t8025 =>
    eqE t32 t8025 (
    loadE 5 H5 t4 fun t9000 =>
    tellK H5 (ro H5 (TU [noT t9000,noT t32,noT (V (.int .i64 0))])))))) := by
 refine (tellX _ _ _ _ _ _ _ _ _).trans ?_
 kernel_rfl
noncomputable def store_Get_t (m : Nat) : List AV → RO|[t0,t1]=>store_Get m t0 t1|_=>none
theorem store_Get_ok (m : Nat) : ∀ args X H',store_Get_t m args = some (X,H') → ACp Tryd.prog GG 16 args X := by
 intro args X H' h
 unfold store_Get_t at h
 split at h
 ·exact tell_okK MIX (by
  intro f e h
  simp only [store_Get_env,Prod.mk.injEq,List.mem_cons,List.not_mem_nil,or_false] at h
  rcases h with ⟨rfl,rfl⟩|⟨rfl,rfl⟩|⟨rfl,rfl⟩
  ·exact store_May_ok m
  ·exact key_Is_ok m
  ·exact trunk_Get_ok m) (f := 16) (c := store_Get_c) Tryd.func16 rfl (by kernel_rfl) _ rfl Tryd.ntmps16 (Nat.le_of_ble_eq_true rfl) store_Get_h h
 ·cases h
noncomputable def store_one_c : Code := (Tryd.f38.body).getD .skip
def store_one_h : Hint := (.two .n (.two .n (.join [3,8,9,10] (.two .n (.two .n (.two .n (.two .n (.two .n .n))))) (.join [8,9] (.two .n (.two .n .n)) (.two .n .n)))))
noncomputable def store_one_env (m : Nat) : Env := [(62, .tell (trunk_Put_t m)),(46, .tell (trunk_Get_t m)),(63, .tell (trunk_Delete_t m)),(999999, .pan fun _ _=>none)]
noncomputable abbrev store_one_fin (n0 : Nat) : KO (AV × List AObj) := panFK Tryd.prog n0 [.cell 8 26]
noncomputable def store_one_r2 (m : Nat) (n0k : Nat) (s : ASt) : RO := joinW Tryd.prog GG (store_one_env m) m ⟨52,[]⟩ (cdR (cdR (cdR (cdR store_one_c)))) store_one_h.r.r.r.r s (store_one_fin n0k)
noncomputable def store_one_r1 (m : Nat) (n0k : Nat) (s : ASt) : RO := joinW Tryd.prog GG (store_one_env m) m ⟨52,[]⟩ (cdR (cdR (cdR store_one_c))) store_one_h.r.r.r s (store_one_fin n0k)
noncomputable def store_one (m : Nat) (t0 t1 t2 t3 : AV) (H : List AObj) : RO := exec Tryd.prog GG (store_one_env m) m ⟨52,[]⟩ store_one_c store_one_h ⟨H,argsT 0 [t0,t1,t2,t3]⟩ (store_one_fin H.length)
theorem store_one_r2_eq (m : Nat) (n0k : Nat) (H : List AObj) (t8 t9 : AV) : store_one_r2 m n0k ⟨H,[(8,t8),(9,t9)]⟩ =
 loadE 34 H t9 fun t51 =>
 storeE 34 H t8 t51 fun H2 =>
 loadE 34 H2 t8 fun t9000 =>
 keepK n0k H2 (ro H2 t9000) := by
 refine (joinW_eq _ _ _ _ _ _ _ _ _).trans ?_
 kernel_rfl
theorem store_one_r1_eq (m : Nat) (n0k : Nat) (H : List AObj) (t3 t8 t9 t10 : AV) : store_one_r1 m n0k ⟨H,[(3,t3),(8,t8),(9,t9),(10,t10)]⟩ =
 binE none false false .neq t10 (V (.int .i64 0)) fun t46 =>
 condE t46 (
  buildE (some pl_store_no) (some zc_store_no) [(0,t10),(1,t3)] fun t49 =>
  whenE true (ifE 74 t49 fun t50 =>
  panicE t50 H fun u1 H2=>panKE n0k H2 u1)) (
  store_one_r2 m n0k ⟨H,[(8,t8),(9,t9)]⟩) := by
 refine (joinW_eq _ _ _ _ _ _ _ _ _).trans ?_
 kernel_rfl
theorem store_one_eq (m : Nat) (t0 t1 t2 t3 : AV) (H : List AObj) : store_one m t0 t1 t2 t3 H =
 boxE ty_api_Trunk H t0 fun t4 H2 =>
 boxE ty_api_Edit H2 t1 fun t5 H3 =>
 allocE (some zc_api_Trunk) ty_api_Trunk H3 fun t8 H4 =>
 loadE 34 H4 t4 fun t13 =>
 allocE (some zc_api_Trunk) ty_api_Trunk H4 fun t9 H5 =>
 storeE 34 H5 t9 t13 fun H6 =>
 fieldE (some (1,5)) t5 fun t14 =>
 fieldE (some (0,1)) t14 fun t15 =>
 loadE 1 H6 t15 fun t16 =>
 binE none false false .neq t16 (V (.int .i64 0)) fun t17 =>
 condE t17 (
  loadE 34 H6 t4 fun t19 =>
  fieldE (some (0,1)) t5 fun t20 =>
  loadE 1 H6 t20 fun t21 =>
  fieldE (some (1,5)) t5 fun t22 =>
  loadE 5 H6 t22 fun t23 =>
  buildE (some pl_api_Item) (some zc_api_Item) [(0,t21),(1,t23),(2,t2)] fun t25 =>
  tellE (trunk_Put_t m [(ro H6 t19),(ro H6 t25)]) [(ro H6 t19),(ro H6 t25)] fun t26 =>
  extE t26 0 fun t27 =>
  extE t26 1 fun t28 =>
  storeE 34 H6 t9 t27 fun H7 =>
  store_one_r1 m H.length ⟨H7,[(3,t3),(8,t8),(9,t9),(10,t28)]⟩) (
  loadE 34 H6 t4 fun t30 =>
  fieldE (some (0,1)) t5 fun t31 =>
  loadE 1 H6 t31 fun t32 =>
  tellE (trunk_Get_t m [(ro H6 t30),(ro H6 t32)]) [(ro H6 t30),(ro H6 t32)] fun t33 =>
  extE t33 0 fun t34 =>
  extE t33 1 fun t35 =>
  allocE (some zc_api_Item) ty_api_Item H6 fun t11 H7 =>
  storeE 7 H7 t11 t34 fun H8 =>
  condE t35 (
   loadE 34 H8 t4 fun t38 =>
   fieldE (some (0,1)) t5 fun t39 =>
   loadE 1 H8 t39 fun t40 =>
   tellE (trunk_Delete_t m [(ro H8 t38),(ro H8 t40),(ro H8 t2)]) [(ro H8 t38),(ro H8 t40),(ro H8 t2)] fun t42 =>
   extE t42 0 fun t43 =>
   extE t42 1 fun t44 =>
   storeE 34 H8 t9 t43 fun H9 =>
   store_one_r1 m H.length ⟨H9,[(3,t3),(8,t8),(9,t9),(10,t44)]⟩) (
   store_one_r1 m H.length ⟨H8,[(3,t3),(8,t8),(9,t9),(10,(V (.int .i64 0)))]⟩)) := by
 refine (panX Tryd.prog GG (store_one_env m) m ⟨52,[]⟩ H.length store_one_c store_one_h ⟨H,argsT 0 [t0,t1,t2,t3]⟩ [.cell 8 26]).trans ?_
 kernel_rfl
noncomputable def store_one_t (m : Nat) : List AV → List AObj → RO|[t0,t1,t2,t3],H=>store_one m t0 t1 t2 t3 H|_,_=>none
theorem store_one_ok (m : Nat) : ∀ args H X H',store_one_t m args H = some (X,H') → ACx Tryd.prog GG 38 args H (Is X H') := by
 intro args H X H' h
 unfold store_one_t at h
 split at h
 ·exact pan_ok MIX (by
  intro f e h
  simp only [store_one_env,Prod.mk.injEq,Prod.mk.injEq,List.mem_cons,List.not_mem_nil,or_false] at h
  rcases h with ⟨rfl,rfl⟩|⟨rfl,rfl⟩|⟨rfl,rfl⟩|⟨rfl,rfl⟩
  ·exact trunk_Put_ok m
  ·exact trunk_Get_ok m
  ·exact trunk_Delete_ok m
  ·intro _ _ _ _ h;cases h) (f := 38) (c := store_one_c) Tryd.func38 rfl (by kernel_rfl) _ rfl Tryd.ntmps38 (Nat.le_of_ble_eq_true rfl) store_one_h h
 ·cases h
noncomputable def store_Undo_c : Code := (Tryd.f18.body).getD .skip
def store_Undo_h : Hint := (.two .n (.join [2,3] (.join [2,3,18] .n (.two (.two .n .n) .n)) (.two .n (.two .n (.two .n (.join [10] (.one (.lp [(10,ty_api_Edit,4)] [6,8,10] [10] (.join [6,8,10] (.join [6,8,10,38] .n (.two .n .n)) (.one (.one (.join [6,8,10,64] .n (.two (.two .n .n) (.join [6,8,10,98] .n (.two (.two .n .n) (.join [6,8,10] (.two .n (.two .n .n)) .n)))))))))) (.two .n .n)))))))
noncomputable def store_Undo_env (m : Nat) : Env := [(17, .tell (store_May_t m)),(49, .tell (span_ScanQ_t m))]
noncomputable abbrev store_Undo_fin : KO (AV × List AObj) := tellFK Tryd.prog [.tmp 4, .tmp 5]
noncomputable def store_Undo_r8 (m : Nat) (n0 : Nat) (kc : ASt → RO) (kx : KO (AV × List AObj)) (s : ASt) : RO := joinW Tryd.prog GG (store_Undo_env m) m ⟨124,[]⟩ (cdR (cdR (cdR (cdR (cdR (cdL (cdL (cdR (cdL (cdL (cdL (cdR (cdR (cdR (cdR (cdR store_Undo_c)))))))))))))))) store_Undo_h.r.r.r.r.r.l.c.c.r.c.c.r.r.r.r.r s (blockX 2 (blockX 1 (backW n0 [6,8,10] [10] kc kx)))
noncomputable def store_Undo_r7 (m : Nat) (n0 : Nat) (kc : ASt → RO) (kx : KO (AV × List AObj)) (s : ASt) : RO := joinW Tryd.prog GG (store_Undo_env m) m ⟨124,[]⟩ (cdR (cdR (cdR (cdL (cdL (cdR (cdL (cdL (cdL (cdR (cdR (cdR (cdR (cdR store_Undo_c)))))))))))))) store_Undo_h.r.r.r.r.r.l.c.c.r.c.c.r.r.r s (blockX 2 (blockX 1 (backW n0 [6,8,10] [10] kc kx)))
noncomputable def store_Undo_r6 (m : Nat) (n0 : Nat) (kc : ASt → RO) (kx : KO (AV × List AObj)) (s : ASt) : RO := joinW Tryd.prog GG (store_Undo_env m) m ⟨124,[]⟩ (cdR (cdL (cdL (cdR (cdL (cdL (cdL (cdR (cdR (cdR (cdR (cdR store_Undo_c)))))))))))) store_Undo_h.r.r.r.r.r.l.c.c.r.c.c.r s (blockX 2 (blockX 1 (backW n0 [6,8,10] [10] kc kx)))
noncomputable def store_Undo_r5 (m : Nat) (n0 : Nat) (kc : ASt → RO) (kx : KO (AV × List AObj)) (s : ASt) : RO := joinW Tryd.prog GG (store_Undo_env m) m ⟨124,[]⟩ (cdR (cdL (cdL (cdL (cdR (cdR (cdR (cdR (cdR store_Undo_c))))))))) store_Undo_h.r.r.r.r.r.l.c.c.r s (backW n0 [6,8,10] [10] kc kx)
noncomputable def store_Undo_r4 (m : Nat) (n0 : Nat) (kc : ASt → RO) (kx : KO (AV × List AObj)) (s : ASt) : RO := joinW Tryd.prog GG (store_Undo_env m) m ⟨124,[]⟩ (cdR (cdL (cdL (cdL (cdL (cdR (cdR (cdR (cdR (cdR store_Undo_c)))))))))) store_Undo_h.r.r.r.r.r.l.c.c.l.r s (seqX (fun s=>store_Undo_r5 m n0 kc kx ⟨s.H,[(6,gt s.T 6),(8,gt s.T 8),(10,gt s.T 10)]⟩) (backW n0 [6,8,10] [10] kc kx))
noncomputable def store_Undo_r3 (m : Nat) (s : ASt) : RO := joinW Tryd.prog GG (store_Undo_env m) m ⟨124,[]⟩ (cdR (cdR (cdR (cdR (cdR (cdR store_Undo_c)))))) store_Undo_h.r.r.r.r.r.r s (store_Undo_fin)
noncomputable def store_Undo_b1 (m : Nat) (s : ASt) (kc : ASt → RO) (kx : KO (AV × List AObj)) : RO := bodyW Tryd.prog GG (store_Undo_env m) m ⟨124,[]⟩ (cdL (cdL (cdL (cdR (cdR (cdR (cdR (cdR store_Undo_c)))))))) store_Undo_h.r.r.r.r.r.l.c.c [6,8,10] [10] s kc kx
noncomputable def store_Undo_r2 (m : Nat) (s : ASt) : RO := joinW Tryd.prog GG (store_Undo_env m) m ⟨124,[]⟩ (cdR (cdR store_Undo_c)) store_Undo_h.r.r s (store_Undo_fin)
noncomputable def store_Undo_r1 (m : Nat) (s : ASt) : RO := joinW Tryd.prog GG (store_Undo_env m) m ⟨124,[]⟩ (cdR (cdL (cdR store_Undo_c))) store_Undo_h.r.l.r s (seqX (fun s=>store_Undo_r2 m ⟨s.H,[(2,gt s.T 2),(3,gt s.T 3)]⟩) (store_Undo_fin))
noncomputable def store_Undo (m : Nat) (t0 t1 : AV) : RO := exec Tryd.prog GG (store_Undo_env m) m ⟨124,[]⟩ store_Undo_c store_Undo_h ⟨[],argsT 0 [t0,t1]⟩ (store_Undo_fin)
theorem store_Undo_r8_eq (m : Nat) (n0 : Nat) (kc : ASt → RO) (kx : KO (AV × List AObj)) (H : List AObj) (t6 t8 t10 : AV) : store_Undo_r8 m n0 kc kx ⟨H,[(6,t6),(8,t8),(10,t10)]⟩ =
 sliceE false (some (ty_api_Item,7)) H t6 (some (V (.int .i64 1))) none fun t61 =>
 sliceE false (some (ty_api_Item,7)) H t8 (some (V (.int .i64 1))) none fun t63 =>
 backE n0 H [(6,t61),(8,t63),(10,t10)] kc := by
 refine (joinW_eq _ _ _ _ _ _ _ _ _).trans ?_
 kernel_rfl
theorem store_Undo_r7_eq (m : Nat) (n0 : Nat) (kc : ASt → RO) (kx : KO (AV × List AObj)) (H : List AObj) (t6 t8 t10 t98 : AV) : store_Undo_r7 m n0 kc kx ⟨H,[(6,t6),(8,t8),(10,t10),(98,t98)]⟩ =
 condE t98 (
  idxSE 7 H t8 (V (.int .i64 0)) fun t115 =>
  fieldE (some (0,1)) t115 fun t116 =>
  loadE 1 H t116 fun t117 =>
  buildE (some pl_api_Edit) (some zc_api_Edit) [(0,t117)] fun t118 =>
  buildSE (some (ty_api_Edit,4)) 1 [(0,t118)] fun t119 =>
  appE (some (ty_api_Edit,4)) H t10 t119 fun t120 H2 =>
  sliceE false (some (ty_api_Item,7)) H2 t8 (some (V (.int .i64 1))) none fun t122 =>
  backE n0 H2 [(6,t6),(8,t122),(10,t120)] kc) (
  idxSE 7 H t6 (V (.int .i64 0)) fun t40 =>
  fieldE (some (1,5)) t40 fun t41 =>
  loadE 5 H t41 fun t42 =>
  idxSE 7 H t8 (V (.int .i64 0)) fun t44 =>
  fieldE (some (1,5)) t44 fun t45 =>
  loadE 5 H t45 fun t46 =>
  binE (some [.i .i64, .i .i64, .s]) false false .neq t42 t46 fun t47 =>
  condE t47 (
   idxSE 7 H t6 (V (.int .i64 0)) fun t50 =>
   fieldE (some (0,1)) t50 fun t51 =>
   loadE 1 H t51 fun t52 =>
   idxSE 7 H t6 (V (.int .i64 0)) fun t54 =>
   fieldE (some (1,5)) t54 fun t55 =>
   loadE 5 H t55 fun t56 =>
   buildE (some pl_api_Edit) (some zc_api_Edit) [(0,t52),(1,t56)] fun t57 =>
   buildSE (some (ty_api_Edit,4)) 1 [(0,t57)] fun t58 =>
   appE (some (ty_api_Edit,4)) H t10 t58 fun t59 H2 =>
   store_Undo_r8 m n0 kc kx ⟨H2,[(6,t6),(8,t8),(10,t59)]⟩) (
   store_Undo_r8 m n0 kc kx ⟨H,[(6,t6),(8,t8),(10,t10)]⟩)) := by
 refine (joinW_eq _ _ _ _ _ _ _ _ _).trans ?_
 kernel_rfl
theorem store_Undo_r6_eq (m : Nat) (n0 : Nat) (kc : ASt → RO) (kx : KO (AV × List AObj)) (H : List AObj) (t6 t8 t10 t64 : AV) : store_Undo_r6 m n0 kc kx ⟨H,[(6,t6),(8,t8),(10,t10),(64,t64)]⟩ =
 condE t64 (
  idxSE 7 H t6 (V (.int .i64 0)) fun t86 =>
  fieldE (some (0,1)) t86 fun t87 =>
  loadE 1 H t87 fun t88 =>
  idxSE 7 H t6 (V (.int .i64 0)) fun t90 =>
  fieldE (some (1,5)) t90 fun t91 =>
  loadE 5 H t91 fun t92 =>
  buildE (some pl_api_Edit) (some zc_api_Edit) [(0,t88),(1,t92)] fun t93 =>
  buildSE (some (ty_api_Edit,4)) 1 [(0,t93)] fun t94 =>
  appE (some (ty_api_Edit,4)) H t10 t94 fun t95 H2 =>
  sliceE false (some (ty_api_Item,7)) H2 t6 (some (V (.int .i64 1))) none fun t97 =>
  backE n0 H2 [(6,t97),(8,t8),(10,t95)] kc) (
  lenE false true H t6 fun t100 =>
  binE none false false .eql t100 (V (.int .i64 0)) fun t101 =>
  condE t101 (
   store_Undo_r7 m n0 kc kx ⟨H,[(6,t6),(8,t8),(10,t10),(98,(V (.bool true)))]⟩) (
   idxSE 7 H t8 (V (.int .i64 0)) fun t104 =>
   fieldE (some (0,1)) t104 fun t105 =>
   loadE 1 H t105 fun t106 =>
   idxSE 7 H t6 (V (.int .i64 0)) fun t108 =>
   fieldE (some (0,1)) t108 fun t109 =>
   loadE 1 H t109 fun t110 =>
   binE none false false .lss t106 t110 fun t111 =>
   store_Undo_r7 m n0 kc kx ⟨H,[(6,t6),(8,t8),(10,t10),(98,t111)]⟩)) := by
 refine (joinW_eq _ _ _ _ _ _ _ _ _).trans ?_
 kernel_rfl
theorem store_Undo_r5_eq (m : Nat) (n0 : Nat) (kc : ASt → RO) (kx : KO (AV × List AObj)) (H : List AObj) (t6 t8 t10 : AV) : store_Undo_r5 m n0 kc kx ⟨H,[(6,t6),(8,t8),(10,t10)]⟩ =
 lenE false true H t8 fun t66 =>
 binE none false false .eql t66 (V (.int .i64 0)) fun t67 =>
 condE t67 (
  store_Undo_r6 m n0 kc kx ⟨H,[(6,t6),(8,t8),(10,t10),(64,(V (.bool true)))]⟩) (
  lenE false true H t6 fun t70 =>
  binE none false false .gtr t70 (V (.int .i64 0)) fun t71 =>
  condE t71 (
  idxSE 7 H t6 (V (.int .i64 0)) fun t74 =>
  fieldE (some (0,1)) t74 fun t75 =>
  loadE 1 H t75 fun t76 =>
  idxSE 7 H t8 (V (.int .i64 0)) fun t78 =>
  fieldE (some (0,1)) t78 fun t79 =>
  loadE 1 H t79 fun t80 =>
  binE none false false .lss t76 t80 fun t81 =>
  store_Undo_r6 m n0 kc kx ⟨H,[(6,t6),(8,t8),(10,t10),(64,t81)]⟩) (
  store_Undo_r6 m n0 kc kx ⟨H,[(6,t6),(8,t8),(10,t10),(64,(V (.bool false)))]⟩)) := by
 refine (joinW_eq _ _ _ _ _ _ _ _ _).trans ?_
 kernel_rfl
theorem store_Undo_r4_eq (m : Nat) (n0 : Nat) (kc : ASt → RO) (kx : KO (AV × List AObj)) (H : List AObj) (t6 t8 t10 t38 : AV) : store_Undo_r4 m n0 kc kx ⟨H,[(6,t6),(8,t8),(10,t10),(38,t38)]⟩ =
 condE t38 (
  store_Undo_r5 m n0 kc kx ⟨H,[(6,t6),(8,t8),(10,t10)]⟩) (
  kx (.exit 0) ⟨H,[(10,t10)]⟩) := by
 refine (joinW_eq _ _ _ _ _ _ _ _ _).trans ?_
 kernel_rfl
theorem store_Undo_r3_eq (m : Nat) (H : List AObj) (t10 : AV) : store_Undo_r3 m ⟨H,[(10,t10)]⟩ =
 tellK H (ro H (TU [noT t10,noT (V (.int .i64 0))])) := by
 refine (joinW_eq _ _ _ _ _ _ _ _ _).trans ?_
 kernel_rfl
theorem store_Undo_b1_eq (m : Nat) (H : List AObj) (t6 t8 t10 : AV) (kc : ASt → RO) (kx : KO (AV × List AObj)) : store_Undo_b1 m ⟨H,[(6,t6),(8,t8),(10,t10)]⟩ kc kx =
 lenE false true H t6 fun t32 =>
 binE none false false .gtr t32 (V (.int .i64 0)) fun t33 =>
 condE t33 (
  store_Undo_r4 m H.length kc kx ⟨H,[(6,t6),(8,t8),(10,t10),(38,(V (.bool true)))]⟩) (
  lenE false true H t8 fun t36 =>
  binE none false false .gtr t36 (V (.int .i64 0)) fun t37 =>
  store_Undo_r4 m H.length kc kx ⟨H,[(6,t6),(8,t8),(10,t10),(38,t37)]⟩) := by
 refine (bodyW_eq _ _ _ _ _ _ _ _ _ _ _ _).trans ?_
 kernel_rfl
theorem store_Undo_r2_eq (m : Nat) (H : List AObj) (t2 t3 : AV) : store_Undo_r2 m ⟨H,[(2,t2),(3,t3)]⟩ =
 fieldE (some (0,34)) t2 fun t20 =>
 loadE 34 H t20 fun t21 =>
 tellE (span_ScanQ_t m [(ro H t21),(V (.string ⟨#[]⟩)),(V (.string ⟨#[]⟩)),(V (.int .i64 1024))]) [(ro H t21),(V (.string ⟨#[]⟩)),(V (.string ⟨#[]⟩)),(V (.int .i64 1024))] fun t22 =>
 extE t22 0 fun t23 =>
 extE t22 1 fun t24 =>
 fieldE (some (0,34)) t3 fun t26 =>
 loadE 34 H t26 fun t27 =>
 tellE (span_ScanQ_t m [(ro H t27),(V (.string ⟨#[]⟩)),(V (.string ⟨#[]⟩)),(V (.int .i64 1024))]) [(ro H t27),(V (.string ⟨#[]⟩)),(V (.string ⟨#[]⟩)),(V (.int .i64 1024))] fun t28 =>
 extE t28 0 fun t29 =>
 extE t28 1 fun t30 =>
 rowE (V (.slice none 0 0)) ty_api_Edit 4 H fun t10 H2 =>
 iterC m (store_Undo_b1 m) ⟨H2,[(6,t23),(8,t29),(10,t10)]⟩ (blockX 0 (seqX (fun s=>store_Undo_r3 m ⟨s.H,[(10,gt s.T 10)]⟩) (store_Undo_fin))) := by
 refine (joinW_eq _ _ _ _ _ _ _ _ _).trans ?_
 kernel_rfl
theorem store_Undo_r1_eq (m : Nat) (H : List AObj) (t2 t3 t18 : AV) : store_Undo_r1 m ⟨H,[(2,t2),(3,t3),(18,t18)]⟩ =
 condE t18 (
  tellK H (ro H (TU [noT (V (.slice none 0 0)),noT (V (.int .i64 1))]))) (
  store_Undo_r2 m ⟨H,[(2,t2),(3,t3)]⟩) := by
 refine (joinW_eq _ _ _ _ _ _ _ _ _).trans ?_
 kernel_rfl
theorem store_Undo_eq (m : Nat) (t0 t1 : AV) : store_Undo m t0 t1 =
 boxE ty_api_Store [] t0 fun t2 H1 =>
 boxE ty_api_Store H1 t1 fun t3 H2 =>
 loadE 37 H2 t2 fun t11 =>
 tellE (store_May m (ro H2 t11)) [(ro H2 t11)] fun t12 =>
 unE .not t12 fun t13 =>
 condE t13 (
  store_Undo_r1 m ⟨H2,[(2,t2),(3,t3),(18,(V (.bool true)))]⟩) (
  loadE 37 H2 t3 fun t15 =>
  tellE (store_May m (ro H2 t15)) [(ro H2 t15)] fun t16 =>
  unE .not t16 fun t17 =>
  store_Undo_r1 m ⟨H2,[(2,t2),(3,t3),(18,t17)]⟩) := by
 refine (tellX _ _ _ _ _ _ _ _ _).trans ?_
 kernel_rfl
noncomputable def store_Undo_t (m : Nat) : List AV → RO|[t0,t1]=>store_Undo m t0 t1|_=>none
theorem store_Undo_ok (m : Nat) : ∀ args X H',store_Undo_t m args = some (X,H') → ACp Tryd.prog GG 18 args X := by
 intro args X H' h
 unfold store_Undo_t at h
 split at h
 ·exact tell_okK MIX (by
  intro f e h
  simp only [store_Undo_env,Prod.mk.injEq,List.mem_cons,List.not_mem_nil,or_false] at h
  rcases h with ⟨rfl,rfl⟩|⟨rfl,rfl⟩
  ·exact store_May_ok m
  ·exact span_ScanQ_ok m) (f := 18) (c := store_Undo_c) Tryd.func18 rfl (by kernel_rfl) _ rfl Tryd.ntmps18 (Nat.le_of_ble_eq_true rfl) store_Undo_h h
 ·cases h
noncomputable def trunk_Same_c : Code := (Tryd.f56.body).getD .skip
def trunk_Same_h : Hint := (.two .n (.two .n (.two .n .n)))
noncomputable def trunk_Same_env (m : Nat) : Env := [(75, .tell (trunk_Unlike_t m))]
noncomputable abbrev trunk_Same_fin : KO (AV × List AObj) := tellFK Tryd.prog [.tmp 4]
noncomputable def trunk_Same (m : Nat) (t0 t1 : AV) : RO := exec Tryd.prog GG (trunk_Same_env m) m ⟨20,[]⟩ trunk_Same_c trunk_Same_h ⟨[],argsT 0 [t0,t1]⟩ (trunk_Same_fin)
theorem trunk_Same_eq (m : Nat) (t0 t1 : AV) : trunk_Same m t0 t1 =
 boxE ty_api_Trunk [] t0 fun t2 H1 =>
 boxE ty_api_Trunk H1 t1 fun t3 H2 =>
 loadE 34 H2 t2 fun t8 =>
 loadE 34 H2 t3 fun t9 =>
 tellE (trunk_Unlike_t m [(ro H2 t8),(ro H2 t9)]) [(ro H2 t8),(ro H2 t9)] fun t10 =>
 extE t10 0 fun t11 =>
 extE t10 1 fun t12 =>
 binE none false false .eql t12 (V (.int .i64 0)) fun t14 =>
 condE t14 (
  lenE false true H2 t11 fun t17 =>
  binE none false false .eql t17 (V (.int .i64 0)) fun t18 =>
  tellK H2 (ro H2 t18)) (
  tellK H2 (ro H2 (V (.bool false)))) := by
 refine (tellX _ _ _ _ _ _ _ _ _).trans ?_
 kernel_rfl
noncomputable def trunk_Same_t (m : Nat) : List AV → RO|[t0,t1]=>trunk_Same m t0 t1|_=>none
theorem trunk_Same_ok (m : Nat) : ∀ args X H',trunk_Same_t m args = some (X,H') → ACp Tryd.prog GG 56 args X := by
 intro args X H' h
 unfold trunk_Same_t at h
 split at h
 ·exact tell_okK MIX (by
  intro f e h
  simp only [trunk_Same_env,Prod.mk.injEq,List.mem_cons,List.not_mem_nil,or_false] at h
  obtain ⟨rfl,rfl⟩ := h
  ·exact trunk_Unlike_ok m) (f := 56) (c := trunk_Same_c) Tryd.func56 rfl (by kernel_rfl) _ rfl Tryd.ntmps56 (Nat.le_of_ble_eq_true rfl) trunk_Same_h h
 ·cases h
noncomputable def store_Same_c : Code := (Tryd.f29.body).getD .skip
def store_Same_h : Hint := (.two .n (.two .n .n))
noncomputable def store_Same_env (m : Nat) : Env := [(17, .tell (store_May_t m)),(56, .tell (trunk_Same_t m))]
noncomputable abbrev store_Same_fin : KO (AV × List AObj) := tellFK Tryd.prog [.tmp 4]
noncomputable def store_Same (m : Nat) (t0 t1 : AV) : RO := exec Tryd.prog GG (store_Same_env m) m ⟨39,[]⟩ store_Same_c store_Same_h ⟨[],argsT 0 [t0,t1]⟩ (store_Same_fin)
theorem store_Same_eq (m : Nat) (t0 t1 : AV) : store_Same m t0 t1 =
 boxE ty_api_Store [] t0 fun t2 H1 =>
 boxE ty_api_Store H1 t1 fun t3 H2 =>
 loadE 37 H2 t2 fun t5 =>
 tellE (store_May m (ro H2 t5)) [(ro H2 t5)] fun t6 =>
 condE t6 (
  loadE 37 H2 t3 fun t8 =>
  tellE (store_May m (ro H2 t8)) [(ro H2 t8)] fun t9 =>
  condE t9 (
  fieldE (some (32,1)) t2 fun t12 =>
  loadE 1 H2 t12 fun t13 =>
  fieldE (some (32,1)) t3 fun t14 =>
  loadE 1 H2 t14 fun t15 =>
  binE none false false .eql t13 t15 fun t16 =>
  condE t16 (
  fieldE (some (33,1)) t2 fun t19 =>
  loadE 1 H2 t19 fun t20 =>
  fieldE (some (33,1)) t3 fun t21 =>
  loadE 1 H2 t21 fun t22 =>
  binE none false false .eql t20 t22 fun t23 =>
  condE t23 (
  fieldE (some (34,1)) t2 fun t26 =>
  loadE 1 H2 t26 fun t27 =>
  fieldE (some (34,1)) t3 fun t28 =>
  loadE 1 H2 t28 fun t29 =>
  binE none false false .eql t27 t29 fun t30 =>
  condE t30 (
  fieldE (some (0,34)) t2 fun t33 =>
  loadE 34 H2 t33 fun t34 =>
  fieldE (some (0,34)) t3 fun t35 =>
  loadE 34 H2 t35 fun t36 =>
  tellE (trunk_Same m (ro H2 t34) (ro H2 t36)) [(ro H2 t34),(ro H2 t36)] fun t37 =>
  tellK H2 (ro H2 t37)) (
  tellK H2 (ro H2 (V (.bool false))))) (
  tellK H2 (ro H2 (V (.bool false))))) (
  tellK H2 (ro H2 (V (.bool false))))) (
  tellK H2 (ro H2 (V (.bool false))))) (
  tellK H2 (ro H2 (V (.bool false)))) := by
 refine (tellX _ _ _ _ _ _ _ _ _).trans ?_
 kernel_rfl
noncomputable def store_Same_t (m : Nat) : List AV → RO|[t0,t1]=>store_Same m t0 t1|_=>none
theorem store_Same_ok (m : Nat) : ∀ args X H',store_Same_t m args = some (X,H') → ACp Tryd.prog GG 29 args X := by
 intro args X H' h
 unfold store_Same_t at h
 split at h
 ·exact tell_okK MIX (by
  intro f e h
  simp only [store_Same_env,Prod.mk.injEq,List.mem_cons,List.not_mem_nil,or_false] at h
  rcases h with ⟨rfl,rfl⟩|⟨rfl,rfl⟩
  ·exact store_May_ok m
  ·exact trunk_Same_ok m) (f := 29) (c := store_Same_c) Tryd.func29 rfl (by kernel_rfl) _ rfl Tryd.ntmps29 (Nat.le_of_ble_eq_true rfl) store_Same_h h
 ·cases h
end Go.Proofs.YtoeajbhlkccekaaDoor

namespace Go.Proofs.YtoeajbhlkccekaaDoor
open Go.RowKit
noncomputable def plenumlaw13_Few_c : Code := (Tryd.f8.body).getD .skip
def plenumlaw13_Few_h : Hint := (.two .n (.two .n (.two .n .n)))
noncomputable def plenumlaw13_Few_env (m : Nat) : Env := [(33, .tell (plenumlaw10_Few_t m))]
noncomputable abbrev plenumlaw13_Few_fin : KO (AV × List AObj) := tellFK Tryd.prog [.cell 2 28]
noncomputable def plenumlaw13_Few (m : Nat) (t0 : AV) : RO := exec Tryd.prog GG (plenumlaw13_Few_env m) m ⟨8,[]⟩ plenumlaw13_Few_c plenumlaw13_Few_h ⟨[],argsT 0 [t0]⟩ (plenumlaw13_Few_fin)
theorem plenumlaw13_Few_eq (m : Nat) (t0 : AV) : plenumlaw13_Few m t0 =
 boxE ty_api_Store [] t0 fun t1 H1 =>
 allocE (some zc_api_Store) ty_api_Store H1 fun t2 H2 =>
 fieldE (some (0,34)) t1 fun t3 =>
 loadE 34 H2 t3 fun t4 =>
 tellE (plenumlaw10_Few_t m [(ro H2 t4)]) [(ro H2 t4)] fun t5 =>
 fieldE (some (0,34)) t1 fun t6 =>
 storeE 34 H2 t6 t5 fun H3 =>
 loadE 37 H3 t1 fun t7 =>
 storeE 37 H3 t2 t7 fun H4 =>
 loadE 37 H4 t2 fun t9000 =>
 tellK H4 (ro H4 t9000) := by
 refine (tellX _ _ _ _ _ _ _ _ _).trans ?_
 kernel_rfl
noncomputable def plenumlaw13_Few_t (m : Nat) : List AV → RO|[t0]=>plenumlaw13_Few m t0|_=>none
theorem plenumlaw13_Few_ok (m : Nat) : ∀ args X H',plenumlaw13_Few_t m args = some (X,H') → ACp Tryd.prog GG 8 args X := by
 intro args X H' h
 unfold plenumlaw13_Few_t at h
 split at h
 ·exact tell_okK MIX (by
  intro f e h
  simp only [plenumlaw13_Few_env,Prod.mk.injEq,List.mem_cons,List.not_mem_nil,or_false] at h
  obtain ⟨rfl,rfl⟩ := h
  ·exact plenumlaw10_Few_ok m) (f := 8) (c := plenumlaw13_Few_c) Tryd.func8 rfl (by kernel_rfl) _ rfl Tryd.ntmps8 (Nat.le_of_ble_eq_true rfl) plenumlaw13_Few_h h
 ·cases h
noncomputable def plenumref13_in_c : Code := (Tryd.f51.body).getD .skip
def plenumref13_in_h : Hint := (.two .n (.two .n .n))
noncomputable def plenumref13_in_env (m : Nat) : Env := []
noncomputable abbrev plenumref13_in_fin : KO (AV × List AObj) := tellFK Tryd.prog [.tmp 4]
noncomputable def plenumref13_in (m : Nat) (t0 t1 : AV) : RO := exec Tryd.prog GG (plenumref13_in_env m) m ⟨12,[]⟩ plenumref13_in_c plenumref13_in_h ⟨[],argsT 0 [t0,t1]⟩ (plenumref13_in_fin)
theorem plenumref13_in_eq (m : Nat) (t0 t1 : AV) : plenumref13_in m t0 t1 =
 binE none false false .leq (V (.int .i64 0)) t0 fun t6 =>
 condE t6 (
  binE none false false .leq t0 t1 fun t10 =>
  tellK [] (ro [] t10)) (
  tellK [] (ro [] (V (.bool false)))) := by
 refine (tellX _ _ _ _ _ _ _ _ _).trans ?_
 kernel_rfl
noncomputable def plenumref13_in_t (m : Nat) : List AV → RO|[t0,t1]=>plenumref13_in m t0 t1|_=>none
theorem plenumref13_in_ok (m : Nat) : ∀ args X H',plenumref13_in_t m args = some (X,H') → ACp Tryd.prog GG 51 args X := by
 intro args X H' h
 unfold plenumref13_in_t at h
 split at h
 ·exact tell_okK MIX (by intro f e h;cases h) (f := 51) (c := plenumref13_in_c) Tryd.func51 rfl (by kernel_rfl) _ rfl Tryd.ntmps51 (Nat.le_of_ble_eq_true rfl) plenumref13_in_h h
 ·cases h
noncomputable def plenumref13_Weight_c : Code := (Tryd.f30.body).getD .skip
def plenumref13_Weight_h : Hint := (.two .n (.two .n (.two .n (.join [3] (.two .n (.one (.lp [] [3,4,5] [3] (.two (.two .n (.two .n .n)) (.two (.one .n) .n))))) (.two .n .n)))))
noncomputable def plenumref13_Weight_env (m : Nat) : Env := [(31, .tell (plenumref10_All_t m)),(57, .tell (plenumref07_Encode_t m))]
noncomputable abbrev plenumref13_Weight_fin : KO (AV × List AObj) := tellFK Tryd.prog [.tmp 2]
noncomputable def plenumref13_Weight_r1 (m : Nat) (s : ASt) : RO := joinW Tryd.prog GG (plenumref13_Weight_env m) m ⟨31,[]⟩ (cdR (cdR (cdR (cdR plenumref13_Weight_c)))) plenumref13_Weight_h.r.r.r.r s (plenumref13_Weight_fin)
noncomputable def plenumref13_Weight_b1 (m : Nat) (s : ASt) (kc : ASt → RO) (kx : KO (AV × List AObj)) : RO := bodyW Tryd.prog GG (plenumref13_Weight_env m) m ⟨31,[]⟩ (cdL (cdL (cdR (cdL (cdR (cdR (cdR plenumref13_Weight_c))))))) plenumref13_Weight_h.r.r.r.l.r.c.c [3,4,5] [3] s kc kx
noncomputable def plenumref13_Weight (m : Nat) (t0 : AV) : RO := exec Tryd.prog GG (plenumref13_Weight_env m) m ⟨31,[]⟩ plenumref13_Weight_c plenumref13_Weight_h ⟨[],argsT 0 [t0]⟩ (plenumref13_Weight_fin)
theorem plenumref13_Weight_r1_eq (m : Nat) (H : List AObj) (t3 : AV) : plenumref13_Weight_r1 m ⟨H,[(3,t3)]⟩ =
 tellK H (ro H t3) := by
 refine (joinW_eq _ _ _ _ _ _ _ _ _).trans ?_
 kernel_rfl
theorem plenumref13_Weight_b1_eq (m : Nat) (H : List AObj) (t3 t4 t5 : AV) (kc : ASt → RO) (kx : KO (AV × List AObj)) : plenumref13_Weight_b1 m ⟨H,[(3,t3),(4,t4),(5,t5)]⟩ kc kx =
 lenE false true H t4 fun t10 =>
 binE none false false .lss t5 t10 fun t11 =>
 condE t11 (
  idxSE 7 H t4 t5 fun t17 =>
  fieldE (some (0,1)) t17 fun t18 =>
  loadE 1 H t18 fun t19 =>
  lenE true false H t19 fun t20 =>
  idxSE 7 H t4 t5 fun t23 =>
  fieldE (some (1,5)) t23 fun t24 =>
  loadE 5 H t24 fun t25 =>
  tellE (plenumref07_Encode_t m [(ro H t25)]) [(ro H t25)] fun t26 =>
  lenE true false H t26 fun t27 =>
  binE none false false .add t20 t27 fun t28 =>
  binE none false false .add t3 t28 fun t29 =>
  binE none false false .add t5 (V (.int .i64 1)) fun t13 =>
  backE H.length H [(3,t29),(4,t4),(5,t13)] kc) (
  kx (.exit 0) ⟨H,[(3,t3)]⟩) := by
 refine (bodyW_eq _ _ _ _ _ _ _ _ _ _ _ _).trans ?_
 kernel_rfl
theorem plenumref13_Weight_eq (m : Nat) (t0 : AV) : plenumref13_Weight m t0 =
 boxE ty_api_Trunk [] t0 fun t1 H1 =>
 loadE 34 H1 t1 fun t6 =>
 tellE (plenumref10_All m (ro H1 t6)) [(ro H1 t6)] fun t7 =>
 iterC m (plenumref13_Weight_b1 m) ⟨H1,[(3,(V (.int .i64 0))),(4,t7),(5,(V (.int .i64 0)))]⟩ (blockX 0 (seqX (fun s=>plenumref13_Weight_r1 m ⟨s.H,[(3,gt s.T 3)]⟩) (plenumref13_Weight_fin))) := by
 refine (tellX _ _ _ _ _ _ _ _ _).trans ?_
 kernel_rfl
noncomputable def plenumref13_Weight_t (m : Nat) : List AV → RO|[t0]=>plenumref13_Weight m t0|_=>none
theorem plenumref13_Weight_ok (m : Nat) : ∀ args X H',plenumref13_Weight_t m args = some (X,H') → ACp Tryd.prog GG 30 args X := by
 intro args X H' h
 unfold plenumref13_Weight_t at h
 split at h
 ·exact tell_okK MIX (by
  intro f e h
  simp only [plenumref13_Weight_env,Prod.mk.injEq,List.mem_cons,List.not_mem_nil,or_false] at h
  rcases h with ⟨rfl,rfl⟩|⟨rfl,rfl⟩
  ·exact plenumref10_All_ok m
  ·exact plenumref07_Encode_ok m) (f := 30) (c := plenumref13_Weight_c) Tryd.func30 rfl (by kernel_rfl) _ rfl Tryd.ntmps30 (Nat.le_of_ble_eq_true rfl) plenumref13_Weight_h h
 ·cases h
noncomputable def plenumref13_May_c : Code := (Tryd.f20.body).getD .skip
def plenumref13_May_h : Hint := (.two .n (.join [1] (.join [1,25] .n (.two (.two .n .n) .n)) (.join [1] (.two .n (.one (.lp [] [1,3] [1,2] (.two (.two .n (.two .n .n)) (.two (.one (.two .n (.two (.two .n .n) .n))) .n))))) (.two .n .n))))
noncomputable def plenumref13_May_env (m : Nat) : Env := [(50, .tell (plenumref10_May_t m)),(51, .tell (plenumref13_in_t m)),(30, .tell (plenumref13_Weight_t m)),(31, .tell (plenumref10_All_t m))]
noncomputable abbrev plenumref13_May_fin : KO (AV × List AObj) := tellFK Tryd.prog [.tmp 2]
noncomputable def plenumref13_May_r3 (m : Nat) (s : ASt) : RO := joinW Tryd.prog GG (plenumref13_May_env m) m ⟨53,[]⟩ (cdR (cdR (cdR plenumref13_May_c))) plenumref13_May_h.r.r.r s (plenumref13_May_fin)
noncomputable def plenumref13_May_b1 (m : Nat) (s : ASt) (kc : ASt → RO) (kx : KO (AV × List AObj)) : RO := bodyW Tryd.prog GG (plenumref13_May_env m) m ⟨53,[]⟩ (cdL (cdL (cdR (cdL (cdR (cdR plenumref13_May_c)))))) plenumref13_May_h.r.r.l.r.c.c [1,3] [1,2] s kc kx
noncomputable def plenumref13_May_r2 (m : Nat) (s : ASt) : RO := joinW Tryd.prog GG (plenumref13_May_env m) m ⟨53,[]⟩ (cdR (cdR plenumref13_May_c)) plenumref13_May_h.r.r s (plenumref13_May_fin)
noncomputable def plenumref13_May_r1 (m : Nat) (s : ASt) : RO := joinW Tryd.prog GG (plenumref13_May_env m) m ⟨53,[]⟩ (cdR (cdL (cdR plenumref13_May_c))) plenumref13_May_h.r.l.r s (seqX (fun s=>plenumref13_May_r2 m ⟨s.H,[(1,gt s.T 1)]⟩) (plenumref13_May_fin))
noncomputable def plenumref13_May (m : Nat) (t0 : AV) : RO := exec Tryd.prog GG (plenumref13_May_env m) m ⟨53,[]⟩ plenumref13_May_c plenumref13_May_h ⟨[],argsT 0 [t0]⟩ (plenumref13_May_fin)
theorem plenumref13_May_r3_eq (m : Nat) (H : List AObj) (t1 : AV) : plenumref13_May_r3 m ⟨H,[(1,t1)]⟩ =
 fieldE (some (0,34)) t1 fun t38 =>
 loadE 34 H t38 fun t39 =>
 tellE (plenumref13_Weight m (ro H t39)) [(ro H t39)] fun t40 =>
 fieldE (some (33,1)) t1 fun t41 =>
 loadE 1 H t41 fun t42 =>
 binE none false false .leq t40 t42 fun t43 =>
 condE t43 (
  fieldE (some (0,34)) t1 fun t45 =>
  loadE 34 H t45 fun t46 =>
  tellE (plenumref10_All m (ro H t46)) [(ro H t46)] fun t47 =>
  lenE false true H t47 fun t48 =>
  fieldE (some (34,1)) t1 fun t49 =>
  loadE 1 H t49 fun t50 =>
  binE none false false .leq t48 t50 fun t51 =>
  tellK H (ro H t51)) (
  tellK H (ro H (V (.bool false)))) := by
 refine (joinW_eq _ _ _ _ _ _ _ _ _).trans ?_
 kernel_rfl
theorem plenumref13_May_b1_eq (m : Nat) (H : List AObj) (t1 t3 : AV) (kc : ASt → RO) (kx : KO (AV × List AObj)) : plenumref13_May_b1 m ⟨H,[(1,t1),(3,t3)]⟩ kc kx =
 binE none false false .lss t3 (V (.int .i64 16)) fun t27 =>
 condE t27 (
  fieldE (some (0,34)) t1 fun t31 =>
  fieldE (some (16,18)) t31 fun t32 =>
  idxPE 16 1 t32 t3 fun t33 =>
  loadE 1 H t33 fun t34 =>
  fieldE (some (32,1)) t1 fun t35 =>
  loadE 1 H t35 fun t36 =>
  binE none false false .gtr t34 t36 fun t37 =>
  condE t37 (
   kx .ret ⟨H,[(1,t1),(2,(V (.bool false)))]⟩) (
   binE none false false .add t3 (V (.int .i64 1)) fun t29 =>
   backE H.length H [(1,t1),(3,t29)] kc)) (
  kx (.exit 0) ⟨H,[(1,t1),(2, .nil)]⟩) := by
 refine (bodyW_eq _ _ _ _ _ _ _ _ _ _ _ _).trans ?_
 kernel_rfl
theorem plenumref13_May_r2_eq (m : Nat) (H : List AObj) (t1 : AV) : plenumref13_May_r2 m ⟨H,[(1,t1)]⟩ =
 iterC m (plenumref13_May_b1 m) ⟨H,[(1,t1),(3,(V (.int .i64 0)))]⟩ (blockX 0 (seqX (fun s=>plenumref13_May_r3 m ⟨s.H,[(1,gt s.T 1)]⟩) (plenumref13_May_fin))) := by
 refine (joinW_eq _ _ _ _ _ _ _ _ _).trans ?_
 kernel_rfl
theorem plenumref13_May_r1_eq (m : Nat) (H : List AObj) (t1 t25 : AV) : plenumref13_May_r1 m ⟨H,[(1,t1),(25,t25)]⟩ =
 condE t25 (
  tellK H (ro H (V (.bool false)))) (
  plenumref13_May_r2 m ⟨H,[(1,t1)]⟩) := by
 refine (joinW_eq _ _ _ _ _ _ _ _ _).trans ?_
 kernel_rfl
theorem plenumref13_May_eq (m : Nat) (t0 : AV) : plenumref13_May m t0 =
 boxE ty_api_Store [] t0 fun t1 H1 =>
 fieldE (some (0,34)) t1 fun t4 =>
 loadE 34 H1 t4 fun t5 =>
 tellE (plenumref10_May m (ro H1 t5)) [(ro H1 t5)] fun t6 =>
 unE .not t6 fun t7 =>
 condE t7 (
  plenumref13_May_r1 m ⟨H1,[(1,t1),(25,(V (.bool true)))]⟩) (
  fieldE (some (32,1)) t1 fun t9 =>
  loadE 1 H1 t9 fun t10 =>
  tellE (plenumref13_in m (ro H1 t10) (V (.int .i64 2147483647))) [(ro H1 t10),(V (.int .i64 2147483647))] fun t11 =>
  unE .not t11 fun t12 =>
  condE t12 (
  plenumref13_May_r1 m ⟨H1,[(1,t1),(25,(V (.bool true)))]⟩) (
  fieldE (some (33,1)) t1 fun t15 =>
  loadE 1 H1 t15 fun t16 =>
  tellE (plenumref13_in m (ro H1 t16) (V (.int .i64 65536))) [(ro H1 t16),(V (.int .i64 65536))] fun t17 =>
  unE .not t17 fun t18 =>
  condE t18 (
  plenumref13_May_r1 m ⟨H1,[(1,t1),(25,(V (.bool true)))]⟩) (
  fieldE (some (34,1)) t1 fun t21 =>
  loadE 1 H1 t21 fun t22 =>
  tellE (plenumref13_in m (ro H1 t22) (V (.int .i64 1024))) [(ro H1 t22),(V (.int .i64 1024))] fun t23 =>
  unE .not t23 fun t24 =>
  plenumref13_May_r1 m ⟨H1,[(1,t1),(25,t24)]⟩))) := by
 refine (tellX _ _ _ _ _ _ _ _ _).trans ?_
 kernel_rfl
noncomputable def plenumref13_May_t (m : Nat) : List AV → RO|[t0]=>plenumref13_May m t0|_=>none
theorem plenumref13_May_ok (m : Nat) : ∀ args X H',plenumref13_May_t m args = some (X,H') → ACp Tryd.prog GG 20 args X := by
 intro args X H' h
 unfold plenumref13_May_t at h
 split at h
 ·exact tell_okK MIX (by
  intro f e h
  simp only [plenumref13_May_env,Prod.mk.injEq,List.mem_cons,List.not_mem_nil,or_false] at h
  rcases h with ⟨rfl,rfl⟩|⟨rfl,rfl⟩|⟨rfl,rfl⟩|⟨rfl,rfl⟩
  ·exact plenumref10_May_ok m
  ·exact plenumref13_in_ok m
  ·exact plenumref13_Weight_ok m
  ·exact plenumref10_All_ok m) (f := 20) (c := plenumref13_May_c) Tryd.func20 rfl (by kernel_rfl) _ rfl Tryd.ntmps20 (Nat.le_of_ble_eq_true rfl) plenumref13_May_h h
 ·cases h
noncomputable def plenumref13_Same_c : Code := (Tryd.f12.body).getD .skip
def plenumref13_Same_h : Hint := (.two .n (.two .n .n))
noncomputable def plenumref13_Same_env (m : Nat) : Env := [(44, .tell (plenumref10_Same_t m))]
noncomputable abbrev plenumref13_Same_fin : KO (AV × List AObj) := tellFK Tryd.prog [.tmp 4]
noncomputable def plenumref13_Same (m : Nat) (t0 t1 : AV) : RO := exec Tryd.prog GG (plenumref13_Same_env m) m ⟨31,[]⟩ plenumref13_Same_c plenumref13_Same_h ⟨[],argsT 0 [t0,t1]⟩ (plenumref13_Same_fin)
theorem plenumref13_Same_eq (m : Nat) (t0 t1 : AV) : plenumref13_Same m t0 t1 =
 boxE ty_api_Store [] t0 fun t2 H1 =>
 boxE ty_api_Store H1 t1 fun t3 H2 =>
 fieldE (some (32,1)) t2 fun t5 =>
 loadE 1 H2 t5 fun t6 =>
 fieldE (some (32,1)) t3 fun t7 =>
 loadE 1 H2 t7 fun t8 =>
 binE none false false .eql t6 t8 fun t9 =>
 condE t9 (
  fieldE (some (33,1)) t2 fun t11 =>
  loadE 1 H2 t11 fun t12 =>
  fieldE (some (33,1)) t3 fun t13 =>
  loadE 1 H2 t13 fun t14 =>
  binE none false false .eql t12 t14 fun t15 =>
  condE t15 (
  fieldE (some (34,1)) t2 fun t18 =>
  loadE 1 H2 t18 fun t19 =>
  fieldE (some (34,1)) t3 fun t20 =>
  loadE 1 H2 t20 fun t21 =>
  binE none false false .eql t19 t21 fun t22 =>
  condE t22 (
  fieldE (some (0,34)) t2 fun t25 =>
  loadE 34 H2 t25 fun t26 =>
  fieldE (some (0,34)) t3 fun t27 =>
  loadE 34 H2 t27 fun t28 =>
  tellE (plenumref10_Same m (ro H2 t26) (ro H2 t28)) [(ro H2 t26),(ro H2 t28)] fun t29 =>
  tellK H2 (ro H2 t29)) (
  tellK H2 (ro H2 (V (.bool false))))) (
  tellK H2 (ro H2 (V (.bool false))))) (
  tellK H2 (ro H2 (V (.bool false)))) := by
 refine (tellX _ _ _ _ _ _ _ _ _).trans ?_
 kernel_rfl
noncomputable def plenumref13_Same_t (m : Nat) : List AV → RO|[t0,t1]=>plenumref13_Same m t0 t1|_=>none
theorem plenumref13_Same_ok (m : Nat) : ∀ args X H',plenumref13_Same_t m args = some (X,H') → ACp Tryd.prog GG 12 args X := by
 intro args X H' h
 unfold plenumref13_Same_t at h
 split at h
 ·exact tell_okK MIX (by
  intro f e h
  simp only [plenumref13_Same_env,Prod.mk.injEq,List.mem_cons,List.not_mem_nil,or_false] at h
  obtain ⟨rfl,rfl⟩ := h
  ·exact plenumref10_Same_ok m) (f := 12) (c := plenumref13_Same_c) Tryd.func12 rfl (by kernel_rfl) _ rfl Tryd.ntmps12 (Nat.le_of_ble_eq_true rfl) plenumref13_Same_h h
 ·cases h
end Go.Proofs.YtoeajbhlkccekaaDoor

namespace Go.Proofs.YtoeajbhlkccekaaDoor
open Go.RowKit
end Go.Proofs.YtoeajbhlkccekaaDoor

namespace Go.Proofs.YtoeajbhlkccekaaDoor
open Go.RowKit
attribute [local go_sem] tC_len tC_sure tC_ltA tC_lt1 tC_ro tC_take tC_all1 zcT_eq zcI_len zC_len zC_ltA zC_lt1 zC_sure zC_ro zC_take set_tl set_tv sc_tt sc_zt sc_tz sc_zz add16 tA_def lA_def natInt u_tl u_tv
structure St where
 t : Tr
 ver : Int
 bytes : Int
 keys : Int
def St.tail (s : St) : List AV := [nA s.ver,nA s.bytes,nA s.keys]
def stC (s : St) : List AV := tC s.t ++ s.tail
def stA (s : St) : AV := .agg (stC s)
theorem stA_def (s : St) : stA s = .agg (stC s) := _root_.id rfl
theorem stC_len (s : St) : (stC s).length = 35 := by unfold stC;rw [List.length_append,tC_len];rfl
theorem stC_all (s : St) (f : AV → Bool) (h : (tC s.t).all f = true) (h2 : ∀ i : Int,f (nA i) = true) : (stC s).all f = true := by
 unfold stC St.tail
 rw [List.all_append,h]
 simp [h2]
section
variable {R : Type} {s : St} {i n : Nat} {K1 : AV → Option R} {H : List AObj}
theorem st_ltA : (stC s).all (ltA n) = true := stC_all s _ tC_ltA fun _=>rfl
theorem st_sure : (stC s).all sure = true := stC_all s _ tC_sure fun _=>rfl
theorem st_lt1 : (stC s).all (lt1 n) = true := stC_all s _ tC_lt1 fun _=>rfl
theorem st_ro : (stC s).map (ro1 H) = stC s := by unfold stC;rw [List.map_append,tC_ro];rfl
theorem st_tv (h : 16 ≤ i) (h2 : i < 32) : nthE (stC s) i K1 = K1 (nA (s.t.ver (i - 16))) := by
 rw [← u_tv (t := s.t) (K1 := K1) h h2]
 unfold nthE stC
 rw [List.getElem?_append_left (by rw [tC_len];exact h2)]
theorem u_vv {t : Tr} (h : i < 16) : nthE (veC t) i K1 = K1 (nA (t.ver i)) := by
 unfold nthE veC
 simp [List.getElem?_map,List.getElem?_range h]
theorem ve_lt1 {t : Tr} : (veC t).all (lt1 n) = true := List.all_eq_true.2 fun d hd=>by
 unfold veC at hd
 obtain ⟨j,_,rfl⟩ := List.mem_map.1 hd
 rfl
theorem st_vers : ((stC s).drop 16).take 16 = veC s.t := by
 unfold stC tC
 rw [List.append_assoc,List.drop_left' leC_len,List.take_left' veC_len]
theorem st_all1 : ((stC s).all fun x=>lt1 n (ro1 H x)) = true := stC_all s _ tC_all1 fun _=>rfl
theorem st_take35 : (stC s).take 35 = stC s := List.take_of_length_le (by rw [stC_len];exact Nat.le_refl _)
theorem st_set {u : Tr} : setCells (stC s) 0 (tC u) = stC { s with t := u } := by
 rw [setCells_at _ _ _ (by rw [stC_len,tC_len];omega),tC_len]
 unfold stC
 rw [List.drop_left' (by rw [tC_len])]
 rfl
theorem z_set : setCells zc_api_Store 0 (stC s) = stC s := by
 rw [setCells_at _ _ _ (by rw [stC_len];exact Nat.le_refl _),stC_len]
 simp [zc_api_Store]
theorem zcS_len : zc_api_Store.length = 35 := _root_.id rfl
theorem st_take : (stC s).take 32 = tC s.t := List.take_left' tC_len
theorem st_ver : nthE (stC s) 32 K1 = K1 (nA s.ver) := by unfold nthE stC;rw [List.getElem?_append_right (by rw [tC_len];omega),tC_len];rfl
theorem st_bytes : nthE (stC s) 33 K1 = K1 (nA s.bytes) := by unfold nthE stC;rw [List.getElem?_append_right (by rw [tC_len];omega),tC_len];rfl
theorem st_keys : nthE (stC s) 34 K1 = K1 (nA s.keys) := by unfold nthE stC;rw [List.getElem?_append_right (by rw [tC_len];omega),tC_len];rfl
end
def inB (v most : Int) : Bool := decide (0 ≤ v) && decide (v ≤ most)
theorem within_s (m : Nat) (v most : Int) : store_within m (nA v) (nA most) = some (bA (inB v most),[]) := by
 rw [store_within_eq]
 unfold inB
 simp (config := {maxSteps := 4000000,implicitDefEqProofs := false}) only [go_sem,]
 by_cases h : 0 ≤ v
 ·simp (config := {maxSteps := 4000000,implicitDefEqProofs := false}) only [go_sem,h]
 ·simp (config := {maxSteps := 4000000,implicitDefEqProofs := false}) only [go_sem,h]
def versB (s : St) : Bool := (List.range 16).all fun i=>decide (s.t.ver i ≤ s.ver)
theorem vers_no {s : St} {k : Nat} (hk : k < 16) (h : ¬ s.t.ver k ≤ s.ver) : versB s = false := List.all_eq_false.2 ⟨k,List.mem_range.2 hk,by simp [h]⟩
def mayS (s : St) : Bool := mayT s.t && inB s.ver 2147483647 && inB s.bytes 65536 && inB s.keys 1024 && versB s && decide ((weightT s.t : Int) ≤ s.bytes) && decide ((countT s.t : Int) ≤ s.keys)
theorem smay_s (m : Nat) (s : St) (hm : 1000000 < m) (h : s.t.Ok) : store_May m (stA s) = some (bA (mayS s),[]) := by
 rw [store_May_eq,stA_def]
 have hM := trunk_May_e m s.t h
 have hW := trunk_Weight_e m s.t h
 have hC := trunk_Count_e m s.t h
 rw [tA_def] at hM hW hC
 simp (config := {maxSteps := 4000000,implicitDefEqProofs := false}) (disch := omega) only [go_sem,st_take,st_ver,st_bytes,st_keys,st_ltA,st_sure,stC_len,within_s,hM,store_May_r3_eq,store_May_r2_eq,store_May_r1_eq]
 unfold mayS
 cases h1 : mayT s.t with
 |false=>simp (config := {maxSteps := 4000000,implicitDefEqProofs := false}) only [go_sem,]
 |true =>
 cases h2 : inB s.ver 2147483647 with
 |false=>simp (config := {maxSteps := 4000000,implicitDefEqProofs := false}) only [go_sem,]
 |true =>
 cases h3 : inB s.bytes 65536 with
 |false=>simp (config := {maxSteps := 4000000,implicitDefEqProofs := false}) only [go_sem,]
 |true =>
 cases h4 : inB s.keys 1024 with
 |false=>simp (config := {maxSteps := 4000000,implicitDefEqProofs := false}) only [go_sem,]
 |true =>
 simp (config := {maxSteps := 4000000,implicitDefEqProofs := false}) (disch := omega) only [go_sem,st_take,st_ver,st_bytes,st_keys,st_ltA,st_sure,st_vers,stC_len,within_s,store_May_r1_eq]
 refine iter_ind (ι := {k : Nat // k ≤ 16 ∧ (List.range k).all (fun i=>decide (s.t.ver i ≤ s.ver)) = true}) (fun k=>⟨[⟨1,ty_api_Store,0,stC s⟩],[(1,OP 0 0),(29, .agg (veC s.t)),(30,nA k.1)]⟩) (fun k=>16 - k.1) (fun _=>some (bA (versB s && decide ((weightT s.t : Int) ≤ s.bytes) && decide ((countT s.t : Int) ≤ s.keys)),[])) ?_ ⟨0,Nat.zero_le _,rfl⟩ (by dsimp only;omega)
 rintro ⟨k,hk,hall⟩ kc hkc
 dsimp only at hkc ⊢
 rw [store_May_b1_eq]
 by_cases hlt : k < 16
 ·have hlt' : (k : Int) < 16 := by omega
  by_cases hv : s.t.ver k ≤ s.ver
  ·have step := hkc ⟨k + 1,by omega,by rw [List.range_succ,List.all_append,hall];simp [hv]⟩ (by dsimp only;omega)
   have hv' : ¬ s.ver < s.t.ver k := by omega
   simp (config := {maxSteps := 4000000,implicitDefEqProofs := false}) (disch := omega) only [go_sem,hlt',u_vv,ve_lt1,st_ver,st_ltA,stC_len,hv',w_i64]
   exact step
  ·have hv' : s.ver < s.t.ver k := by omega
   simp (config := {maxSteps := 4000000,implicitDefEqProofs := false}) (disch := omega) only [go_sem,hlt',u_vv,ve_lt1,st_ver,st_ltA,stC_len,hv',w_i64]
   rw [vers_no hlt hv]
   rfl
 ·have hlt' : ¬ (k : Int) < 16 := by omega
  have : k = 16 := by omega
  subst this
  have hv : versB s = true := hall
  simp (config := {maxSteps := 4000000,implicitDefEqProofs := false}) (disch := omega) only [go_sem,hlt',hv,st_take,st_ver,st_bytes,st_keys,st_ltA,st_sure,stC_len,hW,hC,store_May_r2_eq]
  by_cases hw : (weightT s.t : Int) ≤ s.bytes
  ·simp (config := {maxSteps := 4000000,implicitDefEqProofs := false}) only [go_sem,hw]
  ·simp (config := {maxSteps := 4000000,implicitDefEqProofs := false}) only [go_sem,hw]
theorem rin_s (m : Nat) (v most : Int) : plenumref13_in m (nA v) (nA most) = some (bA (inB v most),[]) := by
 rw [plenumref13_in_eq]
 unfold inB
 by_cases h : 0 ≤ v
 ·simp (config := {maxSteps := 4000000,implicitDefEqProofs := false}) only [go_sem,h]
 ·simp (config := {maxSteps := 4000000,implicitDefEqProofs := false}) only [go_sem,h]
theorem weight_app (a b : List Item) : weight (a ++ b) = weight a + weight b := by simp [weight]
theorem weight_all {t : Tr} (h : mayT t = true) : ∀ n,n ≤ 16 → sumTo (fun i=>weightP (t.leaf i)) n = weight (allTo t n)
 |0,_=>rfl
 |n + 1,hn=>by
  rw [allTo_succ,weight_app,← weight_all h n (by omega)]
  show sumTo _ n + weightP (t.leaf n) = _
  rw [weightP,fits_leaf h (by omega : n < 16)]
  rfl
theorem allTo_mem {t : Tr} {n : Nat} {x : Item} (h : x ∈ allTo t n) : ∃ i,i < n ∧ x ∈ t.leaf i := by
 simp only [allTo,List.mem_flatMap,List.mem_range] at h
 exact h
theorem rweight_s (m : Nat) (t : Tr) (hm : 16000000 < m) (h : t.Ok) (hmay : mayT t = true) : plenumref13_Weight m (tA t) = some (nA (weight (allTo t 16)),[]) := by
 have hA := rall_s m t (by omega) h
 have hle := allTo_le t h 16
 have hval : ∀ x ∈ allTo t 16,NumOk x ∧ itemB x = true := by
  intro x hx
  obtain ⟨i,hi,hx⟩ := allTo_mem hx
  exact ⟨((h i).2.1 x hx).2,(fits_key hmay hi hx).1⟩
 have hwl : weight (allTo t 16) ≤ 16000000000 := by
  rw [← weight_all hmay 16 (Nat.le_refl _)]
  have : ∀ n,sumTo (fun i=>weightP (t.leaf i)) n ≤ n * 1000000000 := by
   intro n
   induction n with
   |zero=>exact Nat.le_refl _
   |succ n ih=>have := (h n).2.2;show sumTo _ n + weightP (t.leaf n) ≤ _;omega
  exact this 16
 rw [tA_def] at hA
 rw [plenumref13_Weight_eq,tA_def]
 generalize allTo t 16 = a at hA hle hval hwl ⊢
 simp (config := {maxSteps := 4000000,implicitDefEqProofs := false}) (disch := omega) only [go_sem,hA]
 refine iter_go (ι := {j : Nat // j ≤ a.length}) (fun j=>⟨[⟨1,ty_api_Trunk,0,tC t⟩],[(3,nA (weight (a.take j.1))),(4,SL (a.map (flA Item.cells))),(5,nA j.1)]⟩) (fun j=>a.length - j.1) (fun _=>some (nA (weight a),[])) ?_ ⟨0,Nat.zero_le _⟩ (by dsimp only;omega)
 rintro kx hkx ⟨j,hj⟩ kc hkc
 dsimp only at hkc ⊢
 rw [plenumref13_Weight_b1_eq]
 by_cases hlt : j < a.length
 ·have hlt' : (j : Int) < (a.length : Int) := by omega
  have step := hkc ⟨j + 1,by omega⟩ (by dsimp only;omega)
  obtain ⟨hn,hi⟩ := hval a[j] (List.getElem_mem hlt)
  have hv : valB a[j].kind a[j].i a[j].s = true := by
   unfold itemB at hi
   simp only [Bool.and_eq_true] at hi
   exact hi.1.1.1.2
  have hE := plenumref07_Encode_e m a[j].kind a[j].i a[j].s ⟨hn.1,hn.2,hv⟩
  have hw := weight_take a j hlt
  have hw2 : weight (a.take (j + 1)) ≤ weight a := by
   have := weight_app (a.take (j + 1)) (a.drop (j + 1))
   rw [List.take_append_drop] at this
   omega
  dsimp only at step
  have hs1 : (weight (a.take (j + 1)) : Int) = (weight (a.take j) : Int) + ((a[j].key.length : Int) + ((encV a[j].kind a[j].i a[j].s).length : Int)) := by omega
  rw [hs1] at step
  simp (config := {maxSteps := 4000000,implicitDefEqProofs := false}) (disch := omega) only [go_sem,hlt',u_nthM,fl_it,w_i64,hE,fl_allA]
  exact step
 ·have hlt' : ¬ (j : Int) < (a.length : Int) := by omega
  have : j = a.length := by omega
  subst this
  simp (config := {maxSteps := 4000000,implicitDefEqProofs := false}) (disch := omega) only [go_sem,hlt',hkx,fl_allA,List.take_length,plenumref13_Weight_r1_eq]
theorem rmayS_s (m : Nat) (s : St) (hm : 16000000 < m) (h : s.t.Ok) : plenumref13_May m (stA s) = some (bA (mayS s),[]) := by
 rw [plenumref13_May_eq,stA_def]
 have hM := rmay10_s m s.t (by omega) h
 rw [tA_def] at hM
 simp (config := {maxSteps := 4000000,implicitDefEqProofs := false}) (disch := omega) only [go_sem,st_take,st_ver,st_bytes,st_keys,st_ltA,st_sure,stC_len,rin_s,hM]
 unfold mayS
 cases h1 : mayT s.t with
 |false=>simp (config := {maxSteps := 4000000,implicitDefEqProofs := false}) only [go_sem,plenumref13_May_r1_eq]
 |true =>
 have hW := rweight_s m s.t hm h h1
 have hC := rall_s m s.t (by omega) h
 have e2 : countT s.t = (allTo s.t 16).length := by rw [allTo_len];simp [countT,h1]
 have e3 : weightT s.t = weight (allTo s.t 16) := by rw [← weight_all h1 16 (Nat.le_refl _)];simp [weightT,h1]
 rw [tA_def] at hW hC
 rw [← e3] at hW
 rw [e2]
 cases h2 : inB s.ver 2147483647 with
 |false=>simp (config := {maxSteps := 4000000,implicitDefEqProofs := false}) only [go_sem,plenumref13_May_r1_eq]
 |true =>
 cases h3 : inB s.bytes 65536 with
 |false=>simp (config := {maxSteps := 4000000,implicitDefEqProofs := false}) only [go_sem,plenumref13_May_r1_eq]
 |true =>
 cases h4 : inB s.keys 1024 with
 |false=>simp (config := {maxSteps := 4000000,implicitDefEqProofs := false}) only [go_sem,plenumref13_May_r1_eq]
 |true =>
 simp (config := {maxSteps := 4000000,implicitDefEqProofs := false}) (disch := omega) only [go_sem,st_take,st_ver,st_bytes,st_keys,st_ltA,st_sure,st_vers,stC_len,plenumref13_May_r1_eq,plenumref13_May_r2_eq]
 refine iter_ind (ι := {k : Nat // k ≤ 16 ∧ (List.range k).all (fun i=>decide (s.t.ver i ≤ s.ver)) = true}) (fun k=>⟨[⟨1,ty_api_Store,0,stC s⟩],[(1,OP 0 0),(3,nA k.1)]⟩) (fun k=>16 - k.1) (fun _=>some (bA (versB s && decide ((weightT s.t : Int) ≤ s.bytes) && decide (((allTo s.t 16).length : Int) ≤ s.keys)),[])) ?_ ⟨0,Nat.zero_le _,rfl⟩ (by dsimp only;omega)
 rintro ⟨k,hk,hall⟩ kc hkc
 dsimp only at hkc ⊢
 rw [plenumref13_May_b1_eq]
 by_cases hlt : k < 16
 ·have hlt' : (k : Int) < 16 := by omega
  by_cases hv : s.t.ver k ≤ s.ver
  ·have step := hkc ⟨k + 1,by omega,by rw [List.range_succ,List.all_append,hall];simp [hv]⟩ (by dsimp only;omega)
   have hv' : ¬ s.ver < s.t.ver k := by omega
   simp (config := {maxSteps := 4000000,implicitDefEqProofs := false}) (disch := omega) only [go_sem,hlt',st_tv,Nat.add_sub_cancel_left,st_ver,st_ltA,stC_len,hv',w_i64]
   exact step
  ·have hv' : s.ver < s.t.ver k := by omega
   simp (config := {maxSteps := 4000000,implicitDefEqProofs := false}) (disch := omega) only [go_sem,hlt',st_tv,Nat.add_sub_cancel_left,st_ver,st_ltA,stC_len,hv',w_i64]
   rw [vers_no hlt hv]
   rfl
 ·have hlt' : ¬ (k : Int) < 16 := by omega
  have : k = 16 := by omega
  subst this
  have hv : versB s = true := hall
  simp (config := {maxSteps := 4000000,implicitDefEqProofs := false}) (disch := omega) only [go_sem,hlt',hv,st_take,st_ver,st_bytes,st_keys,st_ltA,st_sure,stC_len,hW,hC,plenumref13_May_r3_eq]
  by_cases hw : (weightT s.t : Int) ≤ s.bytes
  ·simp (config := {maxSteps := 4000000,implicitDefEqProofs := false}) only [go_sem,hw]
  ·simp (config := {maxSteps := 4000000,implicitDefEqProofs := false}) only [go_sem,hw]
def sameS (a b : St) : Bool := decide (a.ver = b.ver) && decide (a.bytes = b.bytes) && decide (a.keys = b.keys) && sameT a.t b.t
theorem rsameS_s (m : Nat) (a b : St) (hm : 16 < m) (ha : ∀ i,(a.t.leaf i).length ≤ 34359738368) (hb : ∀ i,(b.t.leaf i).length ≤ 34359738368) : plenumref13_Same m (stA a) (stA b) = some (bA (sameS a b),[]) := by
 have hS := rsame_s m a.t b.t hm ha hb
 rw [tA_def,tA_def] at hS
 rw [plenumref13_Same_eq,stA_def,stA_def]
 unfold sameS
 by_cases h1 : a.ver = b.ver
 ·by_cases h2 : a.bytes = b.bytes
  ·by_cases h3 : a.keys = b.keys
   ·simp (config := {maxSteps := 4000000,implicitDefEqProofs := false}) (disch := omega) only [go_sem,st_take,st_ver,st_bytes,st_keys,st_ltA,st_sure,stC_len,h1,h2,h3,hS]
   ·simp (config := {maxSteps := 4000000,implicitDefEqProofs := false}) (disch := omega) only [go_sem,st_take,st_ver,st_bytes,st_keys,st_ltA,st_sure,stC_len,h1,h2,h3,hS]
  ·simp (config := {maxSteps := 4000000,implicitDefEqProofs := false}) (disch := omega) only [go_sem,st_take,st_ver,st_bytes,st_keys,st_ltA,st_sure,stC_len,h1,h2,hS]
 ·simp (config := {maxSteps := 4000000,implicitDefEqProofs := false}) (disch := omega) only [go_sem,st_take,st_ver,st_bytes,st_keys,st_ltA,st_sure,stC_len,h1,hS]
theorem few13_s (m : Nat) (s : St) (h : ∀ i,(s.t.leaf i).length ≤ maxLen) : plenumlaw13_Few m (stA s) = some (stA { s with t := fewT s.t 16 },[]) := by
 have hF := plenumlaw10_Few_e m s.t h
 rw [tA_def,tA_def] at hF
 rw [plenumlaw13_Few_eq,stA_def]
 simp (config := {maxSteps := 4000000,implicitDefEqProofs := false}) (disch := omega) only [go_sem,st_take,st_ltA,st_sure,stC_len,hF,st_set,st_take35,z_set,zcS_len,st_all1,st_ro,stA_def]
end Go.Proofs.YtoeajbhlkccekaaDoor

namespace Go.Proofs.YtoeajbhlkccekaaDoor
open Go.RowKit
def ty_api_Errno : TypeId := 32
def zc_api_Errno : List AV := [(V (.int .i64 0))]
def zc_int : List AV := [(V (.int .i64 0))]
noncomputable def store_Take_c : Code := (Tryd.f10.body).getD .skip
def store_Take_h : Hint := (.two .n (.join [1,2,4,5,6] (.join [1,2,4,5,6,18] .n (.two (.two .n .n) .n)) (.join [1,2,4,5,6] (.two .n (.one (.lp [] [1,2,4,5,6,20,21,22] [1,2,4,5,6] (.two .n (.two (.two .n .n) (.join [1,2,4,5,6,20,21,22] (.one (.two .n (.join [1,2,4,5,6,7,20,21,22,36] .n (.two (.two .n .n) .n)))) .n)))))) (.two .n (.two .n (.join [1,2,4,5,6] (.two .n (.one (.lp [] [1,2,4,5,6,45,46,47] [1,2,4,5,6] (.two .n (.two (.two .n .n) (.two (.one (.two .n .n)) .n)))))) (.join [2,4,5,6] (.join [1,2,4,5,6,74] .n (.two .n .n)) (.two .n .n))))))))
noncomputable def store_Take_env (m : Nat) : Env := [(38, .pan (store_one_t m)),(17, .tell (store_May_t m)),(35, .tell (key_Is_t m)),(36, .tell (value_May_t m))]
noncomputable abbrev store_Take_fin : KO (AV × List AObj) := tellFK Tryd.prog [.cell 4 28, .cell 5 32, .cell 6 3]
noncomputable def store_Take_r5 (m : Nat) (n0 : Nat) (kc : ASt → RO) (kx : KO (AV × List AObj)) (s : ASt) : RO := joinW Tryd.prog GG (store_Take_env m) m ⟨80,[]⟩ (cdR (cdR (cdR (cdL (cdL (cdR (cdL (cdR (cdR store_Take_c))))))))) store_Take_h.r.r.l.r.c.c.r.r.r s (backW n0 [1,2,4,5,6,20,21,22] [1,2,4,5,6] kc kx)
noncomputable def store_Take_r4 (m : Nat) (n0 : Nat) (kc : ASt → RO) (kx : KO (AV × List AObj)) (s : ASt) : RO := joinW Tryd.prog GG (store_Take_env m) m ⟨80,[]⟩ (cdR (cdR (cdL (cdL (cdR (cdR (cdL (cdL (cdR (cdL (cdR (cdR store_Take_c)))))))))))) store_Take_h.r.r.l.r.c.c.r.r.l.c.r.r s (blockX 1 (seqX (fun s=>store_Take_r5 m n0 kc kx ⟨s.H,[(1,gt s.T 1),(2,gt s.T 2),(4,gt s.T 4),(5,gt s.T 5),(6,gt s.T 6),(20,gt s.T 20),(21,gt s.T 21),(22,gt s.T 22)]⟩) (backW n0 [1,2,4,5,6,20,21,22] [1,2,4,5,6] kc kx)))
noncomputable def store_Take_r3 (m : Nat) (s : ASt) : RO := joinW Tryd.prog GG (store_Take_env m) m ⟨80,[]⟩ (cdR (cdR (cdR store_Take_c))) store_Take_h.r.r.r s (store_Take_fin)
noncomputable def store_Take_b1 (m : Nat) (s : ASt) (kc : ASt → RO) (kx : KO (AV × List AObj)) : RO := bodyW Tryd.prog GG (store_Take_env m) m ⟨80,[]⟩ (cdL (cdL (cdR (cdL (cdR (cdR store_Take_c)))))) store_Take_h.r.r.l.r.c.c [1,2,4,5,6,20,21,22] [1,2,4,5,6] s kc kx
noncomputable def store_Take_r2 (m : Nat) (s : ASt) : RO := joinW Tryd.prog GG (store_Take_env m) m ⟨80,[]⟩ (cdR (cdR store_Take_c)) store_Take_h.r.r s (store_Take_fin)
noncomputable def store_Take_r1 (m : Nat) (s : ASt) : RO := joinW Tryd.prog GG (store_Take_env m) m ⟨80,[]⟩ (cdR (cdL (cdR store_Take_c))) store_Take_h.r.l.r s (seqX (fun s=>store_Take_r2 m ⟨s.H,[(1,gt s.T 1),(2,gt s.T 2),(4,gt s.T 4),(5,gt s.T 5),(6,gt s.T 6)]⟩) (store_Take_fin))
noncomputable def store_Take (m : Nat) (t0 t1 : AV) : RO := exec Tryd.prog GG (store_Take_env m) m ⟨80,[]⟩ store_Take_c store_Take_h ⟨[],argsT 0 [t0,t1]⟩ (store_Take_fin)
theorem store_Take_r5_eq (m : Nat) (n0 : Nat) (kc : ASt → RO) (kx : KO (AV × List AObj)) (H : List AObj) (t1 t2 t4 t5 t6 t20 t21 t22 : AV) : store_Take_r5 m n0 kc kx ⟨H,[(1,t1),(2,t2),(4,t4),(5,t5),(6,t6),(20,t20),(21,t21),(22,t22)]⟩ =
 binE none false false .add t22 (V (.int .i64 1)) fun t39 =>
 backE n0 H [(1,t1),(2,t2),(4,t4),(5,t5),(6,t6),(20,t20),(21,t21),(22,t39)] kc := by
 refine (joinW_eq _ _ _ _ _ _ _ _ _).trans ?_
 kernel_rfl
theorem store_Take_r4_eq (m : Nat) (n0 : Nat) (kc : ASt → RO) (kx : KO (AV × List AObj)) (H : List AObj) (t1 t2 t4 t5 t6 t7 t20 t21 t22 t36 : AV) : store_Take_r4 m n0 kc kx ⟨H,[(1,t1),(2,t2),(4,t4),(5,t5),(6,t6),(7,t7),(20,t20),(21,t21),(22,t22),(36,t36)]⟩ =
 condE t36 (
  buildE (some pl_api_Store) (some zc_api_Store) [] fun t37 =>
  storeE 37 H t4 t37 fun H2 =>
  storeE 1 H2 t5 (V (.int .i64 1)) fun H3 =>
  storeE 1 H3 t6 t7 fun H4 =>
  kx .ret ⟨H4,[(1,t1),(2,t2),(4,t4),(5,t5),(6,t6)]⟩) (
  store_Take_r5 m n0 kc kx ⟨H,[(1,t1),(2,t2),(4,t4),(5,t5),(6,t6),(20,t20),(21,t21),(22,t22)]⟩) := by
 refine (joinW_eq _ _ _ _ _ _ _ _ _).trans ?_
 kernel_rfl
theorem store_Take_b1_eq (m : Nat) (H : List AObj) (t1 t2 t4 t5 t6 t20 t21 t22 : AV) (kc : ASt → RO) (kx : KO (AV × List AObj)) : store_Take_b1 m ⟨H,[(1,t1),(2,t2),(4,t4),(5,t5),(6,t6),(20,t20),(21,t21),(22,t22)]⟩ kc kx =
 binE none false false .lss t22 t21 fun t23 =>
 condE t23 (
  idxSE 6 H t20 t22 fun t25 =>
  loadE 6 H t25 fun t26 =>
  allocE (some zc_api_Edit) ty_api_Edit H fun t8 H2 =>
  storeE 6 H2 t8 t26 fun H3 =>
  fieldE (some (0,1)) t8 fun t27 =>
  loadE 1 H3 t27 fun t28 =>
  tellE (key_Is_t m [(ro H3 t28)]) [(ro H3 t28)] fun t29 =>
  unE .not t29 fun t30 =>
  condE t30 (
   store_Take_r4 m H.length kc kx ⟨H3,[(1,t1),(2,t2),(4,t4),(5,t5),(6,t6),(7,t22),(20,t20),(21,t21),(22,t22),(36,(V (.bool true)))]⟩) (
   fieldE (some (1,5)) t8 fun t32 =>
   loadE 5 H3 t32 fun t33 =>
   tellE (value_May_t m [(ro H3 t33)]) [(ro H3 t33)] fun t34 =>
   unE .not t34 fun t35 =>
   store_Take_r4 m H.length kc kx ⟨H3,[(1,t1),(2,t2),(4,t4),(5,t5),(6,t6),(7,t22),(20,t20),(21,t21),(22,t22),(36,t35)]⟩)) (
  kx (.exit 0) ⟨H,[(1,t1),(2,t2),(4,t4),(5,t5),(6,t6)]⟩) := by
 refine (bodyW_eq _ _ _ _ _ _ _ _ _ _ _ _).trans ?_
 kernel_rfl
theorem store_Take_r2_eq (m : Nat) (H : List AObj) (t1 t2 t4 t5 t6 : AV) : store_Take_r2 m ⟨H,[(1,t1),(2,t2),(4,t4),(5,t5),(6,t6)]⟩ =
 lenE false true H t1 fun t21 =>
 iterC m (store_Take_b1 m) ⟨H,[(1,t1),(2,t2),(4,t4),(5,t5),(6,t6),(20,t1),(21,t21),(22,(V (.int .i64 0)))]⟩ (blockX 0 (seqX (fun s=>store_Take_r3 m ⟨s.H,[(1,gt s.T 1),(2,gt s.T 2),(4,gt s.T 4),(5,gt s.T 5),(6,gt s.T 6)]⟩) (store_Take_fin))) := by
 refine (joinW_eq _ _ _ _ _ _ _ _ _).trans ?_
 kernel_rfl
theorem store_Take_r1_eq (m : Nat) (H : List AObj) (t1 t2 t4 t5 t6 t18 : AV) : store_Take_r1 m ⟨H,[(1,t1),(2,t2),(4,t4),(5,t5),(6,t6),(18,t18)]⟩ =
 condE t18 (
  buildE (some pl_api_Store) (some zc_api_Store) [] fun t19 =>
  storeE 37 H t4 t19 fun H2 =>
  storeE 1 H2 t5 (V (.int .i64 1)) fun H3 =>
  storeE 1 H3 t6 (V (.int .i64 0)) fun H4 =>
  loadE 37 H4 t4 fun t9000 =>
  loadE 1 H4 t5 fun t9001 =>
  loadE 1 H4 t6 fun t9002 =>
  tellK H4 (ro H4 (TU [noT t9000,noT t9001,noT t9002]))) (
  store_Take_r2 m ⟨H,[(1,t1),(2,t2),(4,t4),(5,t5),(6,t6)]⟩) := by
 refine (joinW_eq _ _ _ _ _ _ _ _ _).trans ?_
 kernel_rfl
theorem store_Take_eq (m : Nat) (t0 t1 : AV) : store_Take m t0 t1 =
 boxE ty_api_Store [] t0 fun t2 H1 =>
 allocE (some zc_api_Store) ty_api_Store H1 fun t4 H2 =>
 allocE (some zc_api_Errno) ty_api_Errno H2 fun t5 H3 =>
 allocE (some zc_int) ty_int H3 fun t6 H4 =>
 loadE 37 H4 t2 fun t11 =>
 tellE (store_May m (ro H4 t11)) [(ro H4 t11)] fun t12 =>
 unE .not t12 fun t13 =>
 condE t13 (
  store_Take_r1 m ⟨H4,[(1,t1),(2,t2),(4,t4),(5,t5),(6,t6),(18,(V (.bool true)))]⟩) (
  fieldE (some (32,1)) t2 fun t15 =>
  loadE 1 H4 t15 fun t16 =>
  binE none false false .eql t16 (V (.int .i64 2147483647)) fun t17 =>
  store_Take_r1 m ⟨H4,[(1,t1),(2,t2),(4,t4),(5,t5),(6,t6),(18,t17)]⟩) := by
 refine (tellX _ _ _ _ _ _ _ _ _).trans ?_
 kernel_rfl
noncomputable def store_Take_t (m : Nat) : List AV → RO|[t0,t1]=>store_Take m t0 t1|_=>none
theorem store_Take_ok (m : Nat) : ∀ args X H',store_Take_t m args = some (X,H') → ACp Tryd.prog GG 10 args X := by
 intro args X H' h
 unfold store_Take_t at h
 split at h
 ·exact tell_okK MIX (by
  intro f e h
  simp only [store_Take_env,Prod.mk.injEq,List.mem_cons,List.not_mem_nil,or_false] at h
  rcases h with ⟨rfl,rfl⟩|⟨rfl,rfl⟩|⟨rfl,rfl⟩|⟨rfl,rfl⟩
  ·exact store_one_ok m
  ·exact store_May_ok m
  ·exact key_Is_ok m
  ·exact value_May_ok m) (f := 10) (c := store_Take_c) Tryd.func10 rfl (by kernel_rfl) _ rfl Tryd.ntmps10 (Nat.le_of_ble_eq_true rfl) store_Take_h h
 ·cases h
end Go.Proofs.YtoeajbhlkccekaaDoor

namespace Go.Proofs.YtoeajbhlkccekaaDoor
open Go.RowKit
def St.zero : St := ⟨Tr.zero,0,0,0⟩
def zS : List AV := zC ++ [nA 0,nA 0,nA 0]
theorem zcS_eq : zc_api_Store = zS := _root_.id rfl
theorem zS_len : zS.length = 35 := _root_.id rfl
structure Edt where
 key : Bytes
 kind : Int
 i : Int
 s : Bytes
def Edt.cells (x : Edt) : List Value := [.string ⟨x.key.toArray⟩, .int .i64 x.kind, .int .i64 x.i, .string ⟨x.s.toArray⟩]
def Edt.it (x : Edt) (v : Int) : Item := ⟨x.key,x.kind,x.i,x.s,v⟩
abbrev eA (x : Edt) : AV := flA Edt.cells x
theorem ed_it (x : Edt) : flA Edt.cells x = .agg [V (.string ⟨x.key.toArray⟩),V (.int .i64 x.kind),V (.int .i64 x.i),V (.string ⟨x.s.toArray⟩)] := _root_.id rfl
def edO (x : Edt) : AObj := ⟨1,ty_api_Edit,0,[V (.string ⟨x.key.toArray⟩),V (.int .i64 x.kind),V (.int .i64 x.i),V (.string ⟨x.s.toArray⟩)]⟩
section
variable {R : Type} {s u : St} {i n : Nat} {q : Int} {K1 : AV → Option R} {H : List AObj}
theorem zS_sure : zS.all sure = true := _root_.id rfl
theorem zS_ltA : zS.all (ltA n) = true := _root_.id rfl
theorem zS_lt1 : zS.all (lt1 n) = true := _root_.id rfl
theorem zS_all1 : (zS.all fun x=>lt1 n (ro1 H x)) = true := _root_.id rfl
theorem zS_ro : zS.map (ro1 H) = stC St.zero := _root_.id rfl
theorem zS_take : zS.take 35 = zS := _root_.id rfl
theorem set_all {a b : List AV} (h : a.length = b.length) : setCells a 0 b = b := by
 rw [setCells_at _ _ _ (by omega)]
 rw [List.drop_of_length_le (by omega)]
 simp
theorem ss_set : setCells (stC s) 0 (stC u) = stC u := set_all (by rw [stC_len,stC_len])
theorem ss_zs : setCells zS 0 (stC u) = stC u := set_all (by rw [stC_len,zS_len])
theorem ss_zz : setCells zS 0 zS = zS := set_all rfl
theorem u_bS0 : buildE (some pl_api_Store) (some zS) [] K1 = K1 (.agg zS) := _root_.id rfl
theorem u_bIt {k s : ByteArray} {a b v : Int} : buildE (some pl_api_Item) (some zc_api_Item) [(0,V (.string k)),(1, .agg [V (.int .i64 a),V (.int .i64 b),V (.string s)]),(2,V (.int .i64 v))] K1 = K1 (.agg [V (.string k),V (.int .i64 a),V (.int .i64 b),V (.string s),V (.int .i64 v)]) := _root_.id rfl
theorem u_bNo {a b : Int} : buildE (some pl_store_no) (some zc_store_no) [(0,V (.int .i64 a)),(1,V (.int .i64 b))] K1 = K1 (.agg [V (.int .i64 a),V (.int .i64 b)]) := _root_.id rfl
end
def noV (e a : Int) : Value := .iface 74 (.agg #[.int .i64 e, .int .i64 a])
def oneT (t : Tr) (x : Edt) (ver : Int) : Tr × Nat := if x.kind = 0 then (if (getT t x.key).isSome then delT t x.key ver else (t,0)) else putT t (x.it ver)
def tkH (s : St) : List AObj := [⟨1,ty_api_Store,0,stC s⟩,⟨1,ty_api_Store,0,zS⟩,⟨1,ty_api_Errno,0,[nA 0]⟩,⟨1,ty_int,0,[nA 0]⟩]
theorem zcI0 : zc_api_Item = [V (.string ⟨#[]⟩),V (.int .i64 0),V (.int .i64 0),V (.string ⟨#[]⟩),V (.int .i64 0)] := _root_.id rfl
theorem zcE0 : zc_api_Edit = [V (.string ⟨#[]⟩),V (.int .i64 0),V (.int .i64 0),V (.string ⟨#[]⟩)] := _root_.id rfl
attribute [local go_sem] tC_len tC_sure tC_ltA tC_lt1 tC_ro tC_take tC_all1 zcT_eq zcI_len zC_len zC_ltA zC_lt1 zC_sure zC_ro zC_take set_tl set_tv sc_tt sc_zt sc_tz sc_zz add16 tA_def lA_def natInt u_tl u_tv ed_it store_one_r1_eq store_one_r2_eq zS_ltA st_ltA u_bIt u_bNo
theorem one_s (m : Nat) (t : Tr) (x : Edt) (ver : Int) (a : Int) (s : St) (h : t.Ok) : store_one m (tA t) (eA x) (nA ver) (nA a) (tkH s ++ [edO x]) =
  some (if (oneT t x ver).2 = 0 then (tA (oneT t x ver).1,tkH s ++ [edO x]) else (PN (noV (oneT t x ver).2 a),tkH s ++ [edO x])) := by
 rw [store_one_eq]
 unfold oneT tkH edO
 have hP := trunk_Put_e m t (x.it ver) h
 have hG := trunk_Get_e m t x.key h
 have hD := trunk_Delete_e m t x.key ver h
 rw [tA_def] at hP hG hD ⊢
 rw [iA_def] at hP
 unfold Edt.it at hP
 dsimp only at hP
 by_cases hk : x.kind = 0
 ·rw [if_pos hk]
  cases hg : (getT t x.key).isSome with
  |false =>
   rw [hg] at hG
   simp (config := {maxSteps := 4000000,implicitDefEqProofs := false}) (disch := omega) only [go_sem,hk,hG,zcI0,iA_def]
  |true =>
   rw [hg] at hG
   rw [if_pos rfl]
   generalize delT t x.key ver = r at *
   obtain ⟨t',e'⟩ := r
   dsimp only at hD ⊢
   by_cases he : e' = 0
   ·subst he
    simp (config := {maxSteps := 4000000,implicitDefEqProofs := false}) (disch := omega) only [go_sem,hk,hG,hD,zcI0,iA_def,Int.ofNat_zero]
    try rfl
   ·have he' : ¬ (e' : Int) = 0 := by omega
    simp (config := {maxSteps := 4000000,implicitDefEqProofs := false}) (disch := omega) only [go_sem,hk,hG,hD,he,he',zcI0,iA_def]
    try rfl
 ·rw [if_neg hk]
  unfold Edt.it
  generalize putT t ⟨x.key,x.kind,x.i,x.s,ver⟩ = r at *
  obtain ⟨t',e'⟩ := r
  dsimp only at hP ⊢
  by_cases he : e' = 0
  ·subst he
   simp (config := {maxSteps := 4000000,implicitDefEqProofs := false}) (disch := omega) only [go_sem,hk,hP,Int.ofNat_zero]
   try rfl
  ·have he' : ¬ (e' : Int) = 0 := by omega
   simp (config := {maxSteps := 4000000,implicitDefEqProofs := false}) (disch := omega) only [go_sem,hk,hP,he,he']
   try rfl
end Go.Proofs.YtoeajbhlkccekaaDoor

namespace Go.Proofs.YtoeajbhlkccekaaDoor
open Go.RowKit
def Item.ed (x : Item) : Edt := ⟨x.key,x.kind,x.i,x.s⟩
def Item.del (x : Item) : Edt := ⟨x.key,0,0,[]⟩
def sameV (a b : Item) : Bool := decide (a.kind = b.kind) && (decide (a.i = b.i) && decide (a.s = b.s))
def undoN : Nat → List Item → List Item → List Edt → List Edt
 |0,_,_,acc=>acc
 |_ + 1,[],[],acc=>acc
 |n + 1,x :: a,[],acc=>undoN n a [] (acc ++ [x.ed])
 |n + 1,[],y :: b,acc=>undoN n [] b (acc ++ [y.del])
 |n + 1,x :: a,y :: b,acc=>if less x.key y.key then undoN n a (y :: b) (acc ++ [x.ed]) else if less y.key x.key then undoN n (x :: a) b (acc ++ [y.del]) else undoN n a b (if sameV x y then acc else acc ++ [x.ed])
theorem undoN_more : ∀ (n : Nat) (a b : List Item) (acc : List Edt),a.length + b.length ≤ n → undoN n a b acc = undoN (a.length + b.length) a b acc
 |0,a,b,acc,h=>by
  have : a.length + b.length = 0 := by omega
  rw [this]
 |n + 1,[],[],acc,h=>rfl
 |n + 1,x :: a,[],acc,h=>by
  have e : (x :: a).length + ([] : List Item).length = (a.length + 0) + 1 := by simp
  rw [e]
  unfold undoN
  rw [undoN_more n a [] _ (by simp at h ⊢;omega)]
  rfl
 |n + 1,[],y :: b,acc,h=>by
  have e : ([] : List Item).length + (y :: b).length = (0 + b.length) + 1 := by simp
  rw [e]
  unfold undoN
  rw [undoN_more n [] b _ (by simp at h ⊢;omega)]
  simp
 |n + 1,x :: a,y :: b,acc,h=>by
  have e : (x :: a).length + (y :: b).length = (a.length + b.length + 1) + 1 := by simp;omega
  rw [e]
  unfold undoN
  simp at h
  rw [undoN_more n a (y :: b) _ (by simp;omega),undoN_more n (x :: a) b _ (by simp;omega),undoN_more n a b _ (by omega)]
  rw [undoN_more (a.length + b.length + 1) a (y :: b) _ (by simp;omega),undoN_more (a.length + b.length + 1) (x :: a) b _ (by simp;omega),undoN_more (a.length + b.length + 1) a b _ (by omega)]
theorem cut1 {d : AV} {es : List AV} : cutE (d :: es) 1 ((es.length + 1 : Nat) : Int) = es := by
 unfold cutE
 rw [Int.toNat_natCast,List.take_of_length_le (by simp)]
 rfl
theorem cutI (x : Item) (l : List Item) : cutE (.agg [V (.string ⟨x.key.toArray⟩),V (.int .i64 x.kind),V (.int .i64 x.i),V (.string ⟨x.s.toArray⟩),V (.int .i64 x.ver)] :: l.map (flA Item.cells)) 1 ((l.length + 1 : Nat) : Int) = l.map (flA Item.cells) := by
 have := cut1 (d := (.agg [V (.string ⟨x.key.toArray⟩),V (.int .i64 x.kind),V (.int .i64 x.i),V (.string ⟨x.s.toArray⟩),V (.int .i64 x.ver)] : AV)) (es := l.map (flA Item.cells))
 rwa [List.length_map] at this
theorem len1 (n : Nat) : (decide ((1 : Int) ≤ ((n + 1 : Nat) : Int)) && decide (((n + 1 : Nat) : Int) ≤ ((n + 1 : Nat) : Int))) = true := by
 rw [decide_eq_true (by omega),decide_eq_true (Int.le_refl _)];rfl
theorem ed_all {l : List Edt} : (l.all fun x=>decide ((cellsOf (flA Edt.cells x)).length = 4)) = true := List.all_eq_true.2 fun _ _=>rfl
theorem ed_allA {l : List Edt} {n : Nat} : (l.all fun x=>ltA n (flA Edt.cells x)) = true := List.all_eq_true.2 fun _ _=>rfl
theorem u_bE1 {R : Type} {k s : ByteArray} {a b : Int} {K1 : AV → Option R} : buildE (some pl_api_Edit) (some zc_api_Edit) [(0,V (.string k)),(1, .agg [V (.int .i64 a),V (.int .i64 b),V (.string s)])] K1 = K1 (.agg [V (.string k),V (.int .i64 a),V (.int .i64 b),V (.string s)]) := _root_.id rfl
theorem u_bE0 {R : Type} {k : ByteArray} {K1 : AV → Option R} : buildE (some pl_api_Edit) (some zc_api_Edit) [(0,V (.string k))] K1 = K1 (.agg [V (.string k),V (.int .i64 0),V (.int .i64 0),V (.string ⟨#[]⟩)]) := _root_.id rfl
theorem sameVK (x y : Item) : sameKs [.int .i64 x.kind, .int .i64 x.i, .string ⟨x.s.toArray⟩] [.int .i64 y.kind, .int .i64 y.i, .string ⟨y.s.toArray⟩] = sameV x y := by
 show (decide (x.kind = y.kind) && (decide (x.i = y.i) && (decide (x.s = y.s) && true))) = _
 rw [Bool.and_true];rfl
theorem u_neV {R : Type} {K1 : AV → Option R} {x y : Item} {isB sl : Bool} : binE (some [.i .i64, .i .i64, .s]) isB sl .neq (.agg [V (.int .i64 x.kind),V (.int .i64 x.i),V (.string ⟨x.s.toArray⟩)]) (.agg [V (.int .i64 y.kind),V (.int .i64 y.i),V (.string ⟨y.s.toArray⟩)]) K1 = K1 (bA (!sameV x y)) := by
 rw [← sameVK];rfl
attribute [local go_sem] tC_len tC_sure tC_ltA tC_lt1 tC_ro tC_take tC_all1 zcT_eq zcI_len zC_len zC_ltA zC_lt1 zC_sure zC_ro zC_take set_tl set_tv sc_tt sc_zt sc_tz sc_zz add16 tA_def lA_def natInt u_tl u_tv store_Undo_r4_eq store_Undo_r5_eq store_Undo_r6_eq store_Undo_r7_eq store_Undo_r8_eq fl_it u_bE0 u_bE1 cutI len1 ed_it st_ltA ed_all ed_allA fl_allA less_def u_neV
abbrev unS (p q : St) (a b : List Item) (acc : List Edt) : ASt := ⟨[⟨1,ty_api_Store,0,stC p⟩,⟨1,ty_api_Store,0,stC q⟩,⟨2,ty_api_Edit,4,acc.map (flA Edt.cells)⟩],[(6,SL (a.map (flA Item.cells))),(8,SL (b.map (flA Item.cells))),(10,OW 2 acc.length)]⟩
theorem undo_loop (m : Nat) (p q : St) (a b : List Item) (hm : a.length + b.length < m) (hl : a.length + b.length ≤ 34359738368) (k : ASt → RO) (kxr : KO (AV × List AObj))
  (hk : ∀ acc : List Edt,kxr (.exit 0) ⟨[⟨1,ty_api_Store,0,stC p⟩,⟨1,ty_api_Store,0,stC q⟩,⟨2,ty_api_Edit,4,acc.map (flA Edt.cells)⟩],[(10,OW 2 acc.length)]⟩ = some (TU [SL (acc.map (flA Edt.cells)),nA 0],[])) :
  iterC m (store_Undo_b1 m) (unS p q a b []) kxr = some (TU [SL ((undoN (a.length + b.length) a b []).map (flA Edt.cells)),nA 0],[]) := by
 refine iter_go (ι := {r : List Item × List Item × List Edt // r.1.length + r.2.1.length + r.2.2.length ≤ 34359738368 ∧ undoN (r.1.length + r.2.1.length) r.1 r.2.1 r.2.2 = undoN (a.length + b.length) a b []}) (fun r=>unS p q r.1.1 r.1.2.1 r.1.2.2) (fun r=>r.1.1.length + r.1.2.1.length) (fun _=>some (TU [SL ((undoN (a.length + b.length) a b []).map (flA Edt.cells)),nA 0],[])) ?_ ⟨(a,b,[]),by simpa using hl,rfl⟩ (by dsimp only;omega)
 rintro kx hkx ⟨⟨a',b',acc⟩,hle,hun⟩ kc hkc
 dsimp only at hle hun hkc ⊢
 rw [store_Undo_b1_eq]
 match a',b',hle,hun,hkc with
 |[],[],hle,hun,hkc =>
  have : undoN (([] : List Item).length + ([] : List Item).length) [] [] acc = acc := rfl
  rw [this] at hun
  simp (config := {maxSteps := 4000000,implicitDefEqProofs := false}) (disch := omega) only [go_sem,hkx,hk]
  rw [hun]
 |x :: a1,[],hle,hun,hkc =>
  have step := hkc ⟨(a1,[],acc ++ [x.ed]),by simp at hle ⊢;omega,by rw [← hun];simp [undoN]⟩ (by simp)
  dsimp only at step
  have hl1 : acc.length ≤ 34359738367 := by simp at hle;omega
  have hp : (0 : Int) < ((a1.length + 1 : Nat) : Int) := by omega
  unfold unS at step;rw [List.map_append,List.length_append] at step
  simp (config := {maxSteps := 4000000,implicitDefEqProofs := false}) (disch := omega) only [go_sem,hl1,hp]
  exact step
 |[],y :: b1,hle,hun,hkc =>
  have step := hkc ⟨([],b1,acc ++ [y.del]),by simp at hle ⊢;omega,by rw [← hun];simp [undoN]⟩ (by simp)
  dsimp only at step
  have hl1 : acc.length ≤ 34359738367 := by simp at hle;omega
  have hp : (0 : Int) < ((b1.length + 1 : Nat) : Int) := by omega
  have hz : ¬ ((b1.length + 1 : Nat) : Int) = 0 := by omega
  unfold unS at step;rw [List.map_append,List.length_append] at step
  simp (config := {maxSteps := 4000000,implicitDefEqProofs := false}) (disch := omega) only [go_sem,hl1,hp,hz]
  exact step
 |x :: a1,y :: b1,hle,hun,hkc =>
  have hl1 : acc.length ≤ 34359738367 := by simp at hle;omega
  have hp : (0 : Int) < ((b1.length + 1 : Nat) : Int) := by omega
  have hz : ¬ ((b1.length + 1 : Nat) : Int) = 0 := by omega
  have hpa : (0 : Int) < ((a1.length + 1 : Nat) : Int) := by omega
  have hza : ¬ ((a1.length + 1 : Nat) : Int) = 0 := by omega
  have e : (x :: a1).length + (y :: b1).length = (a1.length + b1.length + 1) + 1 := by simp;omega
  rw [e,undoN] at hun
  cases h1 : less x.key y.key with
  |true =>
   rw [h1,if_pos rfl] at hun
   have step := hkc ⟨(a1,y :: b1,acc ++ [x.ed]),by simp at hle ⊢;omega,by rw [← hun];exact congrArg (fun n=>undoN n _ _ _) (by simp only [List.length_cons];omega)⟩ (by simp)
   dsimp only at step
   unfold unS at step;rw [List.map_append,List.length_append] at step
   simp (config := {maxSteps := 4000000,implicitDefEqProofs := false}) (disch := omega) only [go_sem,hl1,hp,hz,hpa,hza,h1]
   exact step
  |false =>
   rw [h1,if_neg (by decide)] at hun
   cases h2 : less y.key x.key with
   |true =>
    rw [h2,if_pos rfl] at hun
    have step := hkc ⟨(x :: a1,b1,acc ++ [y.del]),by simp at hle ⊢;omega,by rw [← hun];exact congrArg (fun n=>undoN n _ _ _) (by simp only [List.length_cons];omega)⟩ (by simp)
    dsimp only at step
    unfold unS at step;rw [List.map_append,List.length_append] at step
    simp (config := {maxSteps := 4000000,implicitDefEqProofs := false}) (disch := omega) only [go_sem,hl1,hp,hz,hpa,hza,h1,h2]
    exact step
   |false =>
    rw [h2,if_neg (by decide)] at hun
    cases h3 : sameV x y with
    |true =>
     rw [h3,if_pos rfl] at hun
     have step := hkc ⟨(a1,b1,acc),by simp at hle ⊢;omega,by rw [← hun,undoN_more (a1.length + b1.length + 1) a1 b1 _ (by omega)]⟩ (by simp;omega)
     dsimp only at step
     simp (config := {maxSteps := 4000000,implicitDefEqProofs := false}) (disch := omega) only [go_sem,hl1,hp,hz,hpa,hza,h1,h2,h3]
     exact step
    |false =>
     rw [h3,if_neg (by decide)] at hun
     have step := hkc ⟨(a1,b1,acc ++ [x.ed]),by simp at hle ⊢;omega,by rw [← hun,undoN_more (a1.length + b1.length + 1) a1 b1 _ (by omega)]⟩ (by simp;omega)
     dsimp only at step
     unfold unS at step;rw [List.map_append,List.length_append] at step
     simp (config := {maxSteps := 4000000,implicitDefEqProofs := false}) (disch := omega) only [go_sem,hl1,hp,hz,hpa,hza,h1,h2,h3]
     exact step
end Go.Proofs.YtoeajbhlkccekaaDoor

namespace Go.Proofs.YtoeajbhlkccekaaDoor
open Go.RowKit
noncomputable def store_TakeR_c : Code := (endC 4 ((Tryd.f10.body).getD .skip))
def store_TakeR_h : Hint := (.two .n (.join [1,2,4,5,6] (.two .n (.one (.lp [] [1,2,4,5,6,45,46,47] [1,2,4,5,6] (.two .n (.two (.two .n .n) (.two (.one (.two .n .n)) .n)))))) (.join [2,4,5,6] (.join [1,2,4,5,6,74] .n (.two .n .n)) (.two .n .n))))
noncomputable def store_TakeR_env (m : Nat) : Env := [(38, .pan (store_one_t m)),(39, .tell (trunk_Weight_t m)),(40, .tell (trunk_Count_t m))]
noncomputable abbrev store_TakeR_fin (n0 : Nat) : KO (AV × List AObj) := sltFK [4,5,6]
noncomputable def store_TakeR_r3 (m : Nat) (D : List Deferred) (n0k : Nat) (s : ASt) : RO := joinW Tryd.prog GG (store_TakeR_env m) m ⟨80,D⟩ (cdR (cdR (cdR store_TakeR_c))) store_TakeR_h.r.r.r s (store_TakeR_fin n0k)
noncomputable def store_TakeR_r2 (m : Nat) (D : List Deferred) (n0k : Nat) (s : ASt) : RO := joinW Tryd.prog GG (store_TakeR_env m) m ⟨80,D⟩ (cdR (cdL (cdR (cdR store_TakeR_c)))) store_TakeR_h.r.r.l.r s (seqX (fun s=>store_TakeR_r3 m D n0k ⟨s.H,[(2,gt s.T 2),(4,gt s.T 4),(5,gt s.T 5),(6,gt s.T 6)]⟩) (store_TakeR_fin n0k))
noncomputable def store_TakeR_r1 (m : Nat) (D : List Deferred) (n0k : Nat) (s : ASt) : RO := joinW Tryd.prog GG (store_TakeR_env m) m ⟨80,D⟩ (cdR (cdR store_TakeR_c)) store_TakeR_h.r.r s (store_TakeR_fin n0k)
noncomputable def store_TakeR_b1 (m : Nat) (D : List Deferred) (s : ASt) (kc : ASt → RO) (kx : KO (AV × List AObj)) : RO := bodyW Tryd.prog GG (store_TakeR_env m) m ⟨80,D⟩ (cdL (cdL (cdR (cdL (cdR store_TakeR_c))))) store_TakeR_h.r.l.r.c.c [1,2,4,5,6,45,46,47] [1,2,4,5,6] s kc kx
noncomputable def store_TakeR (m : Nat) (D : List Deferred) (t1 t2 t4 t5 t6 : AV) (H : List AObj) : RO := exec Tryd.prog GG (store_TakeR_env m) m ⟨80,D⟩ store_TakeR_c store_TakeR_h ⟨H,[(1,t1),(2,t2),(4,t4),(5,t5),(6,t6)]⟩ (store_TakeR_fin H.length)
theorem store_TakeR_r3_eq (m : Nat) (D : List Deferred) (n0k : Nat) (H : List AObj) (t2 t4 t5 t6 : AV) : store_TakeR_r3 m D n0k ⟨H,[(2,t2),(4,t4),(5,t5),(6,t6)]⟩ =
 loadE 37 H t2 fun t79 =>
 storeE 37 H t4 t79 fun H2 =>
 storeE 1 H2 t5 (V (.int .i64 0)) fun H3 =>
 storeE 1 H3 t6 (V (.int .i64 0)) fun H4 =>
 some (TU [t4,t5,t6],H4) := by
 refine (joinW_eq _ _ _ _ _ _ _ _ _).trans ?_
 kernel_rfl
theorem store_TakeR_r2_eq (m : Nat) (D : List Deferred) (n0k : Nat) (H : List AObj) (t1 t2 t4 t5 t6 t74 : AV) : store_TakeR_r2 m D n0k ⟨H,[(1,t1),(2,t2),(4,t4),(5,t5),(6,t6),(74,t74)]⟩ =
 condE t74 (
  lenE false true H t1 fun t76 =>
  buildE (some pl_store_no) (some zc_store_no) [(0,(V (.int .i64 17))),(1,t76)] fun t77 =>
  whenE true (ifE 74 t77 fun t78 =>
  panicE t78 H fun u1 H2=>some (TU [PN u1,t4,t5,t6],H2))) (
  store_TakeR_r3 m D n0k ⟨H,[(2,t2),(4,t4),(5,t5),(6,t6)]⟩) := by
 refine (joinW_eq _ _ _ _ _ _ _ _ _).trans ?_
 kernel_rfl
theorem store_TakeR_r1_eq (m : Nat) (D : List Deferred) (n0k : Nat) (H : List AObj) (t1 t2 t4 t5 t6 : AV) : store_TakeR_r1 m D n0k ⟨H,[(1,t1),(2,t2),(4,t4),(5,t5),(6,t6)]⟩ =
 fieldE (some (0,34)) t2 fun t61 =>
 loadE 34 H t61 fun t62 =>
 tellE (trunk_Weight_t m [(ro H t62)]) [(ro H t62)] fun t63 =>
 fieldE (some (33,1)) t2 fun t64 =>
 loadE 1 H t64 fun t65 =>
 binE none false false .gtr t63 t65 fun t66 =>
 condE t66 (
  store_TakeR_r2 m D n0k ⟨H,[(1,t1),(2,t2),(4,t4),(5,t5),(6,t6),(74,(V (.bool true)))]⟩) (
  fieldE (some (0,34)) t2 fun t68 =>
  loadE 34 H t68 fun t69 =>
  tellE (trunk_Count_t m [(ro H t69)]) [(ro H t69)] fun t70 =>
  fieldE (some (34,1)) t2 fun t71 =>
  loadE 1 H t71 fun t72 =>
  binE none false false .gtr t70 t72 fun t73 =>
  store_TakeR_r2 m D n0k ⟨H,[(1,t1),(2,t2),(4,t4),(5,t5),(6,t6),(74,t73)]⟩) := by
 refine (joinW_eq _ _ _ _ _ _ _ _ _).trans ?_
 kernel_rfl
theorem store_TakeR_b1_eq (m : Nat) (D : List Deferred) (H : List AObj) (t1 t2 t4 t5 t6 t45 t46 t47 : AV) (kc : ASt → RO) (kx : KO (AV × List AObj)) : store_TakeR_b1 m D ⟨H,[(1,t1),(2,t2),(4,t4),(5,t5),(6,t6),(45,t45),(46,t46),(47,t47)]⟩ kc kx =
 binE none false false .lss t47 t46 fun t48 =>
 condE t48 (
  idxSE 6 H t45 t47 fun t50 =>
  loadE 6 H t50 fun t51 =>
  allocE (some zc_api_Edit) ty_api_Edit H fun t10 H2 =>
  storeE 6 H2 t10 t51 fun H3 =>
  fieldE (some (0,34)) t2 fun t52 =>
  loadE 34 H3 t52 fun t53 =>
  loadE 6 H3 t10 fun t54 =>
  fieldE (some (32,1)) t2 fun t55 =>
  loadE 1 H3 t55 fun t56 =>
  panE (store_one m (ro H3 t53) (ro H3 t54) (ro H3 t56) (ro H3 t47) H3) (fun t58 H4 =>
  fieldE (some (0,34)) t2 fun t59 =>
  storeE 34 H4 t59 t58 fun H5 =>
  binE none false false .add t47 (V (.int .i64 1)) fun t60 =>
  backE H.length H5 [(1,t1),(2,t2),(4,t4),(5,t5),(6,t6),(45,t45),(46,t46),(47,t60)] kc) (fun u1 H4=>kx (.panic (pch u1)) ⟨H4,[(1,t1),(2,t2),(4,t4),(5,t5),(6,t6)]⟩)) (
  kx (.exit 2) ⟨H,[(1,t1),(2,t2),(4,t4),(5,t5),(6,t6)]⟩) := by
 refine (bodyW_eq _ _ _ _ _ _ _ _ _ _ _ _).trans ?_
 kernel_rfl
theorem store_TakeR_eq (m : Nat) (D : List Deferred) (t1 t2 t4 t5 t6 : AV) (H : List AObj) : store_TakeR m D t1 t2 t4 t5 t6 H =
 fieldE (some (32,1)) t2 fun t41 =>
 loadE 1 H t41 fun t42 =>
 binE none false false .add t42 (V (.int .i64 1)) fun t43 =>
 fieldE (some (32,1)) t2 fun t44 =>
 storeE 1 H t44 t43 fun H2 =>
 lenE false true H2 t1 fun t46 =>
 iterC m (store_TakeR_b1 m D) ⟨H2,[(1,t1),(2,t2),(4,t4),(5,t5),(6,t6),(45,t1),(46,t46),(47,(V (.int .i64 0)))]⟩ (blockX 2 (seqX (fun s=>store_TakeR_r1 m D H.length ⟨s.H,[(1,gt s.T 1),(2,gt s.T 2),(4,gt s.T 4),(5,gt s.T 5),(6,gt s.T 6)]⟩) (store_TakeR_fin H.length))) := by
 refine (sltX Tryd.prog GG (store_TakeR_env m) m ⟨80,D⟩ store_TakeR_c store_TakeR_h ⟨H,[(1,t1),(2,t2),(4,t4),(5,t5),(6,t6)]⟩ [4,5,6]).trans ?_
 kernel_rfl
theorem store_TakeR_hE (m : Nat) : EnvOk Tryd.prog GG (store_TakeR_env m) := (by
 intro f e h
 simp only [store_TakeR_env,Prod.mk.injEq,List.mem_cons,List.not_mem_nil,or_false] at h
 rcases h with ⟨rfl,rfl⟩|⟨rfl,rfl⟩|⟨rfl,rfl⟩
 ·exact store_one_ok m
 ·exact trunk_Weight_ok m
 ·exact trunk_Count_ok m)
end Go.Proofs.YtoeajbhlkccekaaDoor

namespace Go.Proofs.YtoeajbhlkccekaaDoor
open Go.RowKit
noncomputable def store_TakeA_c : Code := farC 3 (endC 0 ((Tryd.f10.body).getD .skip)) .skip
def store_TakeA_h : Hint := (.two .n (.join [1,2,4,5,6] (.join [1,2,4,5,6,18] .n (.two (.two .n .n) .n)) (.join [1,2,4,5,6] (.two .n (.one (.lp [] [1,2,4,5,6,20,21,22] [1,2,4,5,6] (.two .n (.two (.two .n .n) (.join [1,2,4,5,6,20,21,22] (.one (.two .n (.join [1,2,4,5,6,7,20,21,22,36] .n (.two (.two .n .n) .n)))) .n)))))) .n)))
noncomputable def store_TakeA_env (m : Nat) : Env := [(17, .tell (store_May_t m)),(35, .tell (key_Is_t m)),(36, .tell (value_May_t m))]
noncomputable abbrev store_TakeA_fin (n0 : Nat) : KO (AV × List AObj) := nslFK [1,2,4,5,6]
noncomputable def store_TakeA_r5 (m : Nat) (D : List Deferred) (n0 : Nat) (kc : ASt → RO) (kx : KO (AV × List AObj)) (s : ASt) : RO := joinW Tryd.prog GG (store_TakeA_env m) m ⟨80,D⟩ (cdR (cdR (cdR (cdL (cdL (cdR (cdL (cdR (cdR store_TakeA_c))))))))) store_TakeA_h.r.r.l.r.c.c.r.r.r s (backW n0 [1,2,4,5,6,20,21,22] [1,2,4,5,6] kc kx)
noncomputable def store_TakeA_r4 (m : Nat) (D : List Deferred) (n0 : Nat) (kc : ASt → RO) (kx : KO (AV × List AObj)) (s : ASt) : RO := joinW Tryd.prog GG (store_TakeA_env m) m ⟨80,D⟩ (cdR (cdR (cdL (cdL (cdR (cdR (cdL (cdL (cdR (cdL (cdR (cdR store_TakeA_c)))))))))))) store_TakeA_h.r.r.l.r.c.c.r.r.l.c.r.r s (blockX 1 (seqX (fun s=>store_TakeA_r5 m D n0 kc kx ⟨s.H,[(1,gt s.T 1),(2,gt s.T 2),(4,gt s.T 4),(5,gt s.T 5),(6,gt s.T 6),(20,gt s.T 20),(21,gt s.T 21),(22,gt s.T 22)]⟩) (backW n0 [1,2,4,5,6,20,21,22] [1,2,4,5,6] kc kx)))
noncomputable def store_TakeA_r3 (m : Nat) (D : List Deferred) (n0k : Nat) (s : ASt) : RO := joinW Tryd.prog GG (store_TakeA_env m) m ⟨80,D⟩ (cdR (cdR (cdR store_TakeA_c))) store_TakeA_h.r.r.r s (store_TakeA_fin n0k)
noncomputable def store_TakeA_b1 (m : Nat) (D : List Deferred) (s : ASt) (kc : ASt → RO) (kx : KO (AV × List AObj)) : RO := bodyW Tryd.prog GG (store_TakeA_env m) m ⟨80,D⟩ (cdL (cdL (cdR (cdL (cdR (cdR store_TakeA_c)))))) store_TakeA_h.r.r.l.r.c.c [1,2,4,5,6,20,21,22] [1,2,4,5,6] s kc kx
noncomputable def store_TakeA_r2 (m : Nat) (D : List Deferred) (n0k : Nat) (s : ASt) : RO := joinW Tryd.prog GG (store_TakeA_env m) m ⟨80,D⟩ (cdR (cdR store_TakeA_c)) store_TakeA_h.r.r s (store_TakeA_fin n0k)
noncomputable def store_TakeA_r1 (m : Nat) (D : List Deferred) (n0k : Nat) (s : ASt) : RO := joinW Tryd.prog GG (store_TakeA_env m) m ⟨80,D⟩ (cdR (cdL (cdR store_TakeA_c))) store_TakeA_h.r.l.r s (seqX (fun s=>store_TakeA_r2 m D n0k ⟨s.H,[(1,gt s.T 1),(2,gt s.T 2),(4,gt s.T 4),(5,gt s.T 5),(6,gt s.T 6)]⟩) (store_TakeA_fin n0k))
noncomputable def store_TakeA (m : Nat) (D : List Deferred) (t0 t1 : AV) (H : List AObj) : RO := exec Tryd.prog GG (store_TakeA_env m) m ⟨80,D⟩ store_TakeA_c store_TakeA_h ⟨H,[(0,t0),(1,t1)]⟩ (store_TakeA_fin H.length)
theorem store_TakeA_r5_eq (m : Nat) (D : List Deferred) (n0 : Nat) (kc : ASt → RO) (kx : KO (AV × List AObj)) (H : List AObj) (t1 t2 t4 t5 t6 t20 t21 t22 : AV) : store_TakeA_r5 m D n0 kc kx ⟨H,[(1,t1),(2,t2),(4,t4),(5,t5),(6,t6),(20,t20),(21,t21),(22,t22)]⟩ =
 binE none false false .add t22 (V (.int .i64 1)) fun t39 =>
 backE n0 H [(1,t1),(2,t2),(4,t4),(5,t5),(6,t6),(20,t20),(21,t21),(22,t39)] kc := by
 refine (joinW_eq _ _ _ _ _ _ _ _ _).trans ?_
 kernel_rfl
theorem store_TakeA_r4_eq (m : Nat) (D : List Deferred) (n0 : Nat) (kc : ASt → RO) (kx : KO (AV × List AObj)) (H : List AObj) (t1 t2 t4 t5 t6 t7 t20 t21 t22 t36 : AV) : store_TakeA_r4 m D n0 kc kx ⟨H,[(1,t1),(2,t2),(4,t4),(5,t5),(6,t6),(7,t7),(20,t20),(21,t21),(22,t22),(36,t36)]⟩ =
 condE t36 (
  buildE (some pl_api_Store) (some zc_api_Store) [] fun t37 =>
  storeE 37 H t4 t37 fun H2 =>
  storeE 1 H2 t5 (V (.int .i64 1)) fun H3 =>
  storeE 1 H3 t6 t7 fun H4 =>
  kx .ret ⟨H4,[(1,t1),(2,t2),(4,t4),(5,t5),(6,t6)]⟩) (
  store_TakeA_r5 m D n0 kc kx ⟨H,[(1,t1),(2,t2),(4,t4),(5,t5),(6,t6),(20,t20),(21,t21),(22,t22)]⟩) := by
 refine (joinW_eq _ _ _ _ _ _ _ _ _).trans ?_
 kernel_rfl
theorem store_TakeA_r3_eq (m : Nat) (D : List Deferred) (n0k : Nat) (H : List AObj) (t1 t2 t4 t5 t6 : AV) : store_TakeA_r3 m D n0k ⟨H,[(1,t1),(2,t2),(4,t4),(5,t5),(6,t6)]⟩ =
 some (TU [t1,t2,t4,t5,t6],H) := by
 refine (joinW_eq _ _ _ _ _ _ _ _ _).trans ?_
 kernel_rfl
theorem store_TakeA_b1_eq (m : Nat) (D : List Deferred) (H : List AObj) (t1 t2 t4 t5 t6 t20 t21 t22 : AV) (kc : ASt → RO) (kx : KO (AV × List AObj)) : store_TakeA_b1 m D ⟨H,[(1,t1),(2,t2),(4,t4),(5,t5),(6,t6),(20,t20),(21,t21),(22,t22)]⟩ kc kx =
 binE none false false .lss t22 t21 fun t23 =>
 condE t23 (
  idxSE 6 H t20 t22 fun t25 =>
  loadE 6 H t25 fun t26 =>
  allocE (some zc_api_Edit) ty_api_Edit H fun t8 H2 =>
  storeE 6 H2 t8 t26 fun H3 =>
  fieldE (some (0,1)) t8 fun t27 =>
  loadE 1 H3 t27 fun t28 =>
  tellE (key_Is_t m [(ro H3 t28)]) [(ro H3 t28)] fun t29 =>
  unE .not t29 fun t30 =>
  condE t30 (
   store_TakeA_r4 m D H.length kc kx ⟨H3,[(1,t1),(2,t2),(4,t4),(5,t5),(6,t6),(7,t22),(20,t20),(21,t21),(22,t22),(36,(V (.bool true)))]⟩) (
   fieldE (some (1,5)) t8 fun t32 =>
   loadE 5 H3 t32 fun t33 =>
   tellE (value_May_t m [(ro H3 t33)]) [(ro H3 t33)] fun t34 =>
   unE .not t34 fun t35 =>
   store_TakeA_r4 m D H.length kc kx ⟨H3,[(1,t1),(2,t2),(4,t4),(5,t5),(6,t6),(7,t22),(20,t20),(21,t21),(22,t22),(36,t35)]⟩)) (
  kx (.exit 0) ⟨H,[(1,t1),(2,t2),(4,t4),(5,t5),(6,t6)]⟩) := by
 refine (bodyW_eq _ _ _ _ _ _ _ _ _ _ _ _).trans ?_
 kernel_rfl
theorem store_TakeA_r2_eq (m : Nat) (D : List Deferred) (n0k : Nat) (H : List AObj) (t1 t2 t4 t5 t6 : AV) : store_TakeA_r2 m D n0k ⟨H,[(1,t1),(2,t2),(4,t4),(5,t5),(6,t6)]⟩ =
 lenE false true H t1 fun t21 =>
 iterC m (store_TakeA_b1 m D) ⟨H,[(1,t1),(2,t2),(4,t4),(5,t5),(6,t6),(20,t1),(21,t21),(22,(V (.int .i64 0)))]⟩ (blockX 0 (seqX (fun s=>store_TakeA_r3 m D n0k ⟨s.H,[(1,gt s.T 1),(2,gt s.T 2),(4,gt s.T 4),(5,gt s.T 5),(6,gt s.T 6)]⟩) (store_TakeA_fin n0k))) := by
 refine (joinW_eq _ _ _ _ _ _ _ _ _).trans ?_
 kernel_rfl
theorem store_TakeA_r1_eq (m : Nat) (D : List Deferred) (n0k : Nat) (H : List AObj) (t1 t2 t4 t5 t6 t18 : AV) : store_TakeA_r1 m D n0k ⟨H,[(1,t1),(2,t2),(4,t4),(5,t5),(6,t6),(18,t18)]⟩ =
 condE t18 (
  buildE (some pl_api_Store) (some zc_api_Store) [] fun t19 =>
  storeE 37 H t4 t19 fun H2 =>
  storeE 1 H2 t5 (V (.int .i64 1)) fun H3 =>
  storeE 1 H3 t6 (V (.int .i64 0)) fun H4 =>
  none) (
  store_TakeA_r2 m D n0k ⟨H,[(1,t1),(2,t2),(4,t4),(5,t5),(6,t6)]⟩) := by
 refine (joinW_eq _ _ _ _ _ _ _ _ _).trans ?_
 kernel_rfl
theorem store_TakeA_eq (m : Nat) (D : List Deferred) (t0 t1 : AV) (H : List AObj) : store_TakeA m D t0 t1 H =
 boxE ty_api_Store H t0 fun t2 H2 =>
 allocE (some zc_api_Store) ty_api_Store H2 fun t4 H3 =>
 allocE (some zc_api_Errno) ty_api_Errno H3 fun t5 H4 =>
 allocE (some zc_int) ty_int H4 fun t6 H5 =>
 loadE 37 H5 t2 fun t11 =>
 tellE (store_May m (ro H5 t11)) [(ro H5 t11)] fun t12 =>
 unE .not t12 fun t13 =>
 condE t13 (
  store_TakeA_r1 m D H.length ⟨H5,[(1,t1),(2,t2),(4,t4),(5,t5),(6,t6),(18,(V (.bool true)))]⟩) (
  fieldE (some (32,1)) t2 fun t15 =>
  loadE 1 H5 t15 fun t16 =>
  binE none false false .eql t16 (V (.int .i64 2147483647)) fun t17 =>
  store_TakeA_r1 m D H.length ⟨H5,[(1,t1),(2,t2),(4,t4),(5,t5),(6,t6),(18,t17)]⟩) := by
 refine (nslX _ _ _ _ _ _ _ _ _).trans ?_
 kernel_rfl
theorem store_TakeA_hE (m : Nat) : EnvOk Tryd.prog GG (store_TakeA_env m) := (by
 intro f e h
 simp only [store_TakeA_env,Prod.mk.injEq,List.mem_cons,List.not_mem_nil,or_false] at h
 rcases h with ⟨rfl,rfl⟩|⟨rfl,rfl⟩|⟨rfl,rfl⟩
 ·exact store_May_ok m
 ·exact key_Is_ok m
 ·exact value_May_ok m)
end Go.Proofs.YtoeajbhlkccekaaDoor

namespace Go.Proofs.YtoeajbhlkccekaaDoor
open Go.RowKit
noncomputable def store_TakeX_c : Code := (cdR (cdL (endC 2 ((Tryd.f37.body).getD .skip))))
def store_TakeX_h : Hint := .n
noncomputable def store_TakeX_env (m : Nat) : Env := []
noncomputable abbrev store_TakeX_fin (n0 : Nat) : KO (AV × List AObj) := sltFK [0]
noncomputable def store_TakeX (m : Nat) (D : List Deferred) (t0 t1 t2 t4 : AV) (H : List AObj) : RO := exec Tryd.prog GG (store_TakeX_env m) m ⟨15,D⟩ store_TakeX_c store_TakeX_h ⟨H,[(0,t0),(1,t1),(2,t2),(4,t4)]⟩ (store_TakeX_fin H.length)
theorem store_TakeX_eq (m : Nat) (D : List Deferred) (t0 t1 t2 t4 : AV) (H : List AObj) : store_TakeX m D t0 t1 t2 t4 H =
 buildE (some pl_api_Store) (some zc_api_Store) [] fun t10 =>
 fieldE (some (0,1)) t4 fun t11 =>
 loadE 1 H t11 fun t12 =>
 fieldE (some (1,1)) t4 fun t13 =>
 loadE 1 H t13 fun t14 =>
 storeE 37 H t0 t10 fun H2 =>
 loadE 1 H2 t13 fun t8011 =>
 eqE t14 t8011 (
 loadE 1 H2 t11 fun t8012 =>
 eqE t12 t8012 (
 storeE 1 H2 t1 t12 fun H3 =>
 loadE 1 H3 t13 fun t8014 =>
 eqE t14 t8014 (
 storeE 1 H3 t2 t14 fun H4 =>
 some (TU [t0],H4)))) := by
 refine (sltX Tryd.prog GG (store_TakeX_env m) m ⟨15,D⟩ store_TakeX_c store_TakeX_h ⟨H,[(0,t0),(1,t1),(2,t2),(4,t4)]⟩ [0]).trans ?_
 kernel_rfl
theorem store_TakeX_hE (m : Nat) : EnvOk Tryd.prog GG (store_TakeX_env m) := (by intro f e h;cases h)
end Go.Proofs.YtoeajbhlkccekaaDoor

namespace Go.Proofs.YtoeajbhlkccekaaDoor
open Go.RowKit
attribute [local go_sem] tC_len tC_sure tC_ltA tC_lt1 tC_ro tC_take tC_all1 zcT_eq zcI_len zC_len zC_ltA zC_lt1 zC_sure zC_ro zC_take set_tl set_tv sc_tt sc_zt sc_tz sc_zz add16 tA_def lA_def natInt u_tl u_tv st_take st_ver st_ltA stC_len w_i64 ed_it u_nthM zcE0 zS_ltA zS_lt1 st_lt1
def takeG (ver : Int) : Nat → List Edt → Tr → Tr × Nat × Nat × List Edt
 |_,[],t=>(t,0,0,[])
 |k,x :: r,t=>if (oneT t x ver).2 = 0 then takeG ver (k + 1) r (oneT t x ver).1 else (t,(oneT t x ver).2,k,[x])
def overQ (s : St) (t : Tr) : Bool := decide (s.bytes < (weightT t : Int)) || decide (s.keys < (countT t : Int))
def finT (s : St) (v : Int) (n : Nat) (r : Tr × Nat × Nat × List Edt) : RO :=
 if r.2.1 = 0 then (if overQ s r.1 then some (TU [PN (noV 17 n),OP 1 0,OP 2 0,OP 3 0],tkH ⟨r.1,v,s.bytes,s.keys⟩)
  else some (TU [OP 1 0,OP 2 0,OP 3 0],[⟨1,ty_api_Store,0,stC ⟨r.1,v,s.bytes,s.keys⟩⟩,⟨1,ty_api_Store,0,stC ⟨r.1,v,s.bytes,s.keys⟩⟩,⟨1,ty_api_Errno,0,[nA 0]⟩,⟨1,ty_int,0,[nA 0]⟩]))
 else some (TU [PN (noV r.2.1 r.2.2.1),OP 1 0,OP 2 0,OP 3 0],tkH ⟨r.1,v,s.bytes,s.keys⟩ ++ r.2.2.2.map edO)
theorem one_inv {t : Tr} {x : Edt} {ver : Int} (h : TInv t) (hx : NumOk (x.it ver)) (he : (oneT t x ver).2 = 0) : TInv (oneT t x ver).1 := by
 unfold oneT at he ⊢
 by_cases hk : x.kind = 0
 ·rw [if_pos hk] at he ⊢
  cases hg : (getT t x.key).isSome with
  |false=>exact h
  |true =>
   rw [hg,if_pos rfl] at he
   exact (del_inv h he).1
 ·rw [if_neg hk] at he ⊢
  exact (put_inv h hx he).1
theorem st_setv {s : St} {v : Int} : (stC s).set 32 (V (.int .i64 v)) = stC { s with ver := v } := by
 unfold stC St.tail
 rw [List.set_append_right _ _ (by rw [tC_len];exact Nat.le_refl _),tC_len]
 rfl
theorem ed_lenE {x : Edt} : (cellsOf (flA Edt.cells x)).length = 4 := _root_.id rfl
theorem takeR_s (m : Nat) (D : List Deferred) (s : St) (l : List Edt) (hm : l.length < m) (hl : l.length ≤ 34359738368) (hi : TInv s.t) (hx : ∀ x ∈ l,NumOk (x.it 0)) (hv0 : 0 ≤ s.ver) (hv : s.ver < 2147483647) :
  store_TakeR m D (SL (l.map eA)) (OP 0 0) (OP 1 0) (OP 2 0) (OP 3 0) (tkH s) = finT s (s.ver + 1) l.length (takeG (s.ver + 1) 0 l s.t) := by
 rw [store_TakeR_eq]
 unfold tkH
 simp (config := {maxSteps := 4000000,implicitDefEqProofs := false}) (disch := omega) only [go_sem,st_setv]
 refine iter_go (ι := {p : Nat × Tr // p.1 ≤ l.length ∧ takeG (s.ver + 1) p.1 (l.drop p.1) p.2 = takeG (s.ver + 1) 0 l s.t ∧ TInv p.2}) (fun p=>⟨tkH ⟨p.1.2,s.ver + 1,s.bytes,s.keys⟩,[(1,SL (l.map eA)),(2,OP 0 0),(4,OP 1 0),(5,OP 2 0),(6,OP 3 0),(45,SL (l.map eA)),(46,nA l.length),(47,nA p.1.1)]⟩) (fun p=>l.length - p.1.1) (fun _=>finT s (s.ver + 1) l.length (takeG (s.ver + 1) 0 l s.t)) ?_ ⟨(0,s.t),Nat.zero_le _,rfl,hi⟩ (by dsimp only;omega)
 rintro kx hkx ⟨⟨k,t⟩,hk,htk,hit⟩ kc hkc
 dsimp only at hk htk hit hkc ⊢
 rw [store_TakeR_b1_eq]
 by_cases hlt : k < l.length
 ·have hlt' : (k : Int) < (l.length : Int) := by omega
  have hmem := List.getElem_mem hlt
  have hdr : l.drop k = l[k] :: l.drop (k + 1) := List.drop_eq_getElem_cons hlt
  have hO := one_s m t l[k] (s.ver + 1) k ⟨t,s.ver + 1,s.bytes,s.keys⟩ hit.ok
  have hn : NumOk (l[k].it (s.ver + 1)) := hx _ hmem
  rw [hdr,takeG] at htk
  unfold tkH edO at hO
  dsimp only [List.cons_append,List.nil_append] at hO
  rw [tA_def,show eA l[k] = _ from ed_it l[k]] at hO
  unfold tkH
  by_cases he : (oneT t l[k] (s.ver + 1)).2 = 0
  ·rw [if_pos he] at hO htk
   have step := hkc ⟨(k + 1,(oneT t l[k] (s.ver + 1)).1),by omega,htk,one_inv hit hn he⟩ (by dsimp only;omega)
   dsimp only at step
   unfold tkH at step
   rw [tA_def] at hO
   simp (config := {maxSteps := 4000000,implicitDefEqProofs := false}) (disch := omega) only [go_sem,hlt',ed_lenE,st_set,hO]
   exact step
  ·rw [if_neg he] at hO htk
   simp (config := {maxSteps := 4000000,implicitDefEqProofs := false}) (disch := omega) only [go_sem,hlt',ed_lenE,st_set,hO,hkx]
   rw [← htk,finT,if_neg he]
   rfl
 ·have hlt' : ¬ (k : Int) < (l.length : Int) := by omega
  have hkl : k = l.length := by omega
  subst hkl
  rw [List.drop_length,takeG] at htk
  rw [← htk,finT,if_pos rfl]
  unfold overQ tkH
  have hW := trunk_Weight_e m t hit.ok
  have hC := trunk_Count_e m t hit.ok
  rw [tA_def] at hW hC
  simp (config := {maxSteps := 4000000,implicitDefEqProofs := false}) (disch := omega) only [go_sem,hlt',hkx,store_TakeR_r1_eq,store_TakeR_r2_eq,store_TakeR_r3_eq,hW,hC,st_bytes,st_keys,st_sure,u_bNo,zS_len]
  by_cases h1 : s.bytes < (weightT t : Int)
  ·rw [if_pos h1,if_pos (by simp [h1])]
   rfl
  ·rw [if_neg h1]
   by_cases h2 : s.keys < (countT t : Int)
   ·rw [if_pos h2,if_pos (by simp [h2])]
    rfl
   ·rw [if_neg h2,if_neg (by simp [h1,h2]),st_take35,stC_len,st_sure,ss_zs]
    rfl
end Go.Proofs.YtoeajbhlkccekaaDoor

namespace Go.Proofs.YtoeajbhlkccekaaDoor
open Go.RowKit
attribute [local go_sem] tC_len tC_sure tC_ltA tC_lt1 tC_ro tC_take tC_all1 zcT_eq zcI_len zC_len zC_ltA zC_lt1 zC_sure zC_ro zC_take set_tl set_tv sc_tt sc_zt sc_tz sc_zz add16 tA_def lA_def natInt u_tl u_tv st_take35 st_take stC_len st_sure st_ltA st_lt1 st_ro zcS_eq zS_len zS_sure zS_take zS_ltA zS_ro zS_all1 ss_zs ss_zz u_bS0
def editB (x : Edt) : Bool := keyB x.key && valB x.kind x.i x.s
def takeBad : Nat → List Edt → Option Nat
 |_,[]=>none
 |k,x :: r=>if editB x then takeBad (k + 1) r else some k
theorem zcEr : zc_api_Errno = [V (.int .i64 0)] := _root_.id rfl
theorem zcIn : zc_int = [V (.int .i64 0)] := _root_.id rfl
theorem early_may (m : Nat) (s : St) (l : List Edt) (hm : 1000000 < m) (h : s.t.Ok) (hb : (mayS s && decide (s.ver ≠ 2147483647)) = false) : store_Take m (stA s) (SL (l.map eA)) = some (TU [stA St.zero,nA 1,nA 0],[]) := by
 rw [store_Take_eq]
 have hM := smay_s m s hm h
 rw [stA_def] at hM ⊢
 cases h1 : mayS s with
 |false =>
  rw [h1] at hM
  simp (config := {maxSteps := 4000000,implicitDefEqProofs := false}) (disch := omega) only [go_sem,st_ver,hM,zcEr,zcIn,stA_def,store_Take_r1_eq]
  try rfl
 |true =>
  rw [h1,Bool.true_and] at hb
  have hv : s.ver = 2147483647 := by simpa using hb
  rw [h1] at hM
  simp (config := {maxSteps := 4000000,implicitDefEqProofs := false}) (disch := omega) only [go_sem,st_ver,hM,hv,zcEr,zcIn,stA_def,store_Take_r1_eq]
  try rfl
theorem early_bad (m : Nat) (s : St) (l : List Edt) (hm : 1000000 < m) (hlm : l.length < m) (hl : l.length ≤ 34359738368) (h : s.t.Ok) (h1 : mayS s = true) (hv : s.ver ≠ 2147483647) (b : Nat) (hb : takeBad 0 l = some b) : store_Take m (stA s) (SL (l.map eA)) = some (TU [stA St.zero,nA 1,nA b],[]) := by
 rw [store_Take_eq]
 have hM := smay_s m s hm h
 rw [h1] at hM
 rw [stA_def] at hM ⊢
 simp (config := {maxSteps := 4000000,implicitDefEqProofs := false}) (disch := omega) only [go_sem,st_ver,hM,hv,zcEr,zcIn,store_Take_r1_eq,store_Take_r2_eq]
 refine iter_go (ι := {k : Nat // k ≤ l.length ∧ takeBad k (l.drop k) = some b}) (fun k=>⟨tkH s,[(1,SL (l.map eA)),(2,OP 0 0),(4,OP 1 0),(5,OP 2 0),(6,OP 3 0),(20,SL (l.map eA)),(21,nA l.length),(22,nA k.1)]⟩) (fun k=>l.length - k.1) (fun _=>some (TU [stA St.zero,nA 1,nA b],[])) ?_ ⟨0,Nat.zero_le _,hb⟩ (by dsimp only;omega)
 rintro kx hkx ⟨k,hk,htk⟩ kc hkc
 dsimp only at hkc ⊢
 rw [store_Take_b1_eq]
 unfold tkH
 by_cases hlt : k < l.length
 ·have hlt' : (k : Int) < (l.length : Int) := by omega
  rw [List.drop_eq_getElem_cons hlt,takeBad] at htk
  have hK := key_Is_e m l[k].key
  have hV := value_May_e m l[k].kind l[k].i l[k].s
  unfold editB at htk
  cases q1 : keyB l[k].key with
  |false =>
   rw [q1] at hK htk
   have : k = b := by simpa using htk
   subst this
   simp (config := {maxSteps := 4000000,implicitDefEqProofs := false}) (disch := omega) only [go_sem,hlt',u_nthM,ed_it,ed_lenE,zcE0,hK,store_Take_r4_eq,hkx,zcEr,zcIn,stA_def]
   try rfl
  |true =>
   rw [q1] at hK htk
   cases q2 : valB l[k].kind l[k].i l[k].s with
   |false =>
    rw [q2] at hV htk
    have : k = b := by simpa using htk
    subst this
    simp (config := {maxSteps := 4000000,implicitDefEqProofs := false}) (disch := omega) only [go_sem,hlt',u_nthM,ed_it,ed_lenE,zcE0,hK,hV,store_Take_r4_eq,hkx,zcEr,zcIn,stA_def]
    try rfl
   |true =>
    rw [q2] at hV htk
    have step := hkc ⟨k + 1,by omega,by simpa using htk⟩ (by dsimp only;omega)
    dsimp only at step
    unfold tkH at step
    simp (config := {maxSteps := 4000000,implicitDefEqProofs := false}) (disch := omega) only [go_sem,hlt',u_nthM,ed_it,ed_lenE,zcE0,hK,hV,store_Take_r4_eq,store_Take_r5_eq,w_i64,zS_lt1]
    exact step
 ·have hkl : k = l.length := by omega
  subst hkl
  rw [List.drop_length] at htk
  cases htk
theorem takeA_s (m : Nat) (s : St) (l : List Edt) (hm : 1000000 < m) (hlm : l.length < m) (hl : l.length ≤ 34359738368) (h : s.t.Ok) (h1 : mayS s = true) (hv : s.ver ≠ 2147483647) (hb : takeBad 0 l = none) : store_TakeA m [] (stA s) (SL (l.map eA)) [] = some (TU [SL (l.map eA),OP 0 0,OP 1 0,OP 2 0,OP 3 0],tkH s) := by
 rw [store_TakeA_eq]
 have hM := smay_s m s hm h
 rw [h1] at hM
 rw [stA_def] at hM ⊢
 simp (config := {maxSteps := 4000000,implicitDefEqProofs := false}) (disch := omega) only [go_sem,st_ver,hM,hv,zcEr,zcIn,store_TakeA_r1_eq,store_TakeA_r2_eq]
 refine iter_go (ι := {k : Nat // k ≤ l.length ∧ takeBad k (l.drop k) = none}) (fun k=>⟨tkH s,[(1,SL (l.map eA)),(2,OP 0 0),(4,OP 1 0),(5,OP 2 0),(6,OP 3 0),(20,SL (l.map eA)),(21,nA l.length),(22,nA k.1)]⟩) (fun k=>l.length - k.1) (fun _=>some (TU [SL (l.map eA),OP 0 0,OP 1 0,OP 2 0,OP 3 0],tkH s)) ?_ ⟨0,Nat.zero_le _,hb⟩ (by dsimp only;omega)
 rintro kx hkx ⟨k,hk,htk⟩ kc hkc
 dsimp only at hkc ⊢
 rw [store_TakeA_b1_eq]
 unfold tkH
 by_cases hlt : k < l.length
 ·have hlt' : (k : Int) < (l.length : Int) := by omega
  rw [List.drop_eq_getElem_cons hlt,takeBad] at htk
  have hK := key_Is_e m l[k].key
  have hV := value_May_e m l[k].kind l[k].i l[k].s
  unfold editB at htk
  cases q1 : keyB l[k].key with
  |false=>rw [q1] at htk;simp at htk
  |true =>
   rw [q1] at hK htk
   cases q2 : valB l[k].kind l[k].i l[k].s with
   |false=>rw [q2] at htk;simp at htk
   |true =>
    rw [q2] at hV htk
    have step := hkc ⟨k + 1,by omega,by simpa using htk⟩ (by dsimp only;omega)
    dsimp only at step
    unfold tkH at step
    simp (config := {maxSteps := 4000000,implicitDefEqProofs := false}) (disch := omega) only [go_sem,hlt',u_nthM,ed_it,ed_lenE,zcE0,hK,hV,store_TakeA_r3_eq,store_TakeA_r4_eq,store_TakeA_r5_eq,w_i64,zS_lt1]
    exact step
 ·have hlt' : ¬ (k : Int) < (l.length : Int) := by omega
  simp (config := {maxSteps := 4000000,implicitDefEqProofs := false}) (disch := omega) only [go_sem,hlt',hkx,store_TakeA_r3_eq]
end Go.Proofs.YtoeajbhlkccekaaDoor

namespace Go.Proofs.YtoeajbhlkccekaaDoor
open Go.RowKit
noncomputable def dC : Code := (Tryd.f10.body).getD .skip
theorem noE : EnvOk Tryd.prog GG [] := fun f e h=>by cases h
def dD (p0 p1 p2 : Value) : Deferred := { target := .fn (.func 37) #[p0,p1,p2],args := #[] }
theorem dB {p0 p1 p2 : Value} {a : Act} {w : World} {Q : Exit → Act → World → Prop} (h2 : a.eval (.tmp 4) = p0) (h3 : a.eval (.tmp 5) = p1) (h4 : a.eval (.tmp 6) = p2) (hd : a.defers = []) (hs : a.tmps.size = 80)
  (hQ : ∀ v : Value,Q .normal { (a.put (some 40) v) with defers := [dD p0 p1 p2] } w) : (cdL (endC 3 dC)).wp Tryd.prog Q a w := by
 show (Code.region _ _ false).wp Tryd.prog Q a w
 refine wp_region_list ?_
 have hmf : ∀ (fn : Fn) (first cap : Array Value) (w : World),(Instr.makeFunc fn first cap).run Tryd.prog w = .ok (.func fn first cap) w := fun _ _ _ _=>rfl
 have h2' : a.tmps[4]?.getD undef = p0 := by rw [← h2];simp [Act.eval]
 have h3' : a.tmps[5]?.getD undef = p1 := by rw [← h3];simp [Act.eval]
 have h4' : a.tmps[6]?.getD undef = p2 := by rw [← h4];simp [Act.eval]
 have hq := hQ (.func (.func 37) #[] #[p0,p1,p2])
 simp only [Act.put,dD] at hq
 simp [wpList,go_sem,Oper.wp,Oper.upon,execOp,hmf,h2',h3',h4',hs,hd,Region.wanted]
 have g2 : a.tmps[4]'(by omega) = p0 := by rw [← h2'];simp [hs]
 have g3 : a.tmps[5]'(by omega) = p1 := by rw [← h3'];simp [hs]
 have g4 : a.tmps[6]'(by omega) = p2 := by rw [← h4'];simp [hs]
 refine .inl (.inl ?_)
 rw [g2,g3,g4]
 exact hq
theorem catch_idle (p0 p1 p2 : Value) (w : World) :
  CallsD Tryd.prog 37 #[p0,p1,p2] .returning w fun e u' w'=>e = .returned (.tuple #[]) ∧ u' = .returning ∧ w' = w := by
 refine callsD_of_wpS Tryd.func37 rfl fun c₀ cs hu=>?_
 apply wpS_seq
 apply wpS_region
 simp [wpOpsS,go_sem,recoverD,hu,Tryd.ntmps37,Exit.thenS]
 apply wpS_seq
 apply wpS_region
 simp [wpOpsS,go_sem,Exit.thenS]
 refine wpS_cond (t := false) (by simp [Act.eval]) ?_
 simp only [Bool.false_eq_true,if_false]
 refine wpS_of_wp (wp_skip ?_)
 cases c₀
 simp_all [bodyPostS,results,Tryd.results37]
theorem wpList_val {P : Program} {ops : Array Oper} {Q : Exit → Act → World → Prop} {o : Oper} {rest : List Oper} {a : Act} {w : World} (v : Value) (hg : o.guard = none) (hx : (execOp a.eval o).run P w = .ok (.value v) w) (h : wpList P ops Q rest (a.put o.dst v) w) : wpList P ops Q (o :: rest) a w := by
 unfold wpList
 rw [if_pos (by simp [Region.wanted,hg])]
 refine .inl ?_
 unfold Oper.wp
 rw [hx]
 exact h
theorem ud_no : (match Tryd.prog.underlying 74 with|some (.interface _)=>false|some _=>true|none=>false) = true := by kernel_rfl
theorem run_assert (x : Value) (w : World) : (Instr.typeAssert (.iface 74 x) 20 74 false).run Tryd.prog w = .ok x w := by
 have h := ud_no
 cases hd : Tryd.prog.underlying 74 with
 |none=>rw [hd] at h;cases h
 |some d =>
  rw [hd] at h
  unfold Instr.typeAssert
  simp only [Sem.run_bind,run_underlying hd,Result.andThen_ok]
  cases d with
  |interface m=>cases h
  |_=>simp [Sem.run_pure]
noncomputable def eC : Code := (Tryd.f37.body).getD .skip
noncomputable def oC (k : Nat) : List Oper := (match cdL (cdL (endC 2 eC)) with|.region _ ops _=>ops.toList|_=>[]).drop k
theorem takeX_s (m : Nat) {c0 : List AV} {R3 : AObj} {tE tA tX : TypeId} (e0 a0 : Nat) (hc : c0.length = 35) :
  store_TakeX m [] (OP 1 0) (OP 2 0) (OP 3 0) (OP 4 0) [R3,⟨1,ty_api_Store,0,c0⟩,⟨1,tE,0,[nA 0]⟩,⟨1,tA,0,[nA 0]⟩,⟨1,tX,0,[nA e0,nA a0]⟩] = some (TU [OP 1 0],[R3,⟨1,ty_api_Store,0,zS⟩,⟨1,tE,0,[nA e0]⟩,⟨1,tA,0,[nA a0]⟩,⟨1,tX,0,[nA e0,nA a0]⟩]) := by
 have hS : setCells c0 0 zS = zS := set_all (by rw [hc,zS_len])
 have h8 : 35 ≤ c0.length := by omega
 rw [store_TakeX_eq]
 simp (config := {maxSteps := 4000000,implicitDefEqProofs := false}) (disch := omega) only [go_sem,hS,h8,hc,u_eqE,zcS_eq,u_bS0,zS_sure,zS_len,zS_take]
theorem eB {p0 p1 p2 : Value} {e0 a0 : Nat} {w : World} {S : SS} {μ : List Value} {c0 : List AV} {R3 : AObj} {a : Act} (hg : GOk GG S) (hr : Rel w S μ [R3,⟨1,ty_api_Store,0,c0⟩,⟨1,32,0,[nA 0]⟩,⟨1,3,0,[nA 0]⟩]) (hc : c0.length = 35) (h0 : rep S μ (OP 1 0) p0) (h1 : rep S μ (OP 2 0) p1) (h2 : rep S μ (OP 3 0) p2)
  (ha : a.tmps.size = 15) (hd : a.defers = []) (g0 : a.tmps.getD 0 undef = p0) (g1 : a.tmps.getD 1 undef = p1) (g2 : a.tmps.getD 2 undef = p2) (g3 : a.tmps.getD 3 undef = noV e0 a0) :
  (cdL (endC 2 eC)).wp Tryd.prog (fun e a' w'=>(e = .normal ∨ e = .ret) ∧ a'.defers = [] ∧ ∃ S' μ',Rel w' S' μ' [R3,⟨1,ty_api_Store,0,zS⟩,⟨1,32,0,[nA e0]⟩,⟨1,3,0,[nA a0]⟩,⟨1,74,0,[nA e0,nA a0]⟩] ∧ Step 4 w S μ [R3,⟨1,ty_api_Store,0,c0⟩,⟨1,32,0,[nA 0]⟩,⟨1,3,0,[nA 0]⟩] w' S' μ' [R3,⟨1,ty_api_Store,0,zS⟩,⟨1,32,0,[nA e0]⟩,⟨1,3,0,[nA a0]⟩,⟨1,74,0,[nA e0,nA a0]⟩]) a w := by
 have ec : cdL (endC 2 eC) = .seq (cdL (cdL (endC 2 eC))) (cdR (cdL (endC 2 eC))) := by kernel_rfl
 rw [ec]
 have key2 := exec_ok (n := 4) (M := 0) MIX (store_TakeX_hE 0) store_TakeX_c store_TakeX_h _ _ (by simp) (takeX_s (R3 := R3) (tE := 32) (tA := 3) (tX := 74) 0 e0 a0 hc)
 refine wp_seq (wp_mono (Q := Lift ⟨15,[]⟩ 4 w S μ [R3,⟨1,ty_api_Store,0,c0⟩,⟨1,32,0,[nA 0]⟩,⟨1,3,0,[nA 0]⟩] (fun e s=>e = .normal ∧ Aft (fun s=>some (get s.T 0,get s.T 1,get s.T 2,get s.T 4,s.H)) (OP 1 0,OP 2 0,OP 3 0,OP 4 0,[R3,⟨1,ty_api_Store,0,c0⟩,⟨1,32,0,[nA 0]⟩,⟨1,3,0,[nA 0]⟩,⟨1,74,0,[nA e0,nA a0]⟩]) s)) ?_ fun e a' w' hL=>?_)
 rotate_left
 ·obtain ⟨s1,S1,μ1,⟨rfl,T2,hT,hq⟩,hr1,hf1,hst1⟩ := hL
  injection hq with hq
  injection hq with q0 hq
  injection hq with q1 hq
  injection hq with q2 hq
  injection hq with q4 hH
  obtain ⟨H1,T1⟩ := s1
  dsimp only at q0 q1 q2 q4 hH hT hr1 hf1 hst1
  subst hH
  have hf2 : Fr S1 μ1 ⟨15,[]⟩ [(0,OP 1 0),(1,OP 2 0),(2,OP 3 0),(4,OP 4 0)] a' := by
   refine ⟨hf1.size,hf1.nodef,fun i=>?_⟩
   by_cases i0 : i = 0
   ·subst i0
    have := hf1.slot 0
    rw [hT 0,q0] at this;exact this
   by_cases i1 : i = 1
   ·subst i1
    have := hf1.slot 1
    rw [hT 1,q1] at this;exact this
   by_cases i2 : i = 2
   ·subst i2
    have := hf1.slot 2
    rw [hT 2,q2] at this;exact this
   by_cases i4 : i = 4
   ·subst i4
    have := hf1.slot 4
    rw [hT 4,q4] at this;exact this
   ·have : get ([(0,OP 1 0),(1,OP 2 0),(2,OP 3 0),(4,OP 4 0)] : Tm) i = .nil := by
     simp only [_root_.Go.Proofs.YtoeajbhlkccekaaDoor.get]
     rw [if_neg (Ne.symm i0),if_neg (Ne.symm i1),if_neg (Ne.symm i2),if_neg (Ne.symm i4)]
    rw [this];exact rep_any _ _ _
  refine wp_mono (key2 w' S1 μ1 a' hr1 hf2 (hg.ext hst1.still)) ?_
  rintro e2 a2 w2 ⟨s2,S2,μ2,hq2,hr2,hf3,hst2⟩
  have fin : (some (TU (sltK s2.T [0]),s2.H) : RO) = some (TU [OP 1 0],[R3,⟨1,ty_api_Store,0,zS⟩,⟨1,32,0,[nA e0]⟩,⟨1,3,0,[nA a0]⟩,⟨1,74,0,[nA e0,nA a0]⟩]) → a2.defers = [] ∧ ∃ S' μ',Rel w2 S' μ' [R3,⟨1,ty_api_Store,0,zS⟩,⟨1,32,0,[nA e0]⟩,⟨1,3,0,[nA a0]⟩,⟨1,74,0,[nA e0,nA a0]⟩] ∧ Step 4 w S μ [R3,⟨1,ty_api_Store,0,c0⟩,⟨1,32,0,[nA 0]⟩,⟨1,3,0,[nA 0]⟩] w2 S' μ' [R3,⟨1,ty_api_Store,0,zS⟩,⟨1,32,0,[nA e0]⟩,⟨1,3,0,[nA a0]⟩,⟨1,74,0,[nA e0,nA a0]⟩] := by
   intro h
   injection h with h
   injection h with _ h
   obtain ⟨H2,T2⟩ := s2
   dsimp only at h hr2 hf3 hst2
   subst h
   exact ⟨hf3.nodef,S2,μ2,hr2,hst1.trans hst2⟩
  cases e2 with
  |normal=>exact ⟨.inl rfl,fin hq2⟩
  |ret=>exact ⟨.inr rfl,fin hq2⟩
  |exit id=>cases hq2
  |goto l=>cases hq2
  |panic ch =>
   obtain ⟨u,_,hq2⟩ := chE_some (K := fun u=>some (TU (PN u :: sltK s2.T [0]),s2.H)) hq2
   injection hq2 with hq2
   injection hq2 with hq2 _
   simp at hq2
  |outgrown=>cases hq2
 show (Code.region _ _ false).wp Tryd.prog _ a w
 refine wp_region_list ?_
 refine wpList_val (noV e0 a0) rfl (by rw [← g3];simp [execOp,go_sem,Act.eval]) ?_
 refine wpList_val (.agg #[.int .i64 e0, .int .i64 a0]) rfl (by
  have : (a.put (some 8) (noV e0 a0)).eval (.tmp 8) = noV e0 a0 := by simp [Act.put,Act.eval,ha]
  have hA := run_assert (.agg #[.int .i64 e0, .int .i64 a0]) w
  simp [execOp,go_sem,ha,noV,hA]) ?_
 generalize hb : (a.put (some 8) (noV e0 a0)).put (some 9) (.agg #[.int .i64 e0, .int .i64 a0]) = b
 have hbs : b.tmps.size = 15 := by rw [← hb];simp [Act.put,ha]
 have hbd : b.defers = [] := by rw [← hb];simp [Act.put,hd]
 have hb0 : b.tmps.getD 0 undef = p0 := by rw [← hb,← g0];simp [Act.put,ha]
 have hb1 : b.tmps.getD 1 undef = p1 := by rw [← hb,← g1];simp [Act.put,ha]
 have hb2 : b.tmps.getD 2 undef = p2 := by rw [← hb,← g2];simp [Act.put,ha]
 have hb9 : b.tmps.getD 9 undef = .agg #[.int .i64 e0, .int .i64 a0] := by rw [← hb];simp [Act.put,ha]
 have hf : Fr S μ ⟨15,[]⟩ [(0,OP 1 0),(1,OP 2 0),(2,OP 3 0),(9, .agg [nA e0,nA a0])] b := by
  refine ⟨hbs,hbd,fun i=>?_⟩
  by_cases q0 : i = 0
  ·subst q0;rw [hb0];exact h0
  by_cases q1 : i = 1
  ·subst q1;rw [hb1];exact h1
  by_cases q2 : i = 2
  ·subst q2;rw [hb2];exact h2
  by_cases q9 : i = 9
  ·subst q9;rw [hb9]
   refine ⟨[.int .i64 e0, .int .i64 a0],rfl,rfl,fun j d u hd hu=>?_⟩
   rcases j with _|_|j
   ·cases hd;cases hu;exact ⟨rfl,rfl,rfl⟩
   ·cases hd;cases hu;exact ⟨rfl,rfl,rfl⟩
   ·cases hd
  ·have : get ([(0,OP 1 0),(1,OP 2 0),(2,OP 3 0),(9, .agg [nA e0,nA a0])] : Tm) i = .nil := by
    simp only [_root_.Go.Proofs.YtoeajbhlkccekaaDoor.get]
    rw [if_neg (Ne.symm q0),if_neg (Ne.symm q1),if_neg (Ne.symm q2),if_neg (Ne.symm q9)]
   rw [this];exact rep_any _ _ _
 have hx : runE Tryd.prog GG [] false (oC 0) [] (oC 2) ⟨[R3,⟨1,ty_api_Store,0,c0⟩,⟨1,32,0,[nA 0]⟩,⟨1,3,0,[nA 0]⟩],[(0,OP 1 0),(1,OP 2 0),(2,OP 3 0),(9, .agg [nA e0,nA a0])]⟩ (fun s=>some (get s.T 0,get s.T 1,get s.T 2,get s.T 4,s.H)) = some (OP 1 0,OP 2 0,OP 3 0,OP 4 0,[R3,⟨1,ty_api_Store,0,c0⟩,⟨1,32,0,[nA 0]⟩,⟨1,3,0,[nA 0]⟩,⟨1,74,0,[nA e0,nA a0]⟩]) := by kernel_rfl
 have hro := runE_ok noE (TEq.refl _) SkOk.nil hx
 have hfit : fits (15 : Nat) (oC 2) = true := by kernel_rfl
 have key := runOps_wp (N := ⟨15,[]⟩) (n := 4) (Q := fun e s=>e = .normal ∧ Aft (fun s=>some (get s.T 0,get s.T 1,get s.T 2,get s.T 4,s.H)) (OP 1 0,OP 2 0,OP 3 0,OP 4 0,[R3,⟨1,ty_api_Store,0,c0⟩,⟨1,32,0,[nA 0]⟩,⟨1,3,0,[nA 0]⟩,⟨1,74,0,[nA e0,nA a0]⟩]) s) (fun s q=>⟨rfl,q⟩) (H0 := [R3,⟨1,ty_api_Store,0,c0⟩,⟨1,32,0,[nA 0]⟩,⟨1,3,0,[nA 0]⟩]) (by simp) hr.len _ _ hro hfit w S μ b hr hf hg (Step.refl _ _ _ _ _)
 exact key
theorem catch_pan (p0 p1 p2 : Value) (e0 a0 : Nat) (older : List PanicEntry) (w : World) {S : SS} {μ : List Value} {c0 : List AV} {R3 : AObj} (hg : GOk GG S) (hr : Rel w S μ [R3,⟨1,ty_api_Store,0,c0⟩,⟨1,32,0,[nA 0]⟩,⟨1,3,0,[nA 0]⟩]) (hc : c0.length = 35) (h0 : rep S μ (OP 1 0) p0) (h1 : rep S μ (OP 2 0) p1) (h2 : rep S μ (OP 3 0) p2) :
  CallsD Tryd.prog 37 #[p0,p1,p2] (.panicking ({ v := noV e0 a0,recovered := false } :: older)) w fun e u' w'=>e = .returned (.tuple #[]) ∧ u' = .panicking ({ v := noV e0 a0,recovered := true } :: older) ∧
   ∃ S' μ',Rel w' S' μ' [R3,⟨1,ty_api_Store,0,zS⟩,⟨1,32,0,[nA e0]⟩,⟨1,3,0,[nA a0]⟩,⟨1,74,0,[nA e0,nA a0]⟩] ∧ Step 4 w S μ [R3,⟨1,ty_api_Store,0,c0⟩,⟨1,32,0,[nA 0]⟩,⟨1,3,0,[nA 0]⟩] w' S' μ' [R3,⟨1,ty_api_Store,0,zS⟩,⟨1,32,0,[nA e0]⟩,⟨1,3,0,[nA a0]⟩,⟨1,74,0,[nA e0,nA a0]⟩] := by
 refine callsD_of_wpS Tryd.func37 rfl fun c₀ cs hu=>?_
 apply wpS_seq
 apply wpS_region
 simp [wpOpsS,go_sem,recoverD,hu,noV,Tryd.ntmps37,Exit.thenS]
 apply wpS_seq
 apply wpS_region
 simp [wpOpsS,go_sem,Exit.thenS]
 refine wpS_cond (t := true) (by simp [Act.eval]) ?_
 simp only [if_true]
 refine wpS_of_wp ?_
 refine wp_mono (eB (e0 := e0) (a0 := a0) hg hr hc h0 h1 h2 (by simp) rfl (by simp) (by simp) (by simp) (by simp [noV])) ?_
 rintro e a' w' ⟨he,hd,hS⟩
 have hv : (results Tryd.f37 a'.tmps).run Tryd.prog w' = .ok (.tuple #[]) w' := by simp [results,Tryd.results37]
 rcases he with rfl|rfl
 ·exact ⟨hd,_,rfl, .tuple #[],hv,rfl,rfl,hS⟩
 ·exact ⟨hd,_,rfl, .tuple #[],hv,rfl,rfl,hS⟩
theorem ld_of {k : Nat} {H : List AObj} {x d : AV} {K : AV → Prop} (h : loadE k H x (fun d=>some d) = some d) (hK : K d) : aLoad k H x K := aLoad_mono (fun d' e=>by injection e with e;subst e;exact hK) (loadE_ok h)
theorem TU_inj {a b : List AV} (h : TU a = TU b) : a = b := by
 injection h with _ h
 injection h
theorem cut0 {w : World} {S : SS} {μ : List Value} {H : List AObj} : Step 0 w S μ H w S [] [] := ⟨rfl,rfl,rfl,Nat.le_refl _,fun _ _ _=>rfl,fun _ _ _ h=>h,fun i x hi _=>absurd hi (Nat.not_lt_zero i),fun _ _ _ h _=>.inl h,fun b k _=>by obtain ⟨i,x,o,hx,_⟩ := k;simp at hx⟩
end Go.Proofs.YtoeajbhlkccekaaDoor

namespace Go.Proofs.YtoeajbhlkccekaaDoor
open Go.RowKit
def takeS (s : St) (l : List Edt) : St × Nat × Nat :=
 if (mayS s && decide (s.ver ≠ 2147483647)) = false then (St.zero,1,0)
 else match takeBad 0 l with
  |some b=>(St.zero,1,b)
  |none=>if (takeG (s.ver + 1) 0 l s.t).2.1 = 0 then (if overQ s (takeG (s.ver + 1) 0 l s.t).1 then (St.zero,17,l.length) else (⟨(takeG (s.ver + 1) 0 l s.t).1,s.ver + 1,s.bytes,s.keys⟩,0,0))
   else (St.zero,(takeG (s.ver + 1) 0 l s.t).2.1,(takeG (s.ver + 1) 0 l s.t).2.2.1)
def takV (r : St × Nat × Nat) : AV := TU [stA r.1,nA r.2.1,nA r.2.2]
theorem tkH_ok (s : St) : (tkH s).all (ltO 4) = true := by
 have h1 : (stC s).all (ltA 4) = true := st_ltA
 have h2 : zS.all (ltA 4) = true := zS_ltA
 simp only [tkH,List.all_cons,List.all_nil,ltO,h1,h2]
 rfl
theorem ld_st {R0 : AObj} {cs : List AV} {H3 : List AObj} {e a : Int} (hc : cs.length = 35) (hs : cs.all sure = true) : loadE 37 (R0 :: ⟨1,ty_api_Store,0,cs⟩ :: ⟨1,32,0,[nA e]⟩ :: ⟨1,3,0,[nA a]⟩ :: H3) (OP 1 0) (fun d=>some d) = some (.agg cs) := by
 have ht : cs.take 35 = cs := List.take_of_length_le (by omega)
 simp (config := {maxSteps := 4000000,implicitDefEqProofs := false}) (disch := omega) only [go_sem,hc,ht,hs]
theorem res3 {T : Tm} {R0 : AObj} {cs : List AV} {H3 : List AObj} {e a : Int} (hc : cs.length = 35) (hs : cs.all sure = true) (g2 : get T 4 = OP 1 0) (g3 : get T 5 = OP 2 0) (g4 : get T 6 = OP 3 0) :
  resC Tryd.prog (R0 :: ⟨1,ty_api_Store,0,cs⟩ :: ⟨1,32,0,[nA e]⟩ :: ⟨1,3,0,[nA a]⟩ :: H3) T [.cell 4 28, .cell 5 32, .cell 6 3] (fun ds=>oneOf ds = TU [noT (.agg cs),noT (nA e),noT (nA a)]) := by
 rw [rC_cell,g2]
 refine ld_of (d := .agg cs) (by
  have : kindT Tryd.prog 28 = 37 := by kernel_rfl
  rw [this]
  exact ld_st hc hs) ?_
 rw [rC_cell,g3]
 refine ld_of (d := nA e) (by kernel_rfl) ?_
 rw [rC_cell,g4]
 refine ld_of (d := nA a) (by kernel_rfl) ?_
 rw [rC_nil]
 rfl
theorem takV_zero {e a : Nat} {H : List AObj} : ro H (TU [noT (.agg zS),noT (nA e),noT (nA a)]) = takV (St.zero,e,a) := by
 show (TU [roA H (.agg zS),roA H (nA e),roA H (nA a)] : AV) = _
 show (TU [.agg (zS.map (ro1 H)),_,_] : AV) = _
 rw [zS_ro]
 rfl
theorem takV_ok {u : St} {H : List AObj} : ro H (TU [noT (.agg (stC u)),noT (nA 0),noT (nA 0)]) = takV (u,0,0) := by
 show (TU [.agg ((stC u).map (ro1 H)),_,_] : AV) = _
 rw [st_ro]
 rfl
theorem takV_lt {r : St × Nat × Nat} : ltT 0 (takV r) = true := by
 have h1 : ltT 0 (stA r.1) = true := by
  show (stC r.1).all (lt1 0) = true
  exact st_lt1
 show ([stA r.1,nA r.2.1,nA r.2.2].all fun x=>ltA 0 x) = true
 simp only [List.all_cons,List.all_nil,Bool.and_true]
 rw [show ltA 0 (stA r.1) = true from h1]
 rfl
abbrev T5 (l : List Edt) : Tm := [(1,SL (l.map eA)),(2,OP 0 0),(4,OP 1 0),(5,OP 2 0),(6,OP 3 0)]
theorem slt_some {rs : List Tmp} {e : Exit} {s : ASt} {X : AV} {H' : List AObj} (h : sltFK rs e s = some (X,H')) : ((e = .normal ∨ e = .ret) ∧ X = TU (sltK s.T rs) ∧ s.H = H') ∨ (∃ u,e = .panic (pch u) ∧ X = TU (PN u :: sltK s.T rs) ∧ s.H = H') := by
 cases e with
 |normal=>cases h;exact .inl ⟨.inl rfl,rfl,rfl⟩
 |ret=>cases h;exact .inl ⟨.inr rfl,rfl,rfl⟩
 |exit id=>cases h
 |goto l=>cases h
 |panic ch =>
  obtain ⟨u,rfl,h⟩ := chE_some (K := fun u=>some (TU (PN u :: sltK s.T rs),s.H)) h
  cases h
  exact .inr ⟨u,rfl,rfl,rfl⟩
 |outgrown=>cases h
section
variable {s u : St} {l : List Edt} {a2 : Act} {w w1 : World} {S S1 : SS} {μ1 : List Value} {p0 p1 p2 : Value} {M : Nat}
theorem hinvk (w' : World) : (invoke (.fn (.func 37) #[p0,p1,p2]) #[]).run Tryd.prog w' = .ok (.enter 37 #[p0,p1,p2]) w' := by simp [go_sem]
theorem tail_ok (hr1 : Rel w1 S1 μ1 (tkH s)) (hf2 : Fr S1 μ1 ⟨80,[dD p0 p1 p2]⟩ (T5 l) a2) (hg1 : GOk GG S1) (hst1 : Step 0 w S [] [] w1 S1 μ1 (tkH s))
  (hR : store_TakeR M [dD p0 p1 p2] (SL (l.map eA)) (OP 0 0) (OP 1 0) (OP 2 0) (OP 3 0) (tkH s) = some (TU [OP 1 0,OP 2 0,OP 3 0],[⟨1,ty_api_Store,0,stC u⟩,⟨1,ty_api_Store,0,stC u⟩,⟨1,ty_api_Errno,0,[nA 0]⟩,⟨1,ty_int,0,[nA 0]⟩])) :
  (endC 4 dC).wp Tryd.prog (bodyPostD Tryd.prog Tryd.f10 (CPost w S [] [] fun r H'=>r = takV (u,0,0) ∧ H' = [])) a2 w1 := by
 have key := exec_ok (n := 0) (M := M) MIX (store_TakeR_hE M) store_TakeR_c store_TakeR_h _ _ (Nat.zero_le _) hR
 refine wp_mono (key w1 S1 μ1 a2 hr1 hf2 hg1) ?_
 rintro e a3 w3 ⟨⟨H3,T3⟩,S3,μ3,hq3,hr3,hf3,hst3⟩
 rcases slt_some hq3 with ⟨he,h,hH⟩|⟨v,_,h,_⟩
 ·dsimp only at hr3 hf3 hst3 hH
  subst hH
  have h := TU_inj h
  rw [sltK_eq] at h
  injection h with g2 h
  injection h with g3 h
  injection h with g4 _
  have hd : a3.defers = [dD p0 p1 p2] := hf3.nodef
  have fin : Leaves Tryd.prog Tryd.f10 a3.tmps (CPost w S [] [] fun r H'=>r = takV (u,0,0) ∧ H' = []) a3.defers .returning w3 := by
   rw [hd]
   refine leaves_cons (f := 37) (args := #[p0,p1,p2]) (by simp) (hinvk w3) ?_
   refine (catch_idle p0 p1 p2 w3).mono ?_
   rintro e u' w4 ⟨rfl,rfl,rfl⟩
   show Leaves Tryd.prog _ a3.tmps _ [] (settle .returning) w4
   have hs : settle .returning = .returning := rfl
   rw [hs]
   obtain ⟨y,r,hrun,hrep,rfl⟩ := resultsC_run (P := Tryd.prog) (fn := Tryd.f10) (K := fun r=>r = TU [noT (.agg (stC u)),noT (nA 0),noT (nA 0)]) rfl hr3 hf3 (resC_mono (fun ds e=>e) (res3 (stC_len u) st_sure g2.symm g3.symm g4.symm))
   have hro := hrep.toRo hr3
   rw [takV_ok] at hro
   exact ⟨y,hrun,y,_,[],S3,[],rfl,⟨rfl,rfl⟩,hr3.le (H' := []) trivial rfl,hro.take (n := 0) takV_lt,(hst1.trans hst3).trans cut0⟩
  rcases he with rfl|rfl
  ·exact fin
  ·exact fin
 ·exfalso
  have h := congrArg List.length (TU_inj h)
  try rw [List.length_cons] at h
  rw [sltK_eq] at h
  simp at h
theorem tail_pan {e0 a0 : Nat} {Y : List AObj} (hr1 : Rel w1 S1 μ1 (tkH s)) (hf2 : Fr S1 μ1 ⟨80,[dD p0 p1 p2]⟩ (T5 l) a2) (hg1 : GOk GG S1) (hst1 : Step 0 w S [] [] w1 S1 μ1 (tkH s)) (r4 : rep S1 μ1 (OP 1 0) p0) (r5 : rep S1 μ1 (OP 2 0) p1) (r6 : rep S1 μ1 (OP 3 0) p2)
  (hR : store_TakeR M [dD p0 p1 p2] (SL (l.map eA)) (OP 0 0) (OP 1 0) (OP 2 0) (OP 3 0) (tkH s) = some (TU [PN (noV e0 a0),OP 1 0,OP 2 0,OP 3 0],tkH u ++ Y)) :
  (endC 4 dC).wp Tryd.prog (bodyPostD Tryd.prog Tryd.f10 (CPost w S [] [] fun r H'=>r = takV (St.zero,e0,a0) ∧ H' = [])) a2 w1 := by
 have key := exec_ok (n := 4) (M := M) MIX (store_TakeR_hE M) store_TakeR_c store_TakeR_h _ _ (Nat.le_refl _) hR
 refine wp_mono (key w1 S1 μ1 a2 hr1 hf2 hg1) ?_
 rintro e a3 w3 ⟨⟨H3,T3⟩,S3,μ3,hq3,hr3,hf3,hst3⟩
 rcases slt_some hq3 with ⟨_,h,_⟩|⟨v,rfl,h,hH⟩
 ·exfalso
  have h := congrArg List.length (TU_inj h)
  try rw [List.length_cons] at h
  rw [sltK_eq] at h
  simp at h
 ·dsimp only at hr3 hf3 hst3 hH
  subst hH
  have h := TU_inj h
  rw [sltK_eq] at h
  injection h with gu h
  injection h with g2 h
  injection h with g3 h
  injection h with g4 _
  injection gu with _ gu
  injection gu with gu
  injection gu with gu
  subst gu
  have hd : a3.defers = [dD p0 p1 p2] := hf3.nodef
  show Leaves Tryd.prog _ a3.tmps _ a3.defers (.panicking (pch (noV e0 a0))) w3
  rw [hd]
  have hle : HLe (tkH u ++ Y) (tkH u) := by
   have := HLe.take (tkH u ++ Y) 4
   rwa [List.take_left' (show (tkH u).length = 4 from rfl)] at this
  have hr3' := hr3.le hle (tkH_ok u)
  have hcut : Step 4 w3 S3 μ3 (tkH u ++ Y) w3 S3 (μ3.take 4) (tkH u) := Le.step (s := ⟨tkH u ++ Y,[]⟩) (s' := ⟨tkH u,[]⟩) ⟨hle,tkH_ok u,trivial⟩ (Nat.le_refl _) w3 S3 μ3
  have hst3' := hst3.trans hcut
  have hx := Step.toExt hr1 hst3'
  refine leaves_cons (f := 37) (args := #[p0,p1,p2]) (by simp) (hinvk w3) ?_
  refine (catch_pan p0 p1 p2 e0 a0 [] w3 (hg1.ext hst3.still) (R3 := ⟨1,ty_api_Store,0,stC u⟩) hr3' zS_len (r4.ext hx) (r5.ext hx) (r6.ext hx)).mono ?_
  rintro e u' w4 ⟨rfl,rfl,S4,μ4,hr4,hst4⟩
  show Leaves Tryd.prog _ a3.tmps _ [] (settle (.panicking [{ v := noV e0 a0,recovered := true }])) w4
  have hs : settle (.panicking [{ v := noV e0 a0,recovered := true }]) = .returning := rfl
  rw [hs]
  have hf3' : Fr S3 (μ3.take 4) ⟨80,[dD p0 p1 p2]⟩ [(4,OP 1 0),(5,OP 2 0),(6,OP 3 0)] a3 := by
   have := Le.fr (s := ⟨tkH u ++ Y,T3⟩) (s' := ⟨tkH u,[(4,OP 1 0),(5,OP 2 0),(6,OP 3 0)]⟩) ⟨hle,tkH_ok u,g2.symm,rfl,g3.symm,rfl,g4.symm,rfl,trivial⟩ hf3
   exact this
  obtain ⟨y,r,hrun,hrep,rfl⟩ := resultsC_run (P := Tryd.prog) (fn := Tryd.f10) (K := fun r=>r = TU [noT (.agg zS),noT (nA e0),noT (nA a0)]) rfl hr4 (hf3'.ext (Step.toExt hr3' hst4)) (resC_mono (fun ds e=>e) (res3 zS_len zS_sure rfl rfl rfl))
  have hro := hrep.toRo hr4
  rw [takV_zero] at hro
  exact ⟨y,hrun,y,_,[],S4,[],rfl,⟨rfl,rfl⟩,hr4.le (H' := []) trivial rfl,hro.take (n := 0) takV_lt,((hst1.trans (hst3'.less (Nat.zero_le _))).trans (hst4.less (Nat.zero_le _))).trans cut0⟩
end
theorem take_acp {s : St} {l : List Edt} (h : s.t.Ok) (hi : mayT s.t = true → TInv s.t) (hx : ∀ x ∈ l,NumOk (x.it 0)) (hl : l.length ≤ 34359738368) : ACp Tryd.prog GG 10 [stA s,SL (l.map eA)] (takV (takeS s l)) := by
 have hM : l.length < l.length + 1000001 := by omega
 generalize hMM : l.length + 1000001 = M at hM
 have hM2 : 1000000 < M := by omega
 cases hb : (mayS s && decide (s.ver ≠ 2147483647)) with
 |false =>
  have := store_Take_ok M _ _ [] (show store_Take_t M [stA s,SL (l.map eA)] = _ from early_may M s l hM2 h hb)
  unfold takeS
  rw [if_pos hb]
  exact this
 |true =>
 have hb' := hb
 simp only [Bool.and_eq_true,decide_eq_true_eq] at hb'
 obtain ⟨h1,hv⟩ := hb'
 cases hk : takeBad 0 l with
 |some b =>
  have := store_Take_ok M _ _ [] (show store_Take_t M [stA s,SL (l.map eA)] = _ from early_bad M s l hM2 hM hl h h1 hv b hk)
  unfold takeS
  rw [if_neg (by rw [hb];decide),hk]
  exact this
 |none =>
 have hmt : mayT s.t = true := by
  unfold mayS at h1
  simp only [Bool.and_eq_true] at h1
  exact h1.1.1.1.1.1.1
 have hvr : 0 ≤ s.ver ∧ s.ver < 2147483647 := by
  unfold mayS inB at h1
  simp only [Bool.and_eq_true,decide_eq_true_eq] at h1
  omega
 have hinv := hi hmt
 refine ⟨by kernel_rfl,fun w S μ vs hr hg hlen hvs=>?_⟩
 have hμ : μ = [] := List.eq_nil_of_length_eq_zero hr.len
 subst hμ
 refine calls_of_wp_defers Tryd.func10 (c := dC) rfl ?_
 rw [Tryd.ntmps10]
 have hfr := fr_args (S := S) (μ := []) (N := 80) (args := [stA s,SL (l.map eA)]) (vs := vs) hlen (by simp) hvs
 refine (wpIn_wide (n := 0)).1 (exec_farW (n := 0) MIX (store_TakeA_hE M) 3 dC store_TakeA_h ⟨[],argsT 0 [stA s,SL (l.map eA)]⟩ (by kernel_rfl) (takeA_s M s l hM2 hM hl h h1 hv hk) hr hfr hg ?_ (Nat.le_refl _))
 rintro a w1 ⟨S1,μ1,_,hr1,hf1,hg1,hst1⟩
 refine wpIn_wide.2 ?_
 have ec : endC 3 dC = .seq (cdL (endC 3 dC)) (endC 4 dC) := by kernel_rfl
 rw [ec]
 refine wp_seq (dB (p0 := a.eval (.tmp 4)) (p1 := a.eval (.tmp 5)) (p2 := a.eval (.tmp 6)) rfl rfl rfl hf1.nodef hf1.size fun v=>?_)
 have sz : a.tmps.size = 80 := hf1.size
 have r4 : rep S1 μ1 (OP 1 0) (a.tmps.getD 4 undef) := hf1.slot 4
 have r5 : rep S1 μ1 (OP 2 0) (a.tmps.getD 5 undef) := hf1.slot 5
 have r6 : rep S1 μ1 (OP 3 0) (a.tmps.getD 6 undef) := hf1.slot 6
 have hput := hf1.put (some 40) (fun i e=>by cases e;decide) (v := .nil) (u := v) trivial
 generalize hp0 : a.eval (.tmp 4) = p0
 generalize hp1 : a.eval (.tmp 5) = p1
 generalize hp2 : a.eval (.tmp 6) = p2
 have e4 : a.tmps.getD 4 undef = p0 := hp0
 have e5 : a.tmps.getD 5 undef = p1 := hp1
 have e6 : a.tmps.getD 6 undef = p2 := hp2
 rw [e4] at r4
 rw [e5] at r5
 rw [e6] at r6
 show (endC 4 dC).wp Tryd.prog _ _ w1
 have hf2 : Fr S1 μ1 ⟨80,[dD p0 p1 p2]⟩ [(1,SL (l.map eA)),(2,OP 0 0),(4,OP 1 0),(5,OP 2 0),(6,OP 3 0)] { (a.put (some 40) v) with defers := [dD p0 p1 p2] } := by
  have := hput.some (T' := [(1,SL (l.map eA)),(2,OP 0 0),(4,OP 1 0),(5,OP 2 0),(6,OP 3 0)]) (by simp [_root_.Go.Proofs.YtoeajbhlkccekaaDoor.get,ASt.set,tput])
  exact ⟨this.size,rfl,this.slot⟩
 have hR := takeR_s M [dD p0 p1 p2] s l hM hl hinv hx hvr.1 hvr.2
 unfold takeS
 rw [if_neg (by rw [hb];decide),hk]
 dsimp only
 unfold finT at hR
 by_cases he : (takeG (s.ver + 1) 0 l s.t).2.1 = 0
 ·rw [if_pos he] at hR ⊢
  cases hq : overQ s (takeG (s.ver + 1) 0 l s.t).1 with
  |true =>
   rw [hq,if_pos rfl] at hR
   rw [if_pos rfl]
   exact tail_pan (Y := []) hr1 hf2 hg1 hst1 r4 r5 r6 (by rw [List.append_nil];exact hR)
  |false =>
   rw [hq,if_neg (by decide)] at hR
   rw [if_neg (by decide)]
   exact tail_ok hr1 hf2 hg1 hst1 hR
 ·rw [if_neg he] at hR ⊢
  exact tail_pan hr1 hf2 hg1 hst1 r4 r5 r6 hR
end Go.Proofs.YtoeajbhlkccekaaDoor

