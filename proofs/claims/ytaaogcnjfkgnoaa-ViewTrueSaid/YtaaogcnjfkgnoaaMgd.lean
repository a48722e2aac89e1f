/-
  Texts laid together, part 4 of 7: laws of a walk over data, contracts of functions, each whole by itself.
-/
import Derived.Test.YtaaogcnjfkgnoaaMgc
set_option maxRecDepth 100000
set_option linter.unusedVariables false
set_option linter.unusedSimpArgs false
namespace Go.Proofs.Ytaaogcnjfkgnoaa
open Go.RowKit
section
variable {P : Program} {G : Gl} {n d : Nat} {N : FS} {w w' w0 : World} {S S' S0 : SS} {μ μ' μ0 : List Value} {H H' H0 : List AObj} {E : Env} {M : Nat}
theorem told_get {T2 : Tm} : ∀ {rs : List Tmp} {ds : List AV},(TU ds : AV) = TU (sltK T2 rs) → ∀ i,get (rs.zip ds) i = get T2 i ∨ get (rs.zip ds) i = .nil := by
 intro rs ds h
 rw [sltK_eq] at h
 simp only [DataW.iface.injEq,DataW.agg.injEq,true_and] at h
 subst h
 induction rs with
 |nil=>exact fun i=>.inr rfl
 |cons t r ih =>
  intro i
  simp only [List.map_cons,List.zip_cons_cons,_root_.Go.Proofs.Ytaaogcnjfkgnoaa.get]
  split
  ·rename_i e;subst e;exact .inl rfl
  ·exact ih i
theorem Fr.less {T T' : Tm} {a : Act} (hf : Fr S μ N T a) (h : ∀ i,get T' i = get T i ∨ get T' i = .nil) : Fr S μ N T' a :=
 ⟨hf.size,hf.nodef,fun i=>by
  rcases h i with e|e
  ·rw [e];exact hf.slot i
  ·rw [e];exact rep_any _ _ _⟩
theorem Fr.some {T T' : Tm} {a : Act} (hf : Fr S μ N T a) (h : ∀ p ∈ T',get T p.1 = p.2) : Fr S μ N T' a := hf.less (by
 intro i
 induction T' with
 |nil=>exact .inr rfl
 |cons p r ih =>
  obtain ⟨j,x⟩ := p
  simp only [_root_.Go.Proofs.Ytaaogcnjfkgnoaa.get]
  split
  ·rename_i e
   subst e
   exact .inl (h (j,x) (List.mem_cons_self ..)).symm
  ·exact ih fun p hp=>h p (List.mem_cons_of_mem _ hp))
theorem nsl_some {rs : List Tmp} {e : Exit} {s : ASt} {X : AV} (h : nslFK rs e s = some (X,H')) : e = .normal ∧ X = TU (sltK s.T rs) ∧ s.H = H' := by
 cases e with
 |normal=>cases h;exact ⟨rfl,rfl,rfl⟩
 |exit id=>cases h
 |goto l=>cases h
 |ret=>cases h
 |panic ch=>cases h
 |outgrown=>cases h
def PartP (G : Gl) (N : FS) (rs : List Tmp) (ds : List AV) (w : World) (S : SS) (μ : List Value) (H H' : List AObj) (a' : Act) (w' : World) : Prop :=
 ∃ S' μ',Rel w' S' μ' H' ∧ Fr S' μ' N (rs.zip ds) a' ∧ GOk G S' ∧ Step H.length w S μ H w' S' μ' H'
theorem part_w (hm : P.follows .mixedOrders = true) (hE : EnvOk P G E) {c : Code} {h : Hint} {s : ASt} {rs : List Tmp} {ds : List AV} {a : Act} (hx : exec P G E M N c h s (nslFK rs) = some (TU ds,H')) (hr : Rel w S μ s.H) (hf : Fr S μ N s.T a) (hg : GOk G S) :
  c.wpIn (FL none) d P (fun e a' w'=>e = .normal ∧ PartP G N rs ds w S μ s.H H' a' w') a w := by
 refine wpIn_wide.2 (wp_mono (exec_ok (n := s.H.length) hm hE c h s _ (Nat.le_refl _) hx w S μ a hr hf hg) ?_)
 rintro e a' w' ⟨s',S',μ',hq,hr',hf',hst⟩
 obtain ⟨rfl,e2,rfl⟩ := nsl_some hq
 exact ⟨rfl,S',μ',hr',hf'.less (told_get e2),hg.ext hst.still,hst⟩
theorem part_ops (hE : EnvOk P G E) (hp : E.any isPan = false) {id : Nat} {l : List Oper} {h : Hint} {s : ASt} {rs : List Tmp} {ds : List AV} {a : Act} {ops : Array Oper} {l2 : List Oper} {Q : Exit → Act → World → Prop} (hgu : (l.all fun o=>o.guard.isNone) = true) (hx : exec P G E M N (.region id l.toArray false) h s (nslFK rs) = some (TU ds,H'))
  (hr : Rel w S μ s.H) (hf : Fr S μ N s.T a) (hg : GOk G S) (hK : ∀ a' w',PartP G N rs ds w S μ s.H H' a' w' → wpListIn (FL none) d P ops Q l2 a' w') : wpListIn (FL none) d P ops Q (l ++ l2) a w := by
 obtain ⟨f1,f2⟩ := exec_region hE hp hx
 refine runOps_pre (L := l) (N := N) hr.len ?_ l s hgu f2 f1 w S μ a hr hf hg (Step.refl _ _ _ _ _)
 rintro s' w' S' μ' a' ⟨T2,ht,hk⟩ hr' hf' hg' hst
 obtain ⟨_,e2,e3⟩ := nsl_some (s := ⟨s'.H,T2⟩) hk
 dsimp only at e2 e3
 subst e3
 exact hK a' w' ⟨S',μ',hr',(hf'.less fun i=>.inl (ht i).symm).less (told_get e2),hg',hst⟩
theorem part_all (hE : EnvOk P G E) (hp : E.any isPan = false) {id : Nat} {l : List Oper} {h : Hint} {s : ASt} {rs : List Tmp} {ds : List AV} {a : Act} {ops : Array Oper} {Q : Exit → Act → World → Prop} (hgu : (l.all fun o=>o.guard.isNone) = true) (hx : exec P G E M N (.region id l.toArray false) h s (nslFK rs) = some (TU ds,H'))
  (hr : Rel w S μ s.H) (hf : Fr S μ N s.T a) (hg : GOk G S) (hK : ∀ a' w',PartP G N rs ds w S μ s.H H' a' w' → Q .normal a' w') : wpListIn (FL none) d P ops Q l a w := by
 have key := part_ops (d := d) (ops := ops) (l2 := []) (Q := Q) hE hp hgu hx hr hf hg fun a' w' q=>wpListIn_nil (hK a' w' q)
 rwa [List.append_nil] at key
theorem exec_farW (hm : P.follows .mixedOrders = true) (hE : EnvOk P G E) {rs : List Tmp} {ds : List AV} {Q : Exit → Act → World → Prop} : ∀ (m : Nat) (c : Code) (h : Hint) (s : ASt) {w : World} {S : SS} {μ : List Value} {a : Act},deepC m c = true → exec P G E M N (farC m c .skip) h s (nslFK rs) = some (TU ds,H') →
  Rel w S μ s.H → Fr S μ N s.T a → GOk G S →
  (∀ a' w',(∃ S' μ',n ≤ H'.length ∧ Rel w' S' μ' H' ∧ Fr S' μ' N (rs.zip ds) a' ∧ GOk G S' ∧ Step n w S μ s.H w' S' μ' H') → (endC m c).wpIn (FL none) d P Q a' w') → n ≤ s.H.length → c.wpIn (FL none) d P Q a w
 |0,c,h,s,w,S,μ,a,hd,hx,hr,hf,hg,hK,hn=>by
  have hx : nslFK rs .normal s = some (TU ds,H') := hx
  obtain ⟨_,e2,e3⟩ := nsl_some hx
  subst e3
  exact hK a w ⟨S,μ,hn,hr,hf.less (told_get e2),hg,Step.refl _ _ _ _ _⟩
 |m + 1, .seq x y,h,s,w,S,μ,a,hd,hx,hr,hf,hg,hK,hn=>by
  refine wpIn_seq (wpIn_mono (wpIn_wide.2 (AWp.len (exec_ok (n := n) hm hE x h.l s _ hn hx) hn w S μ a hr hf hg)) ?_)
  rintro e a' w' ⟨s',S',μ',⟨hq,hl⟩,hr',hf',hst⟩
  cases e with
  |normal =>
   have q : exec P G E M N (farC m y .skip) h.r (ghJ h.gho (joinS h.J s')) (nslFK rs) = some (TU ds,H') := hq
   have key : ∀ (T3 : Tm),(∀ i,get T3 i = get s'.T i ∨ get T3 i = .nil) → exec P G E M N (farC m y .skip) h.r (ghJ h.gho ⟨s'.H,T3⟩) (nslFK rs) = some (TU ds,H') → y.wpIn (FL none) d P Q a' w' := by
    intro T3 h3 q
    have gh : ∀ g,∃ μ2,Rel w' S' μ2 (ghJ g ⟨s'.H,T3⟩).H ∧ Fr S' μ2 N (ghJ g ⟨s'.H,T3⟩).T a' ∧ Step n w' S' μ' s'.H w' S' μ2 (ghJ g ⟨s'.H,T3⟩).H := by
     intro g
     have triv : ∃ μ2,Rel w' S' μ2 s'.H ∧ Fr S' μ2 N T3 a' ∧ Step n w' S' μ' s'.H w' S' μ2 s'.H := ⟨μ',hr',hf'.less h3,Step.refl _ _ _ _ _⟩
     cases g with
     |none=>exact triv
     |some g =>
      obtain ⟨i,off,e,z⟩ := g
      show ∃ μ2,Rel w' S' μ2 (ghS i off e z ⟨s'.H,T3⟩).H ∧ Fr S' μ2 N (ghS i off e z ⟨s'.H,T3⟩).T a' ∧ Step n w' S' μ' s'.H w' S' μ2 (ghS i off e z ⟨s'.H,T3⟩).H
      unfold ghS
      split
      ·rename_i j hi
       split
       ·rename_i ob hj
        split
        ·rename_i hk hc
         obtain ⟨h1,h2⟩ := hr'.nilRow none e z
         have hjl : j < s'.H.length := (List.getElem?_eq_some_iff.1 hj).1
         obtain ⟨h3',h4⟩ := h1.recell (off := off) (d' := OW s'.H.length 0) (by rw [List.getElem?_append_left hjl];exact hj) hk hc (fun u hu=>⟨none,0,0,none,0,by rw [← hr'.len];simp,Nat.le_refl _,hu.1,fun _=>⟨rfl,rfl⟩⟩)
         rw [List.set_append_left _ _ hjl] at h3' h4
         have hx : Ext S' μ' S' (μ' ++ [.slice none 0 0]) := ext_add S' μ' _
         exact ⟨_,h3',(hf'.less h3).ext hx,(h2.less hl).trans (h4.less (by simp only [List.length_append];omega))⟩
        ·exact triv
       ·exact triv
      ·exact triv
    obtain ⟨μ2,g1,g2,g3⟩ := gh h.gho
    have hl2 : n ≤ (ghJ h.gho ⟨s'.H,T3⟩).H.length := Nat.le_trans hl (ghJ_len h.gho ⟨s'.H,T3⟩)
    refine exec_farW hm hE m y h.r (ghJ h.gho ⟨s'.H,T3⟩) hd q g1 g2 (hg.ext hst.still) ?_ hl2
    rintro a2 w2 ⟨S2,μ3,b1,b2,b3,b4,b5⟩
    exact hK a2 w2 ⟨S2,μ3,b1,b2,b3,b4,(hst.trans g3).trans b5⟩
   cases hj : h.J with
   |none=>rw [hj] at q;exact key s'.T (fun i=>.inl rfl) q
   |some L=>rw [hj] at q;exact key (keepT L s'.T) (keepT_get L s'.T) q
  |exit id=>cases hq
  |goto l=>cases hq
  |ret=>cases hq
  |panic ch=>cases hq
  |outgrown=>cases hq
end
end Go.Proofs.Ytaaogcnjfkgnoaa

namespace Go.Proofs.Ytaaogcnjfkgnoaa
open Go.RowKit
def ty_api_Cert : TypeId := 54
def ty_api_Change : TypeId := 30
def ty_api_Stmt : TypeId := 41
def ty_int : TypeId := 3
def zc_api_Cert : List AV := [(V (.int .i64 0)),(V (.int .i64 0)),(V (.int .i64 0)),(V (.string ⟨#[]⟩)),(V (.slice none 0 0))]
def zc_api_Stmt : List AV := [(V (.int .i64 0)),(V (.int .i64 0)),(V (.int .i64 0)),(V (.int .i64 0)),(V (.int .i64 0))]
noncomputable def wire_number_c : Code := (Try.f80.body).getD .skip
def wire_number_h : Hint := (.two .n (.join [] (.two .n (.one (.lp [] [5,6,7] [2] (.two .n (.two (.two .n .n) (.join [5,6,7] (.one (.two .n (.join [5,6,7,16] .n (.two (.two .n .n) .n)))) .n)))))) (.two .n .n)))
noncomputable def wire_number_env (m : Nat) : Env := []
noncomputable abbrev wire_number_fin : KO (AV × List AObj) := tellFK Try.prog [.tmp 2]
noncomputable def wire_number_r3 (m : Nat) (n0 : Nat) (kc : ASt → RO) (kx : KO (AV × List AObj)) (s : ASt) : RO := joinW Try.prog GG (wire_number_env m) m ⟨18,[]⟩ (cdR (cdR (cdR (cdL (cdL (cdR (cdL (cdR wire_number_c)))))))) wire_number_h.r.l.r.c.c.r.r.r s (backW n0 [5,6,7] [2] kc kx)
noncomputable def wire_number_r2 (m : Nat) (n0 : Nat) (kc : ASt → RO) (kx : KO (AV × List AObj)) (s : ASt) : RO := joinW Try.prog GG (wire_number_env m) m ⟨18,[]⟩ (cdR (cdR (cdL (cdL (cdR (cdR (cdL (cdL (cdR (cdL (cdR wire_number_c))))))))))) wire_number_h.r.l.r.c.c.r.r.l.c.r.r s (blockX 1 (seqX (fun s=>wire_number_r3 m n0 kc kx ⟨s.H,[(5,gt s.T 5),(6,gt s.T 6),(7,gt s.T 7)]⟩) (backW n0 [5,6,7] [2] kc kx)))
noncomputable def wire_number_r1 (m : Nat) (s : ASt) : RO := joinW Try.prog GG (wire_number_env m) m ⟨18,[]⟩ (cdR (cdR wire_number_c)) wire_number_h.r.r s (wire_number_fin)
noncomputable def wire_number_b1 (m : Nat) (s : ASt) (kc : ASt → RO) (kx : KO (AV × List AObj)) : RO := bodyW Try.prog GG (wire_number_env m) m ⟨18,[]⟩ (cdL (cdL (cdR (cdL (cdR wire_number_c))))) wire_number_h.r.l.r.c.c [5,6,7] [2] s kc kx
noncomputable def wire_number (m : Nat) (t0 : AV) : RO := exec Try.prog GG (wire_number_env m) m ⟨18,[]⟩ wire_number_c wire_number_h ⟨[],argsT 0 [t0]⟩ (wire_number_fin)
theorem wire_number_r3_eq (m : Nat) (n0 : Nat) (kc : ASt → RO) (kx : KO (AV × List AObj)) (H : List AObj) (t5 t6 t7 : AV) : wire_number_r3 m n0 kc kx ⟨H,[(5,t5),(6,t6),(7,t7)]⟩ =
 binE none false false .add t7 (V (.int .i64 1)) fun t17 =>
 backE n0 H [(5,t5),(6,t6),(7,t17)] kc := by
 refine (joinW_eq _ _ _ _ _ _ _ _ _).trans ?_
 kernel_rfl
theorem wire_number_r2_eq (m : Nat) (n0 : Nat) (kc : ASt → RO) (kx : KO (AV × List AObj)) (H : List AObj) (t5 t6 t7 t16 : AV) : wire_number_r2 m n0 kc kx ⟨H,[(5,t5),(6,t6),(7,t7),(16,t16)]⟩ =
 condE t16 (
  kx .ret ⟨H,[(2,(V (.bool false)))]⟩) (
  wire_number_r3 m n0 kc kx ⟨H,[(5,t5),(6,t6),(7,t7)]⟩) := by
 refine (joinW_eq _ _ _ _ _ _ _ _ _).trans ?_
 kernel_rfl
theorem wire_number_r1_eq (m : Nat) (H : List AObj) : wire_number_r1 m ⟨H,[]⟩ =
 tellK H (ro H (V (.bool true))) := by
 refine (joinW_eq _ _ _ _ _ _ _ _ _).trans ?_
 kernel_rfl
theorem wire_number_b1_eq (m : Nat) (H : List AObj) (t5 t6 t7 : AV) (kc : ASt → RO) (kx : KO (AV × List AObj)) : wire_number_b1 m ⟨H,[(5,t5),(6,t6),(7,t7)]⟩ kc kx =
 binE none false false .lss t7 t6 fun t8 =>
 condE t8 (
  idxSE 1 H t5 t7 fun t9 =>
  loadE 1 H t9 fun t10 =>
  binE none false false .lss t10 (V (.int .i64 0)) fun t12 =>
  condE t12 (
   wire_number_r2 m H.length kc kx ⟨H,[(5,t5),(6,t6),(7,t7),(16,(V (.bool true)))]⟩) (
   binE none false false .gtr t10 (V (.int .i64 2147483647)) fun t15 =>
   wire_number_r2 m H.length kc kx ⟨H,[(5,t5),(6,t6),(7,t7),(16,t15)]⟩)) (
  kx (.exit 0) ⟨H,[(2, .nil)]⟩) := by
 refine (bodyW_eq _ _ _ _ _ _ _ _ _ _ _ _).trans ?_
 kernel_rfl
theorem wire_number_eq (m : Nat) (t0 : AV) : wire_number m t0 =
 lenE false true [] t0 fun t6 =>
 iterC m (wire_number_b1 m) ⟨[],[(5,t0),(6,t6),(7,(V (.int .i64 0)))]⟩ (blockX 0 (seqX (fun s=>wire_number_r1 m ⟨s.H,[]⟩) (wire_number_fin))) := by
 refine (tellX _ _ _ _ _ _ _ _ _).trans ?_
 kernel_rfl
noncomputable def wire_number_t (m : Nat) : List AV → RO|[t0]=>wire_number m t0|_=>none
theorem wire_number_ok (m : Nat) : ∀ args X H',wire_number_t m args = some (X,H') → ACp Try.prog GG 80 args X := by
 intro args X H' h
 unfold wire_number_t at h
 split at h
 ·exact tell_okK MIX (by intro f e h;cases h) (f := 80) (c := wire_number_c) Try.func80 rfl (by kernel_rfl) _ rfl Try.ntmps80 (Nat.le_of_ble_eq_true rfl) wire_number_h h
 ·cases h
noncomputable def wire_party_c : Code := (Try.f79.body).getD .skip
def wire_party_h : Hint := (.two .n (.two .n .n))
noncomputable def wire_party_env (m : Nat) : Env := []
noncomputable abbrev wire_party_fin : KO (AV × List AObj) := tellFK Try.prog [.tmp 2]
noncomputable def wire_party (m : Nat) (t0 : AV) : RO := exec Try.prog GG (wire_party_env m) m ⟨9,[]⟩ wire_party_c wire_party_h ⟨[],argsT 0 [t0]⟩ (wire_party_fin)
theorem wire_party_eq (m : Nat) (t0 : AV) : wire_party m t0 =
 binE none false false .geq t0 (V (.int .i64 0)) fun t4 =>
 condE t4 (
  binE none false false .lss t0 (V (.int .i64 64)) fun t7 =>
  tellK [] (ro [] t7)) (
  tellK [] (ro [] (V (.bool false)))) := by
 refine (tellX _ _ _ _ _ _ _ _ _).trans ?_
 kernel_rfl
noncomputable def wire_party_t (m : Nat) : List AV → RO|[t0]=>wire_party m t0|_=>none
theorem wire_party_ok (m : Nat) : ∀ args X H',wire_party_t m args = some (X,H') → ACp Try.prog GG 79 args X := by
 intro args X H' h
 unfold wire_party_t at h
 split at h
 ·exact tell_okK MIX (by intro f e h;cases h) (f := 79) (c := wire_party_c) Try.func79 rfl (by kernel_rfl) _ rfl Try.ntmps79 (Nat.le_of_ble_eq_true rfl) wire_party_h h
 ·cases h
noncomputable def wire_stmt_c : Code := (Try.f82.body).getD .skip
def wire_stmt_h : Hint := (.two .n (.two .n .n))
noncomputable def wire_stmt_env (m : Nat) : Env := [(79, .tell (wire_party_t m)),(80, .tell (wire_number_t m))]
noncomputable abbrev wire_stmt_fin : KO (AV × List AObj) := tellFK Try.prog [.tmp 2]
noncomputable def wire_stmt (m : Nat) (t0 : AV) : RO := exec Try.prog GG (wire_stmt_env m) m ⟨18,[]⟩ wire_stmt_c wire_stmt_h ⟨[],argsT 0 [t0]⟩ (wire_stmt_fin)
theorem wire_stmt_eq (m : Nat) (t0 : AV) : wire_stmt m t0 =
 boxE ty_api_Stmt [] t0 fun t1 H1 =>
 fieldE (some (0,1)) t1 fun t3 =>
 loadE 1 H1 t3 fun t4 =>
 tellE (wire_party m (ro H1 t4)) [(ro H1 t4)] fun t5 =>
 condE t5 (
  fieldE (some (1,1)) t1 fun t7 =>
  loadE 1 H1 t7 fun t8 =>
  fieldE (some (2,1)) t1 fun t9 =>
  loadE 1 H1 t9 fun t10 =>
  fieldE (some (3,1)) t1 fun t11 =>
  loadE 1 H1 t11 fun t12 =>
  fieldE (some (4,1)) t1 fun t13 =>
  loadE 1 H1 t13 fun t14 =>
  buildSE (some (ty_int,1)) 4 [(0,t8),(1,t10),(2,t12),(3,t14)] fun t15 =>
  tellE (wire_number m (ro H1 t15)) [(ro H1 t15)] fun t16 =>
  tellK H1 (ro H1 t16)) (
  tellK H1 (ro H1 (V (.bool false)))) := by
 refine (tellX _ _ _ _ _ _ _ _ _).trans ?_
 kernel_rfl
noncomputable def wire_stmt_t (m : Nat) : List AV → RO|[t0]=>wire_stmt m t0|_=>none
theorem wire_stmt_ok (m : Nat) : ∀ args X H',wire_stmt_t m args = some (X,H') → ACp Try.prog GG 82 args X := by
 intro args X H' h
 unfold wire_stmt_t at h
 split at h
 ·exact tell_okK MIX (by
  intro f e h
  simp only [wire_stmt_env,Prod.mk.injEq,List.mem_cons,List.not_mem_nil,or_false] at h
  rcases h with ⟨rfl,rfl⟩|⟨rfl,rfl⟩
  ·exact wire_party_ok m
  ·exact wire_number_ok m) (f := 82) (c := wire_stmt_c) Try.func82 rfl (by kernel_rfl) _ rfl Try.ntmps82 (Nat.le_of_ble_eq_true rfl) wire_stmt_h h
 ·cases h
noncomputable def wire_list_Stmt_c : Code := (Try.f81.body).getD .skip
def wire_list_Stmt_h : Hint := (.two .n (.two (.two .n (.two (.two .n .n) .n)) (.join [] (.two .n (.one (.lp [] [1,10,11,12] [4] (.two .n (.two (.two .n .n) (.two (.one (.two .n (.two .n (.two (.two .n .n) .n)))) .n)))))) (.two .n .n))))
noncomputable def wire_list_Stmt_env (m : Nat) : Env := [(82, .tell (wire_stmt_t m))]
noncomputable abbrev wire_list_Stmt_fin : KO (AV × List AObj) := tellFK Try.prog [.tmp 4]
noncomputable def wire_list_Stmt_r1 (m : Nat) (s : ASt) : RO := joinW Try.prog GG (wire_list_Stmt_env m) m ⟨21,[]⟩ (cdR (cdR (cdR wire_list_Stmt_c))) wire_list_Stmt_h.r.r.r s (wire_list_Stmt_fin)
noncomputable def wire_list_Stmt_b1 (m : Nat) (s : ASt) (kc : ASt → RO) (kx : KO (AV × List AObj)) : RO := bodyW Try.prog GG (wire_list_Stmt_env m) m ⟨21,[]⟩ (cdL (cdL (cdR (cdL (cdR (cdR wire_list_Stmt_c)))))) wire_list_Stmt_h.r.r.l.r.c.c [1,10,11,12] [4] s kc kx
noncomputable def wire_list_Stmt (m : Nat) (t0 t1 : AV) : RO := exec Try.prog GG (wire_list_Stmt_env m) m ⟨21,[]⟩ wire_list_Stmt_c wire_list_Stmt_h ⟨[],argsT 0 [t0,t1]⟩ (wire_list_Stmt_fin)
theorem wire_list_Stmt_r1_eq (m : Nat) (H : List AObj) : wire_list_Stmt_r1 m ⟨H,[]⟩ =
 tellK H (ro H (V (.bool true))) := by
 refine (joinW_eq _ _ _ _ _ _ _ _ _).trans ?_
 kernel_rfl
theorem wire_list_Stmt_b1_eq (m : Nat) (H : List AObj) (t1 t10 t11 t12 : AV) (kc : ASt → RO) (kx : KO (AV × List AObj)) : wire_list_Stmt_b1 m ⟨H,[(1,t1),(10,t10),(11,t11),(12,t12)]⟩ kc kx =
 binE none false false .lss t12 t11 fun t13 =>
 condE t13 (
  idxSE 7 H t10 t12 fun t14 =>
  loadE 7 H t14 fun t15 =>
  allocE (some zc_api_Stmt) ty_api_Stmt H fun t6 H2 =>
  storeE 7 H2 t6 t15 fun H3 =>
  loadE 7 H3 t6 fun t17 =>
  callVE (wire_list_Stmt_env m) t1 [t17] H3 fun t18 H4 =>
  unE .not t18 fun t19 =>
  condE t19 (
   kx .ret ⟨H4,[(4,(V (.bool false)))]⟩) (
   binE none false false .add t12 (V (.int .i64 1)) fun t20 =>
   backE H.length H4 [(1,t1),(10,t10),(11,t11),(12,t20)] kc)) (
  kx (.exit 0) ⟨H,[(4, .nil)]⟩) := by
 refine (bodyW_eq _ _ _ _ _ _ _ _ _ _ _ _).trans ?_
 kernel_rfl
theorem wire_list_Stmt_eq (m : Nat) (t0 t1 : AV) : wire_list_Stmt m t0 t1 =
 lenE false true [] t0 fun t8 =>
 binE none false false .gtr t8 (V (.int .i64 64)) fun t9 =>
 condE t9 (
  tellK [] (ro [] (V (.bool false)))) (
  lenE false true [] t0 fun t11 =>
  iterC m (wire_list_Stmt_b1 m) ⟨[],[(1,t1),(10,t0),(11,t11),(12,(V (.int .i64 0)))]⟩ (blockX 0 (seqX (fun s=>wire_list_Stmt_r1 m ⟨s.H,[]⟩) (wire_list_Stmt_fin)))) := by
 refine (tellX _ _ _ _ _ _ _ _ _).trans ?_
 kernel_rfl
noncomputable def wire_list_Stmt_t (m : Nat) : List AV → RO|[t0,t1]=>wire_list_Stmt m t0 t1|_=>none
theorem wire_list_Stmt_ok (m : Nat) : ∀ args X H',wire_list_Stmt_t m args = some (X,H') → ACp Try.prog GG 81 args X := by
 intro args X H' h
 unfold wire_list_Stmt_t at h
 split at h
 ·exact tell_okK MIX (by
  intro f e h
  simp only [wire_list_Stmt_env,Prod.mk.injEq,List.mem_cons,List.not_mem_nil,or_false] at h
  obtain ⟨rfl,rfl⟩ := h
  ·exact wire_stmt_ok m) (f := 81) (c := wire_list_Stmt_c) Try.func81 rfl (by kernel_rfl) _ rfl Try.ntmps81 (Nat.le_of_ble_eq_true rfl) wire_list_Stmt_h h
 ·cases h
noncomputable def wire_cert_c : Code := (Try.f84.body).getD .skip
def wire_cert_h : Hint := (.two .n (.two .n .n))
noncomputable def wire_cert_env (m : Nat) : Env := [(80, .tell (wire_number_t m)),(81, .tell (wire_list_Stmt_t m))]
noncomputable abbrev wire_cert_fin : KO (AV × List AObj) := tellFK Try.prog [.tmp 2]
noncomputable def wire_cert (m : Nat) (t0 : AV) : RO := exec Try.prog GG (wire_cert_env m) m ⟨22,[]⟩ wire_cert_c wire_cert_h ⟨[],argsT 0 [t0]⟩ (wire_cert_fin)
theorem wire_cert_eq (m : Nat) (t0 : AV) : wire_cert m t0 =
 boxE ty_api_Cert [] t0 fun t1 H1 =>
 fieldE (some (0,1)) t1 fun t3 =>
 loadE 1 H1 t3 fun t4 =>
 fieldE (some (1,1)) t1 fun t5 =>
 loadE 1 H1 t5 fun t6 =>
 fieldE (some (2,1)) t1 fun t7 =>
 loadE 1 H1 t7 fun t8 =>
 buildSE (some (ty_int,1)) 3 [(0,t4),(1,t6),(2,t8)] fun t9 =>
 tellE (wire_number m (ro H1 t9)) [(ro H1 t9)] fun t10 =>
 condE t10 (
  fieldE (some (3,1)) t1 fun t12 =>
  loadE 1 H1 t12 fun t13 =>
  lenE true false H1 t13 fun t14 =>
  binE none false false .leq t14 (V (.int .i64 65536)) fun t15 =>
  condE t15 (
  fieldE (some (4,1)) t1 fun t18 =>
  loadE 1 H1 t18 fun t19 =>
  tellE (wire_list_Stmt m (ro H1 t19) (ro H1 (V (.func (.func 82) #[] #[])))) [(ro H1 t19),(ro H1 (V (.func (.func 82) #[] #[])))] fun t20 =>
  tellK H1 (ro H1 t20)) (
  tellK H1 (ro H1 (V (.bool false))))) (
  tellK H1 (ro H1 (V (.bool false)))) := by
 refine (tellX _ _ _ _ _ _ _ _ _).trans ?_
 kernel_rfl
noncomputable def wire_cert_t (m : Nat) : List AV → RO|[t0]=>wire_cert m t0|_=>none
theorem wire_cert_ok (m : Nat) : ∀ args X H',wire_cert_t m args = some (X,H') → ACp Try.prog GG 84 args X := by
 intro args X H' h
 unfold wire_cert_t at h
 split at h
 ·exact tell_okK MIX (by
  intro f e h
  simp only [wire_cert_env,Prod.mk.injEq,List.mem_cons,List.not_mem_nil,or_false] at h
  rcases h with ⟨rfl,rfl⟩|⟨rfl,rfl⟩
  ·exact wire_number_ok m
  ·exact wire_list_Stmt_ok m) (f := 84) (c := wire_cert_c) Try.func84 rfl (by kernel_rfl) _ rfl Try.ntmps84 (Nat.le_of_ble_eq_true rfl) wire_cert_h h
 ·cases h
noncomputable def wire_list_Cert_c : Code := (Try.f83.body).getD .skip
def wire_list_Cert_h : Hint := (.two .n (.two (.two .n (.two (.two .n .n) .n)) (.join [] (.two .n (.one (.lp [] [1,10,11,12] [4] (.two .n (.two (.two .n .n) (.two (.one (.two .n (.two .n (.two (.two .n .n) .n)))) .n)))))) (.two .n .n))))
noncomputable def wire_list_Cert_env (m : Nat) : Env := [(84, .tell (wire_cert_t m))]
noncomputable abbrev wire_list_Cert_fin : KO (AV × List AObj) := tellFK Try.prog [.tmp 4]
noncomputable def wire_list_Cert_r1 (m : Nat) (s : ASt) : RO := joinW Try.prog GG (wire_list_Cert_env m) m ⟨21,[]⟩ (cdR (cdR (cdR wire_list_Cert_c))) wire_list_Cert_h.r.r.r s (wire_list_Cert_fin)
noncomputable def wire_list_Cert_b1 (m : Nat) (s : ASt) (kc : ASt → RO) (kx : KO (AV × List AObj)) : RO := bodyW Try.prog GG (wire_list_Cert_env m) m ⟨21,[]⟩ (cdL (cdL (cdR (cdL (cdR (cdR wire_list_Cert_c)))))) wire_list_Cert_h.r.r.l.r.c.c [1,10,11,12] [4] s kc kx
noncomputable def wire_list_Cert (m : Nat) (t0 t1 : AV) : RO := exec Try.prog GG (wire_list_Cert_env m) m ⟨21,[]⟩ wire_list_Cert_c wire_list_Cert_h ⟨[],argsT 0 [t0,t1]⟩ (wire_list_Cert_fin)
theorem wire_list_Cert_r1_eq (m : Nat) (H : List AObj) : wire_list_Cert_r1 m ⟨H,[]⟩ =
 tellK H (ro H (V (.bool true))) := by
 refine (joinW_eq _ _ _ _ _ _ _ _ _).trans ?_
 kernel_rfl
theorem wire_list_Cert_b1_eq (m : Nat) (H : List AObj) (t1 t10 t11 t12 : AV) (kc : ASt → RO) (kx : KO (AV × List AObj)) : wire_list_Cert_b1 m ⟨H,[(1,t1),(10,t10),(11,t11),(12,t12)]⟩ kc kx =
 binE none false false .lss t12 t11 fun t13 =>
 condE t13 (
  idxSE 7 H t10 t12 fun t14 =>
  loadE 7 H t14 fun t15 =>
  allocE (some zc_api_Cert) ty_api_Cert H fun t6 H2 =>
  storeE 7 H2 t6 t15 fun H3 =>
  loadE 7 H3 t6 fun t17 =>
  callVE (wire_list_Cert_env m) t1 [t17] H3 fun t18 H4 =>
  unE .not t18 fun t19 =>
  condE t19 (
   kx .ret ⟨H4,[(4,(V (.bool false)))]⟩) (
   binE none false false .add t12 (V (.int .i64 1)) fun t20 =>
   backE H.length H4 [(1,t1),(10,t10),(11,t11),(12,t20)] kc)) (
  kx (.exit 0) ⟨H,[(4, .nil)]⟩) := by
 refine (bodyW_eq _ _ _ _ _ _ _ _ _ _ _ _).trans ?_
 kernel_rfl
theorem wire_list_Cert_eq (m : Nat) (t0 t1 : AV) : wire_list_Cert m t0 t1 =
 lenE false true [] t0 fun t8 =>
 binE none false false .gtr t8 (V (.int .i64 64)) fun t9 =>
 condE t9 (
  tellK [] (ro [] (V (.bool false)))) (
  lenE false true [] t0 fun t11 =>
  iterC m (wire_list_Cert_b1 m) ⟨[],[(1,t1),(10,t0),(11,t11),(12,(V (.int .i64 0)))]⟩ (blockX 0 (seqX (fun s=>wire_list_Cert_r1 m ⟨s.H,[]⟩) (wire_list_Cert_fin)))) := by
 refine (tellX _ _ _ _ _ _ _ _ _).trans ?_
 kernel_rfl
noncomputable def wire_list_Cert_t (m : Nat) : List AV → RO|[t0,t1]=>wire_list_Cert m t0 t1|_=>none
theorem wire_list_Cert_ok (m : Nat) : ∀ args X H',wire_list_Cert_t m args = some (X,H') → ACp Try.prog GG 83 args X := by
 intro args X H' h
 unfold wire_list_Cert_t at h
 split at h
 ·exact tell_okK MIX (by
  intro f e h
  simp only [wire_list_Cert_env,Prod.mk.injEq,List.mem_cons,List.not_mem_nil,or_false] at h
  obtain ⟨rfl,rfl⟩ := h
  ·exact wire_cert_ok m) (f := 83) (c := wire_list_Cert_c) Try.func83 rfl (by kernel_rfl) _ rfl Try.ntmps83 (Nat.le_of_ble_eq_true rfl) wire_list_Cert_h h
 ·cases h
noncomputable def wire_change_c : Code := (Try.f60.body).getD .skip
def wire_change_h : Hint := (.two .n (.two .n .n))
noncomputable def wire_change_env (m : Nat) : Env := [(79, .tell (wire_party_t m)),(80, .tell (wire_number_t m)),(81, .tell (wire_list_Stmt_t m)),(83, .tell (wire_list_Cert_t m))]
noncomputable abbrev wire_change_fin : KO (AV × List AObj) := tellFK Try.prog [.tmp 2]
noncomputable def wire_change (m : Nat) (t0 : AV) : RO := exec Try.prog GG (wire_change_env m) m ⟨26,[]⟩ wire_change_c wire_change_h ⟨[],argsT 0 [t0]⟩ (wire_change_fin)
theorem wire_change_eq (m : Nat) (t0 : AV) : wire_change m t0 =
 boxE ty_api_Change [] t0 fun t1 H1 =>
 fieldE (some (0,1)) t1 fun t3 =>
 loadE 1 H1 t3 fun t4 =>
 tellE (wire_party m (ro H1 t4)) [(ro H1 t4)] fun t5 =>
 condE t5 (
  fieldE (some (1,1)) t1 fun t7 =>
  loadE 1 H1 t7 fun t8 =>
  fieldE (some (2,1)) t1 fun t9 =>
  loadE 1 H1 t9 fun t10 =>
  fieldE (some (3,1)) t1 fun t11 =>
  loadE 1 H1 t11 fun t12 =>
  buildSE (some (ty_int,1)) 3 [(0,t8),(1,t10),(2,t12)] fun t13 =>
  tellE (wire_number m (ro H1 t13)) [(ro H1 t13)] fun t14 =>
  condE t14 (
  fieldE (some (4,1)) t1 fun t17 =>
  loadE 1 H1 t17 fun t18 =>
  tellE (wire_list_Stmt m (ro H1 t18) (ro H1 (V (.func (.func 82) #[] #[])))) [(ro H1 t18),(ro H1 (V (.func (.func 82) #[] #[])))] fun t19 =>
  condE t19 (
  fieldE (some (5,1)) t1 fun t22 =>
  loadE 1 H1 t22 fun t23 =>
  tellE (wire_list_Cert m (ro H1 t23) (ro H1 (V (.func (.func 84) #[] #[])))) [(ro H1 t23),(ro H1 (V (.func (.func 84) #[] #[])))] fun t24 =>
  tellK H1 (ro H1 t24)) (
  tellK H1 (ro H1 (V (.bool false))))) (
  tellK H1 (ro H1 (V (.bool false))))) (
  tellK H1 (ro H1 (V (.bool false)))) := by
 refine (tellX _ _ _ _ _ _ _ _ _).trans ?_
 kernel_rfl
noncomputable def wire_change_t (m : Nat) : List AV → RO|[t0]=>wire_change m t0|_=>none
theorem wire_change_ok (m : Nat) : ∀ args X H',wire_change_t m args = some (X,H') → ACp Try.prog GG 60 args X := by
 intro args X H' h
 unfold wire_change_t at h
 split at h
 ·exact tell_okK MIX (by
  intro f e h
  simp only [wire_change_env,Prod.mk.injEq,List.mem_cons,List.not_mem_nil,or_false] at h
  rcases h with ⟨rfl,rfl⟩|⟨rfl,rfl⟩|⟨rfl,rfl⟩|⟨rfl,rfl⟩
  ·exact wire_party_ok m
  ·exact wire_number_ok m
  ·exact wire_list_Stmt_ok m
  ·exact wire_list_Cert_ok m) (f := 60) (c := wire_change_c) Try.func60 rfl (by kernel_rfl) _ rfl Try.ntmps60 (Nat.le_of_ble_eq_true rfl) wire_change_h h
 ·cases h
end Go.Proofs.Ytaaogcnjfkgnoaa

namespace Go.Proofs.Ytaaogcnjfkgnoaa
open Go.RowKit
def ty_uint8 : TypeId := 5
def ty_wire_writer : TypeId := 124
def zc_wire_writer : List AV := [(V (.slice none 0 0))]
def pl_wire_writer : List (Nat × Nat) := [(0,1)]
noncomputable def wire_writer_nums_c : Code := (Try.f85.body).getD .skip
def wire_writer_nums_h : Hint := (.two .n (.one (.lp [] [0,6,7,8] [] (.two .n (.two (.two .n .n) (.two (.one (.two .n .n)) .n))))))
noncomputable def wire_writer_nums_env (m : Nat) : Env := [(95, .add (varint_Put_t m))]
noncomputable abbrev wire_writer_nums_fin (n0 : Nat) : KO (AV × List AObj) := keepFK Try.prog n0 []
noncomputable def wire_writer_nums_b1 (m : Nat) (s : ASt) (kc : ASt → RO) (kx : KO (AV × List AObj)) : RO := bodyW Try.prog GG (wire_writer_nums_env m) m ⟨24,[]⟩ (cdL (cdL (cdR wire_writer_nums_c))) wire_writer_nums_h.r.c.c [0,6,7,8] [] s kc kx
noncomputable def wire_writer_nums (m : Nat) (t0 t1 : AV) (H : List AObj) : RO := exec Try.prog GG (wire_writer_nums_env m) m ⟨24,[]⟩ wire_writer_nums_c wire_writer_nums_h ⟨H,argsT 0 [t0,t1]⟩ (wire_writer_nums_fin H.length)
theorem wire_writer_nums_b1_eq (m : Nat) (H : List AObj) (t0 t6 t7 t8 : AV) (kc : ASt → RO) (kx : KO (AV × List AObj)) : wire_writer_nums_b1 m ⟨H,[(0,t0),(6,t6),(7,t7),(8,t8)]⟩ kc kx =
 binE none false false .lss t8 t7 fun t9 =>
 condE t9 (
  idxSE 1 H t6 t8 fun t10 =>
  loadE 1 H t10 fun t11 =>
  nilE t0 fun t14 =>
  fieldE (some (0,1)) t14 fun t15 =>
  loadE 1 H t15 fun t16 =>
  convE false (some .u64) true false false (ro H t11) fun t18 =>
  addE (varint_Put_t m [(ro H t18)] H.length) H fun t19 H2 =>
  appE (some (ty_uint8,1)) H2 t16 t19 fun t20 H3 =>
  nilE t0 fun t21 =>
  fieldE (some (0,1)) t21 fun t22 =>
  storeE 1 H3 t22 t20 fun H4 =>
  binE none false false .add t8 (V (.int .i64 1)) fun t23 =>
  backE H.length H4 [(0,t0),(6,t6),(7,t7),(8,t23)] kc) (
  kx (.exit 0) ⟨H,[]⟩) := by
 refine (bodyW_eq _ _ _ _ _ _ _ _ _ _ _ _).trans ?_
 kernel_rfl
theorem wire_writer_nums_eq (m : Nat) (t0 t1 : AV) (H : List AObj) : wire_writer_nums m t0 t1 H =
 lenE false true H t1 fun t7 =>
 iterC m (wire_writer_nums_b1 m) ⟨H,[(0,t0),(6,t1),(7,t7),(8,(V (.int .i64 0)))]⟩ (blockX 0 (wire_writer_nums_fin H.length)) := by
 refine (keepX Try.prog GG (wire_writer_nums_env m) m ⟨24,[]⟩ H.length wire_writer_nums_c wire_writer_nums_h ⟨H,argsT 0 [t0,t1]⟩ []).trans ?_
 kernel_rfl
noncomputable def wire_writer_nums_t (m : Nat) : List AV → List AObj → RO|[t0,t1],H=>wire_writer_nums m t0 t1 H|_,_=>none
theorem wire_writer_nums_ok (m : Nat) : ∀ args H X H',wire_writer_nums_t m args H = some (X,H') → AC Try.prog GG 85 args H (Is X H') := by
 intro args H X H' h
 unfold wire_writer_nums_t at h
 split at h
 ·exact keep_okK MIX (by
  intro f e h
  simp only [wire_writer_nums_env,Prod.mk.injEq,List.mem_cons,List.not_mem_nil,or_false] at h
  obtain ⟨rfl,rfl⟩ := h
  ·exact varint_Put_ok m) (f := 85) (c := wire_writer_nums_c) Try.func85 rfl (by kernel_rfl) _ rfl Try.ntmps85 (Nat.le_of_ble_eq_true rfl) wire_writer_nums_h h
 ·cases h
noncomputable def wire_writer_text_c : Code := (Try.f96.body).getD .skip
def wire_writer_text_h : Hint := (.two .n .n)
noncomputable def wire_writer_text_env (m : Nat) : Env := [(85, .keep (wire_writer_nums_t m))]
noncomputable abbrev wire_writer_text_fin (n0 : Nat) : KO (AV × List AObj) := keepFK Try.prog n0 []
noncomputable def wire_writer_text (m : Nat) (t0 t1 : AV) (H : List AObj) : RO := exec Try.prog GG (wire_writer_text_env m) m ⟨18,[]⟩ wire_writer_text_c wire_writer_text_h ⟨H,argsT 0 [t0,t1]⟩ (wire_writer_text_fin H.length)
theorem wire_writer_text_eq (m : Nat) (t0 t1 : AV) (H : List AObj) : wire_writer_text m t0 t1 H =
 lenE true false H t1 fun t6 =>
 buildSE (some (ty_int,1)) 1 [(0,t6)] fun t7 =>
 keepE (wire_writer_nums m (ro H t0) (ro H t7) H) fun t8 H2 =>
 nilE t0 fun t11 =>
 fieldE (some (0,1)) t11 fun t12 =>
 loadE 1 H2 t12 fun t13 =>
 appSE (some (ty_uint8,1)) H2 t13 t1 fun t15 H3 =>
 nilE t0 fun t16 =>
 fieldE (some (0,1)) t16 fun t17 =>
 storeE 1 H3 t17 t15 fun H4 =>
 keepK H.length H4 (ro H4 (TU [])) := by
 refine (keepX Try.prog GG (wire_writer_text_env m) m ⟨18,[]⟩ H.length wire_writer_text_c wire_writer_text_h ⟨H,argsT 0 [t0,t1]⟩ []).trans ?_
 kernel_rfl
noncomputable def wire_writer_text_t (m : Nat) : List AV → List AObj → RO|[t0,t1],H=>wire_writer_text m t0 t1 H|_,_=>none
theorem wire_writer_text_ok (m : Nat) : ∀ args H X H',wire_writer_text_t m args H = some (X,H') → AC Try.prog GG 96 args H (Is X H') := by
 intro args H X H' h
 unfold wire_writer_text_t at h
 split at h
 ·exact keep_okK MIX (by
  intro f e h
  simp only [wire_writer_text_env,Prod.mk.injEq,List.mem_cons,List.not_mem_nil,or_false] at h
  obtain ⟨rfl,rfl⟩ := h
  ·exact wire_writer_nums_ok m) (f := 96) (c := wire_writer_text_c) Try.func96 rfl (by kernel_rfl) _ rfl Try.ntmps96 (Nat.le_of_ble_eq_true rfl) wire_writer_text_h h
 ·cases h
noncomputable def wire_writer_stmt_c : Code := (Try.f87.body).getD .skip
def wire_writer_stmt_h : Hint := (.two .n .n)
noncomputable def wire_writer_stmt_env (m : Nat) : Env := [(85, .keep (wire_writer_nums_t m))]
noncomputable abbrev wire_writer_stmt_fin (n0 : Nat) : KO (AV × List AObj) := keepFK Try.prog n0 []
noncomputable def wire_writer_stmt (m : Nat) (t0 t1 : AV) (H : List AObj) : RO := exec Try.prog GG (wire_writer_stmt_env m) m ⟨17,[]⟩ wire_writer_stmt_c wire_writer_stmt_h ⟨H,argsT 0 [t0,t1]⟩ (wire_writer_stmt_fin H.length)
theorem wire_writer_stmt_eq (m : Nat) (t0 t1 : AV) (H : List AObj) : wire_writer_stmt m t0 t1 H =
 boxE ty_api_Stmt H t1 fun t3 H2 =>
 fieldE (some (0,1)) t3 fun t5 =>
 loadE 1 H2 t5 fun t6 =>
 fieldE (some (1,1)) t3 fun t7 =>
 loadE 1 H2 t7 fun t8 =>
 fieldE (some (2,1)) t3 fun t9 =>
 loadE 1 H2 t9 fun t10 =>
 fieldE (some (3,1)) t3 fun t11 =>
 loadE 1 H2 t11 fun t12 =>
 fieldE (some (4,1)) t3 fun t13 =>
 loadE 1 H2 t13 fun t14 =>
 buildSE (some (ty_int,1)) 5 [(0,t6),(1,t8),(2,t10),(3,t12),(4,t14)] fun t15 =>
 keepE (wire_writer_nums m (ro H2 t0) (ro H2 t15) H2) fun t16 H3 =>
 keepK H.length H3 (ro H3 (TU [])) := by
 refine (keepX Try.prog GG (wire_writer_stmt_env m) m ⟨17,[]⟩ H.length wire_writer_stmt_c wire_writer_stmt_h ⟨H,argsT 0 [t0,t1]⟩ []).trans ?_
 kernel_rfl
noncomputable def wire_writer_stmt_t (m : Nat) : List AV → List AObj → RO|[t0,t1],H=>wire_writer_stmt m t0 t1 H|_,_=>none
theorem wire_writer_stmt_ok (m : Nat) : ∀ args H X H',wire_writer_stmt_t m args H = some (X,H') → AC Try.prog GG 87 args H (Is X H') := by
 intro args H X H' h
 unfold wire_writer_stmt_t at h
 split at h
 ·exact keep_okK MIX (by
  intro f e h
  simp only [wire_writer_stmt_env,Prod.mk.injEq,List.mem_cons,List.not_mem_nil,or_false] at h
  obtain ⟨rfl,rfl⟩ := h
  ·exact wire_writer_nums_ok m) (f := 87) (c := wire_writer_stmt_c) Try.func87 rfl (by kernel_rfl) _ rfl Try.ntmps87 (Nat.le_of_ble_eq_true rfl) wire_writer_stmt_h h
 ·cases h
noncomputable def wire_each_Stmt_c : Code := (Try.f86.body).getD .skip
def wire_each_Stmt_h : Hint := (.two .n (.two .n (.one (.lp [] [2,13,14,15] [] (.two .n (.two (.two .n .n) (.two (.one (.two .n .n)) .n)))))))
noncomputable def wire_each_Stmt_env (m : Nat) : Env := [(85, .keep (wire_writer_nums_t m)),(87, .keep (wire_writer_stmt_t m))]
noncomputable abbrev wire_each_Stmt_fin (n0 : Nat) : KO (AV × List AObj) := keepFK Try.prog n0 []
noncomputable def wire_each_Stmt_b1 (m : Nat) (s : ASt) (kc : ASt → RO) (kx : KO (AV × List AObj)) : RO := bodyW Try.prog GG (wire_each_Stmt_env m) m ⟨23,[]⟩ (cdL (cdL (cdR (cdR wire_each_Stmt_c)))) wire_each_Stmt_h.r.r.c.c [2,13,14,15] [] s kc kx
noncomputable def wire_each_Stmt (m : Nat) (t0 t1 t2 : AV) (H : List AObj) : RO := exec Try.prog GG (wire_each_Stmt_env m) m ⟨23,[]⟩ wire_each_Stmt_c wire_each_Stmt_h ⟨H,argsT 0 [t0,t1,t2]⟩ (wire_each_Stmt_fin H.length)
theorem wire_each_Stmt_b1_eq (m : Nat) (H : List AObj) (t2 t13 t14 t15 : AV) (kc : ASt → RO) (kx : KO (AV × List AObj)) : wire_each_Stmt_b1 m ⟨H,[(2,t2),(13,t13),(14,t14),(15,t15)]⟩ kc kx =
 binE none false false .lss t15 t14 fun t16 =>
 condE t16 (
  idxSE 7 H t13 t15 fun t17 =>
  loadE 7 H t17 fun t18 =>
  allocE (some zc_api_Stmt) ty_api_Stmt H fun t7 H2 =>
  storeE 7 H2 t7 t18 fun H3 =>
  loadE 7 H3 t7 fun t20 =>
  callVE (wire_each_Stmt_env m) t2 [t20] H3 fun t21 H4 =>
  binE none false false .add t15 (V (.int .i64 1)) fun t22 =>
  backE H.length H4 [(2,t2),(13,t13),(14,t14),(15,t22)] kc) (
  kx (.exit 0) ⟨H,[]⟩) := by
 refine (bodyW_eq _ _ _ _ _ _ _ _ _ _ _ _).trans ?_
 kernel_rfl
theorem wire_each_Stmt_eq (m : Nat) (t0 t1 t2 : AV) (H : List AObj) : wire_each_Stmt m t0 t1 t2 H =
 lenE false true H t1 fun t10 =>
 buildSE (some (ty_int,1)) 1 [(0,t10)] fun t11 =>
 keepE (wire_writer_nums m (ro H t0) (ro H t11) H) fun t12 H2 =>
 lenE false true H2 t1 fun t14 =>
 iterC m (wire_each_Stmt_b1 m) ⟨H2,[(2,t2),(13,t1),(14,t14),(15,(V (.int .i64 0)))]⟩ (blockX 0 (wire_each_Stmt_fin H.length)) := by
 refine (keepX Try.prog GG (wire_each_Stmt_env m) m ⟨23,[]⟩ H.length wire_each_Stmt_c wire_each_Stmt_h ⟨H,argsT 0 [t0,t1,t2]⟩ []).trans ?_
 kernel_rfl
noncomputable def wire_each_Stmt_t (m : Nat) : List AV → List AObj → RO|[t0,t1,t2],H=>wire_each_Stmt m t0 t1 t2 H|_,_=>none
theorem wire_each_Stmt_ok (m : Nat) : ∀ args H X H',wire_each_Stmt_t m args H = some (X,H') → AC Try.prog GG 86 args H (Is X H') := by
 intro args H X H' h
 unfold wire_each_Stmt_t at h
 split at h
 ·exact keep_okK MIX (by
  intro f e h
  simp only [wire_each_Stmt_env,Prod.mk.injEq,List.mem_cons,List.not_mem_nil,or_false] at h
  rcases h with ⟨rfl,rfl⟩|⟨rfl,rfl⟩
  ·exact wire_writer_nums_ok m
  ·exact wire_writer_stmt_ok m) (f := 86) (c := wire_each_Stmt_c) Try.func86 rfl (by kernel_rfl) _ rfl Try.ntmps86 (Nat.le_of_ble_eq_true rfl) wire_each_Stmt_h h
 ·cases h
noncomputable def wire_writer_cert_c : Code := (Try.f89.body).getD .skip
def wire_writer_cert_h : Hint := (.two .n (.two .n (.two .n .n)))
noncomputable def wire_writer_cert_env (m : Nat) : Env := [(85, .keep (wire_writer_nums_t m)),(96, .keep (wire_writer_text_t m)),(86, .keep (wire_each_Stmt_t m))]
noncomputable abbrev wire_writer_cert_fin (n0 : Nat) : KO (AV × List AObj) := keepFK Try.prog n0 []
noncomputable def wire_writer_cert (m : Nat) (t0 t1 : AV) (H : List AObj) : RO := exec Try.prog GG (wire_writer_cert_env m) m ⟨23,[]⟩ wire_writer_cert_c wire_writer_cert_h ⟨H,argsT 0 [t0,t1]⟩ (wire_writer_cert_fin H.length)
theorem wire_writer_cert_eq (m : Nat) (t0 t1 : AV) (H : List AObj) : wire_writer_cert m t0 t1 H =
 boxE ty_api_Cert H t1 fun t3 H2 =>
 fieldE (some (0,1)) t3 fun t5 =>
 loadE 1 H2 t5 fun t6 =>
 fieldE (some (1,1)) t3 fun t7 =>
 loadE 1 H2 t7 fun t8 =>
 fieldE (some (2,1)) t3 fun t9 =>
 loadE 1 H2 t9 fun t10 =>
 buildSE (some (ty_int,1)) 3 [(0,t6),(1,t8),(2,t10)] fun t11 =>
 keepE (wire_writer_nums m (ro H2 t0) (ro H2 t11) H2) fun t12 H3 =>
 fieldE (some (3,1)) t3 fun t14 =>
 loadE 1 H3 t14 fun t15 =>
 keepE (wire_writer_text m (ro H3 t0) (ro H3 t15) H3) fun t16 H4 =>
 fieldE (some (4,1)) t3 fun t18 =>
 loadE 1 H4 t18 fun t19 =>
 whenE (([t0] : List AV).all cap0) (
 keepE (wire_each_Stmt m (ro H4 t0) (ro H4 t19) (ro H4 (CL (.func 87) 1 [t0])) H4) fun t22 H5 =>
 keepK H.length H5 (ro H5 (TU []))) := by
 refine (keepX Try.prog GG (wire_writer_cert_env m) m ⟨23,[]⟩ H.length wire_writer_cert_c wire_writer_cert_h ⟨H,argsT 0 [t0,t1]⟩ []).trans ?_
 kernel_rfl
noncomputable def wire_writer_cert_t (m : Nat) : List AV → List AObj → RO|[t0,t1],H=>wire_writer_cert m t0 t1 H|_,_=>none
theorem wire_writer_cert_ok (m : Nat) : ∀ args H X H',wire_writer_cert_t m args H = some (X,H') → AC Try.prog GG 89 args H (Is X H') := by
 intro args H X H' h
 unfold wire_writer_cert_t at h
 split at h
 ·exact keep_okK MIX (by
  intro f e h
  simp only [wire_writer_cert_env,Prod.mk.injEq,List.mem_cons,List.not_mem_nil,or_false] at h
  rcases h with ⟨rfl,rfl⟩|⟨rfl,rfl⟩|⟨rfl,rfl⟩
  ·exact wire_writer_nums_ok m
  ·exact wire_writer_text_ok m
  ·exact wire_each_Stmt_ok m) (f := 89) (c := wire_writer_cert_c) Try.func89 rfl (by kernel_rfl) _ rfl Try.ntmps89 (Nat.le_of_ble_eq_true rfl) wire_writer_cert_h h
 ·cases h
noncomputable def wire_each_Cert_c : Code := (Try.f88.body).getD .skip
def wire_each_Cert_h : Hint := (.two .n (.two .n (.one (.lp [] [2,13,14,15] [] (.two .n (.two (.two .n .n) (.two (.one (.two .n .n)) .n)))))))
noncomputable def wire_each_Cert_env (m : Nat) : Env := [(85, .keep (wire_writer_nums_t m)),(89, .keep (wire_writer_cert_t m))]
noncomputable abbrev wire_each_Cert_fin (n0 : Nat) : KO (AV × List AObj) := keepFK Try.prog n0 []
noncomputable def wire_each_Cert_b1 (m : Nat) (s : ASt) (kc : ASt → RO) (kx : KO (AV × List AObj)) : RO := bodyW Try.prog GG (wire_each_Cert_env m) m ⟨23,[]⟩ (cdL (cdL (cdR (cdR wire_each_Cert_c)))) wire_each_Cert_h.r.r.c.c [2,13,14,15] [] s kc kx
noncomputable def wire_each_Cert (m : Nat) (t0 t1 t2 : AV) (H : List AObj) : RO := exec Try.prog GG (wire_each_Cert_env m) m ⟨23,[]⟩ wire_each_Cert_c wire_each_Cert_h ⟨H,argsT 0 [t0,t1,t2]⟩ (wire_each_Cert_fin H.length)
theorem wire_each_Cert_b1_eq (m : Nat) (H : List AObj) (t2 t13 t14 t15 : AV) (kc : ASt → RO) (kx : KO (AV × List AObj)) : wire_each_Cert_b1 m ⟨H,[(2,t2),(13,t13),(14,t14),(15,t15)]⟩ kc kx =
 binE none false false .lss t15 t14 fun t16 =>
 condE t16 (
  idxSE 7 H t13 t15 fun t17 =>
  loadE 7 H t17 fun t18 =>
  allocE (some zc_api_Cert) ty_api_Cert H fun t7 H2 =>
  storeE 7 H2 t7 t18 fun H3 =>
  loadE 7 H3 t7 fun t20 =>
  callVE (wire_each_Cert_env m) t2 [t20] H3 fun t21 H4 =>
  binE none false false .add t15 (V (.int .i64 1)) fun t22 =>
  backE H.length H4 [(2,t2),(13,t13),(14,t14),(15,t22)] kc) (
  kx (.exit 0) ⟨H,[]⟩) := by
 refine (bodyW_eq _ _ _ _ _ _ _ _ _ _ _ _).trans ?_
 kernel_rfl
theorem wire_each_Cert_eq (m : Nat) (t0 t1 t2 : AV) (H : List AObj) : wire_each_Cert m t0 t1 t2 H =
 lenE false true H t1 fun t10 =>
 buildSE (some (ty_int,1)) 1 [(0,t10)] fun t11 =>
 keepE (wire_writer_nums m (ro H t0) (ro H t11) H) fun t12 H2 =>
 lenE false true H2 t1 fun t14 =>
 iterC m (wire_each_Cert_b1 m) ⟨H2,[(2,t2),(13,t1),(14,t14),(15,(V (.int .i64 0)))]⟩ (blockX 0 (wire_each_Cert_fin H.length)) := by
 refine (keepX Try.prog GG (wire_each_Cert_env m) m ⟨23,[]⟩ H.length wire_each_Cert_c wire_each_Cert_h ⟨H,argsT 0 [t0,t1,t2]⟩ []).trans ?_
 kernel_rfl
noncomputable def wire_each_Cert_t (m : Nat) : List AV → List AObj → RO|[t0,t1,t2],H=>wire_each_Cert m t0 t1 t2 H|_,_=>none
theorem wire_each_Cert_ok (m : Nat) : ∀ args H X H',wire_each_Cert_t m args H = some (X,H') → AC Try.prog GG 88 args H (Is X H') := by
 intro args H X H' h
 unfold wire_each_Cert_t at h
 split at h
 ·exact keep_okK MIX (by
  intro f e h
  simp only [wire_each_Cert_env,Prod.mk.injEq,List.mem_cons,List.not_mem_nil,or_false] at h
  rcases h with ⟨rfl,rfl⟩|⟨rfl,rfl⟩
  ·exact wire_writer_nums_ok m
  ·exact wire_writer_cert_ok m) (f := 88) (c := wire_each_Cert_c) Try.func88 rfl (by kernel_rfl) _ rfl Try.ntmps88 (Nat.le_of_ble_eq_true rfl) wire_each_Cert_h h
 ·cases h
noncomputable def wire_writer_change_c : Code := (Try.f61.body).getD .skip
def wire_writer_change_h : Hint := (.two .n (.two .n (.two .n .n)))
noncomputable def wire_writer_change_env (m : Nat) : Env := [(85, .keep (wire_writer_nums_t m)),(86, .keep (wire_each_Stmt_t m)),(88, .keep (wire_each_Cert_t m))]
noncomputable abbrev wire_writer_change_fin (n0 : Nat) : KO (AV × List AObj) := keepFK Try.prog n0 []
noncomputable def wire_writer_change (m : Nat) (t0 t1 : AV) (H : List AObj) : RO := exec Try.prog GG (wire_writer_change_env m) m ⟨27,[]⟩ wire_writer_change_c wire_writer_change_h ⟨H,argsT 0 [t0,t1]⟩ (wire_writer_change_fin H.length)
theorem wire_writer_change_eq (m : Nat) (t0 t1 : AV) (H : List AObj) : wire_writer_change m t0 t1 H =
 boxE ty_api_Change H t1 fun t3 H2 =>
 fieldE (some (0,1)) t3 fun t5 =>
 loadE 1 H2 t5 fun t6 =>
 fieldE (some (1,1)) t3 fun t7 =>
 loadE 1 H2 t7 fun t8 =>
 fieldE (some (2,1)) t3 fun t9 =>
 loadE 1 H2 t9 fun t10 =>
 fieldE (some (3,1)) t3 fun t11 =>
 loadE 1 H2 t11 fun t12 =>
 buildSE (some (ty_int,1)) 4 [(0,t6),(1,t8),(2,t10),(3,t12)] fun t13 =>
 keepE (wire_writer_nums m (ro H2 t0) (ro H2 t13) H2) fun t14 H3 =>
 fieldE (some (4,1)) t3 fun t16 =>
 loadE 1 H3 t16 fun t17 =>
 whenE (([t0] : List AV).all cap0) (
 keepE (wire_each_Stmt m (ro H3 t0) (ro H3 t17) (ro H3 (CL (.func 87) 1 [t0])) H3) fun t20 H4 =>
 fieldE (some (5,1)) t3 fun t22 =>
 loadE 1 H4 t22 fun t23 =>
 whenE (([t0] : List AV).all cap0) (
 keepE (wire_each_Cert m (ro H4 t0) (ro H4 t23) (ro H4 (CL (.func 89) 1 [t0])) H4) fun t26 H5 =>
 keepK H.length H5 (ro H5 (TU [])))) := by
 refine (keepX Try.prog GG (wire_writer_change_env m) m ⟨27,[]⟩ H.length wire_writer_change_c wire_writer_change_h ⟨H,argsT 0 [t0,t1]⟩ []).trans ?_
 kernel_rfl
noncomputable def wire_writer_change_t (m : Nat) : List AV → List AObj → RO|[t0,t1],H=>wire_writer_change m t0 t1 H|_,_=>none
theorem wire_writer_change_ok (m : Nat) : ∀ args H X H',wire_writer_change_t m args H = some (X,H') → AC Try.prog GG 61 args H (Is X H') := by
 intro args H X H' h
 unfold wire_writer_change_t at h
 split at h
 ·exact keep_okK MIX (by
  intro f e h
  simp only [wire_writer_change_env,Prod.mk.injEq,List.mem_cons,List.not_mem_nil,or_false] at h
  rcases h with ⟨rfl,rfl⟩|⟨rfl,rfl⟩|⟨rfl,rfl⟩
  ·exact wire_writer_nums_ok m
  ·exact wire_each_Stmt_ok m
  ·exact wire_each_Cert_ok m) (f := 61) (c := wire_writer_change_c) Try.func61 rfl (by kernel_rfl) _ rfl Try.ntmps61 (Nat.le_of_ble_eq_true rfl) wire_writer_change_h h
 ·cases h
noncomputable def wire_EncodeChange_c : Code := (Try.f33.body).getD .skip
def wire_EncodeChange_h : Hint := (.two .n (.two (.two .n (.two (.two .n .n) .n)) (.gh (3,0,ty_uint8,1) [1,3] .n (.two .n (.two .n .n)))))
noncomputable def wire_EncodeChange_env (m : Nat) : Env := [(60, .tell (wire_change_t m)),(61, .keep (wire_writer_change_t m))]
noncomputable abbrev wire_EncodeChange_fin : KO (AV × List AObj) := tellFK Try.prog [.tmp 2]
noncomputable def wire_EncodeChange_r1 (m : Nat) (s : ASt) : RO := joinW Try.prog GG (wire_EncodeChange_env m) m ⟨16,[]⟩ (cdR (cdR (cdR wire_EncodeChange_c))) wire_EncodeChange_h.r.r.r s (wire_EncodeChange_fin)
noncomputable def wire_EncodeChange (m : Nat) (t0 : AV) : RO := exec Try.prog GG (wire_EncodeChange_env m) m ⟨16,[]⟩ wire_EncodeChange_c wire_EncodeChange_h ⟨[],argsT 0 [t0]⟩ (wire_EncodeChange_fin)
theorem wire_EncodeChange_r1_eq (m : Nat) (H : List AObj) (t1 t3 : AV) : wire_EncodeChange_r1 m ⟨H,[(1,t1),(3,t3)]⟩ =
 loadE 8 H t1 fun t10 =>
 keepE (wire_writer_change m (ro H t3) (ro H t10) H) fun t11 H2 =>
 nilE t3 fun t13 =>
 fieldE (some (0,1)) t13 fun t14 =>
 loadE 1 H2 t14 fun t15 =>
 tellK H2 (ro H2 t15) := by
 refine (joinW_eq _ _ _ _ _ _ _ _ _).trans ?_
 kernel_rfl
theorem wire_EncodeChange_eq (m : Nat) (t0 : AV) : wire_EncodeChange m t0 =
 boxE ty_api_Change [] t0 fun t1 H1 =>
 loadE 8 H1 t1 fun t4 =>
 tellE (wire_change m (ro H1 t4)) [(ro H1 t4)] fun t5 =>
 unE .not t5 fun t6 =>
 condE t6 (
  tellK H1 (ro H1 (V (.slice none 0 0)))) (
  buildE (some pl_wire_writer) (some zc_wire_writer) [] fun t7 =>
  boxE ty_wire_writer H1 t7 fun t8 H2 =>
  wire_EncodeChange_r1 m (ghS 3 0 ty_uint8 1 ⟨H2,[(1,t1),(3,t8)]⟩)) := by
 refine (tellX _ _ _ _ _ _ _ _ _).trans ?_
 kernel_rfl
noncomputable def wire_EncodeChange_t (m : Nat) : List AV → RO|[t0]=>wire_EncodeChange m t0|_=>none
theorem wire_EncodeChange_ok (m : Nat) : ∀ args X H',wire_EncodeChange_t m args = some (X,H') → ACp Try.prog GG 33 args X := by
 intro args X H' h
 unfold wire_EncodeChange_t at h
 split at h
 ·exact tell_okK MIX (by
  intro f e h
  simp only [wire_EncodeChange_env,Prod.mk.injEq,List.mem_cons,List.not_mem_nil,or_false] at h
  rcases h with ⟨rfl,rfl⟩|⟨rfl,rfl⟩
  ·exact wire_change_ok m
  ·exact wire_writer_change_ok m) (f := 33) (c := wire_EncodeChange_c) Try.func33 rfl (by kernel_rfl) _ rfl Try.ntmps33 (Nat.le_of_ble_eq_true rfl) wire_EncodeChange_h h
 ·cases h
end Go.Proofs.Ytaaogcnjfkgnoaa

namespace Go.Proofs.Ytaaogcnjfkgnoaa
open Go.RowKit
def ty_api_Msg : TypeId := 65
def zc_api_Change : List AV := [(V (.int .i64 0)),(V (.int .i64 0)),(V (.int .i64 0)),(V (.int .i64 0)),(V (.slice none 0 0)),(V (.slice none 0 0))]
def zc_api_Msg : List AV := [(V (.int .i64 0)),(V (.int .i64 0)),(V (.int .i64 0)),(V (.int .i64 0)),(V (.int .i64 0)),(V (.string ⟨#[]⟩)),(V (.slice none 0 0)),(V (.slice none 0 0))]
noncomputable def plenumlaw28_text_c : Code := (Try.f25.body).getD .skip
def plenumlaw28_text_h : Hint := (.two .n (.join [0] (.join [0,10] .n (.two (.two .n .n) .n)) (.two (.two .n (.two (.two .n .n) .n)) (.two .n .n))))
noncomputable def plenumlaw28_text_env (m : Nat) : Env := []
noncomputable abbrev plenumlaw28_text_fin : KO (AV × List AObj) := tellFK Try.prog [.tmp 2]
noncomputable def plenumlaw28_text_r2 (m : Nat) (s : ASt) : RO := joinW Try.prog GG (plenumlaw28_text_env m) m ⟨19,[]⟩ (cdR (cdR plenumlaw28_text_c)) plenumlaw28_text_h.r.r s (plenumlaw28_text_fin)
noncomputable def plenumlaw28_text_r1 (m : Nat) (s : ASt) : RO := joinW Try.prog GG (plenumlaw28_text_env m) m ⟨19,[]⟩ (cdR (cdL (cdR plenumlaw28_text_c))) plenumlaw28_text_h.r.l.r s (seqX (fun s=>plenumlaw28_text_r2 m ⟨s.H,[(0,gt s.T 0)]⟩) (plenumlaw28_text_fin))
noncomputable def plenumlaw28_text (m : Nat) (t0 : AV) : RO := exec Try.prog GG (plenumlaw28_text_env m) m ⟨19,[]⟩ plenumlaw28_text_c plenumlaw28_text_h ⟨[],argsT 0 [t0]⟩ (plenumlaw28_text_fin)
theorem plenumlaw28_text_r2_eq (m : Nat) (H : List AObj) (t0 : AV) : plenumlaw28_text_r2 m ⟨H,[(0,t0)]⟩ =
 lenE true false H t0 fun t14 =>
 binE none false false .gtr t14 (V (.int .i64 65540)) fun t15 =>
 condE t15 (
  sliceE true none H t0 none (some (V (.int .i64 65540))) fun t17 =>
  tellK H (ro H t17)) (
  tellK H (ro H t0)) := by
 refine (joinW_eq _ _ _ _ _ _ _ _ _).trans ?_
 kernel_rfl
theorem plenumlaw28_text_r1_eq (m : Nat) (H : List AObj) (t0 t10 : AV) : plenumlaw28_text_r1 m ⟨H,[(0,t0),(10,t10)]⟩ =
 condE t10 (
  sliceE true none H t0 none (some (V (.int .i64 3000))) fun t12 =>
  tellK H (ro H t12)) (
  plenumlaw28_text_r2 m ⟨H,[(0,t0)]⟩) := by
 refine (joinW_eq _ _ _ _ _ _ _ _ _).trans ?_
 kernel_rfl
theorem plenumlaw28_text_eq (m : Nat) (t0 : AV) : plenumlaw28_text m t0 =
 lenE true false [] t0 fun t4 =>
 binE none false false .gtr t4 (V (.int .i64 3000)) fun t5 =>
 condE t5 (
  lenE true false [] t0 fun t8 =>
  binE none false false .leq t8 (V (.int .i64 65536)) fun t9 =>
  plenumlaw28_text_r1 m ⟨[],[(0,t0),(10,t9)]⟩) (
  plenumlaw28_text_r1 m ⟨[],[(0,t0),(10,(V (.bool false)))]⟩) := by
 refine (tellX _ _ _ _ _ _ _ _ _).trans ?_
 kernel_rfl
noncomputable def plenumlaw28_text_t (m : Nat) : List AV → RO|[t0]=>plenumlaw28_text m t0|_=>none
theorem plenumlaw28_text_ok (m : Nat) : ∀ args X H',plenumlaw28_text_t m args = some (X,H') → ACp Try.prog GG 25 args X := by
 intro args X H' h
 unfold plenumlaw28_text_t at h
 split at h
 ·exact tell_okK MIX (by intro f e h;cases h) (f := 25) (c := plenumlaw28_text_c) Try.func25 rfl (by kernel_rfl) _ rfl Try.ntmps25 (Nat.le_of_ble_eq_true rfl) plenumlaw28_text_h h
 ·cases h
noncomputable def plenumlaw28_stmts_c : Code := (Try.f24.body).getD .skip
def plenumlaw28_stmts_h : Hint := (.two .n (.two (.two .n (.two (.two .n .n) .n)) (.two .n .n)))
noncomputable def plenumlaw28_stmts_env (m : Nat) : Env := []
noncomputable abbrev plenumlaw28_stmts_fin : KO (AV × List AObj) := tellFK Try.prog [.tmp 2]
noncomputable def plenumlaw28_stmts (m : Nat) (t0 : AV) : RO := exec Try.prog GG (plenumlaw28_stmts_env m) m ⟨9,[]⟩ plenumlaw28_stmts_c plenumlaw28_stmts_h ⟨[],argsT 0 [t0]⟩ (plenumlaw28_stmts_fin)
theorem plenumlaw28_stmts_eq (m : Nat) (t0 : AV) : plenumlaw28_stmts m t0 =
 lenE false true [] t0 fun t4 =>
 binE none false false .gtr t4 (V (.int .i64 66)) fun t5 =>
 condE t5 (
  sliceE false (some (ty_api_Stmt,7)) [] t0 none (some (V (.int .i64 66))) fun t7 =>
  tellK [] (ro [] t7)) (
  tellK [] (ro [] t0)) := by
 refine (tellX _ _ _ _ _ _ _ _ _).trans ?_
 kernel_rfl
noncomputable def plenumlaw28_stmts_t (m : Nat) : List AV → RO|[t0]=>plenumlaw28_stmts m t0|_=>none
theorem plenumlaw28_stmts_ok (m : Nat) : ∀ args X H',plenumlaw28_stmts_t m args = some (X,H') → ACp Try.prog GG 24 args X := by
 intro args X H' h
 unfold plenumlaw28_stmts_t at h
 split at h
 ·exact tell_okK MIX (by intro f e h;cases h) (f := 24) (c := plenumlaw28_stmts_c) Try.func24 rfl (by kernel_rfl) _ rfl Try.ntmps24 (Nat.le_of_ble_eq_true rfl) plenumlaw28_stmts_h h
 ·cases h
noncomputable def plenumlaw28_FewChange_c : Code := (Try.f7.body).getD .skip
def plenumlaw28_FewChange_h : Hint := (.two .n (.two .n (.join [1,2] (.two .n (.two .n .n)) (.two .n (.join [1,2,3] (.two .n (.one (.lp [(3,ty_api_Cert,5)] [1,2,3,4] [1,2,3] (.two (.two .n (.two .n .n)) (.two (.one (.two .n (.two .n (.two .n .n)))) .n))))) (.two .n (.two .n .n)))))))
noncomputable def plenumlaw28_FewChange_env (m : Nat) : Env := [(24, .tell (plenumlaw28_stmts_t m)),(25, .tell (plenumlaw28_text_t m))]
noncomputable abbrev plenumlaw28_FewChange_fin : KO (AV × List AObj) := tellFK Try.prog [.cell 2 30]
noncomputable def plenumlaw28_FewChange_r2 (m : Nat) (s : ASt) : RO := joinW Try.prog GG (plenumlaw28_FewChange_env m) m ⟨45,[]⟩ (cdR (cdR (cdR (cdR (cdR plenumlaw28_FewChange_c))))) plenumlaw28_FewChange_h.r.r.r.r.r s (plenumlaw28_FewChange_fin)
noncomputable def plenumlaw28_FewChange_b1 (m : Nat) (s : ASt) (kc : ASt → RO) (kx : KO (AV × List AObj)) : RO := bodyW Try.prog GG (plenumlaw28_FewChange_env m) m ⟨45,[]⟩ (cdL (cdL (cdR (cdL (cdR (cdR (cdR (cdR plenumlaw28_FewChange_c)))))))) plenumlaw28_FewChange_h.r.r.r.r.l.r.c.c [1,2,3,4] [1,2,3] s kc kx
noncomputable def plenumlaw28_FewChange_r1 (m : Nat) (s : ASt) : RO := joinW Try.prog GG (plenumlaw28_FewChange_env m) m ⟨45,[]⟩ (cdR (cdR (cdR plenumlaw28_FewChange_c))) plenumlaw28_FewChange_h.r.r.r s (plenumlaw28_FewChange_fin)
noncomputable def plenumlaw28_FewChange (m : Nat) (t0 : AV) : RO := exec Try.prog GG (plenumlaw28_FewChange_env m) m ⟨45,[]⟩ plenumlaw28_FewChange_c plenumlaw28_FewChange_h ⟨[],argsT 0 [t0]⟩ (plenumlaw28_FewChange_fin)
theorem plenumlaw28_FewChange_r2_eq (m : Nat) (H : List AObj) (t1 t2 t3 : AV) : plenumlaw28_FewChange_r2 m ⟨H,[(1,t1),(2,t2),(3,t3)]⟩ =
 fieldE (some (5,1)) t1 fun t43 =>
 storeE 1 H t43 t3 fun H2 =>
 loadE 8 H2 t1 fun t44 =>
 storeE 8 H2 t2 t44 fun H3 =>
 loadE 8 H3 t2 fun t9000 =>
 tellK H3 (ro H3 t9000) := by
 refine (joinW_eq _ _ _ _ _ _ _ _ _).trans ?_
 kernel_rfl
theorem plenumlaw28_FewChange_b1_eq (m : Nat) (H : List AObj) (t1 t2 t3 t4 : AV) (kc : ASt → RO) (kx : KO (AV × List AObj)) : plenumlaw28_FewChange_b1 m ⟨H,[(1,t1),(2,t2),(3,t3),(4,t4)]⟩ kc kx =
 fieldE (some (5,1)) t1 fun t19 =>
 loadE 1 H t19 fun t20 =>
 lenE false true H t20 fun t21 =>
 binE none false false .lss t4 t21 fun t22 =>
 condE t22 (
  fieldE (some (5,1)) t1 fun t25 =>
  loadE 1 H t25 fun t26 =>
  idxSE 7 H t26 t4 fun t28 =>
  loadE 7 H t28 fun t29 =>
  allocE (some zc_api_Cert) ty_api_Cert H fun t5 H2 =>
  storeE 7 H2 t5 t29 fun H3 =>
  fieldE (some (3,1)) t5 fun t30 =>
  loadE 1 H3 t30 fun t31 =>
  tellE (plenumlaw28_text m (ro H3 t31)) [(ro H3 t31)] fun t32 =>
  fieldE (some (3,1)) t5 fun t33 =>
  storeE 1 H3 t33 t32 fun H4 =>
  fieldE (some (4,1)) t5 fun t34 =>
  loadE 1 H4 t34 fun t35 =>
  tellE (plenumlaw28_stmts m (ro H4 t35)) [(ro H4 t35)] fun t36 =>
  fieldE (some (4,1)) t5 fun t37 =>
  storeE 1 H4 t37 t36 fun H5 =>
  loadE 7 H5 t5 fun t39 =>
  buildSE (some (ty_api_Cert,5)) 1 [(0,t39)] fun t40 =>
  appE (some (ty_api_Cert,5)) H5 t3 t40 fun t41 H6 =>
  binE none false false .add t4 (V (.int .i64 1)) fun t24 =>
  backE H.length H6 [(1,t1),(2,t2),(3,t41),(4,t24)] kc) (
  kx (.exit 0) ⟨H,[(1,t1),(2,t2),(3,t3)]⟩) := by
 refine (bodyW_eq _ _ _ _ _ _ _ _ _ _ _ _).trans ?_
 kernel_rfl
theorem plenumlaw28_FewChange_r1_eq (m : Nat) (H : List AObj) (t1 t2 : AV) : plenumlaw28_FewChange_r1 m ⟨H,[(1,t1),(2,t2)]⟩ =
 rowE (V (.slice none 0 0)) ty_api_Cert 5 H fun t3 H2 =>
 iterC m (plenumlaw28_FewChange_b1 m) ⟨H2,[(1,t1),(2,t2),(3,t3),(4,(V (.int .i64 0)))]⟩ (blockX 0 (seqX (fun s=>plenumlaw28_FewChange_r2 m ⟨s.H,[(1,gt s.T 1),(2,gt s.T 2),(3,gt s.T 3)]⟩) (plenumlaw28_FewChange_fin))) := by
 refine (joinW_eq _ _ _ _ _ _ _ _ _).trans ?_
 kernel_rfl
theorem plenumlaw28_FewChange_eq (m : Nat) (t0 : AV) : plenumlaw28_FewChange m t0 =
 boxE ty_api_Change [] t0 fun t1 H1 =>
 allocE (some zc_api_Change) ty_api_Change H1 fun t2 H2 =>
 fieldE (some (4,1)) t1 fun t6 =>
 loadE 1 H2 t6 fun t7 =>
 tellE (plenumlaw28_stmts m (ro H2 t7)) [(ro H2 t7)] fun t8 =>
 fieldE (some (4,1)) t1 fun t9 =>
 storeE 1 H2 t9 t8 fun H3 =>
 fieldE (some (5,1)) t1 fun t10 =>
 loadE 1 H3 t10 fun t11 =>
 lenE false true H3 t11 fun t12 =>
 binE none false false .gtr t12 (V (.int .i64 66)) fun t13 =>
 condE t13 (
  fieldE (some (5,1)) t1 fun t14 =>
  loadE 1 H3 t14 fun t15 =>
  sliceE false (some (ty_api_Cert,7)) H3 t15 none (some (V (.int .i64 66))) fun t16 =>
  fieldE (some (5,1)) t1 fun t17 =>
  storeE 1 H3 t17 t16 fun H4 =>
  plenumlaw28_FewChange_r1 m ⟨H4,[(1,t1),(2,t2)]⟩) (
  plenumlaw28_FewChange_r1 m ⟨H3,[(1,t1),(2,t2)]⟩) := by
 refine (tellX _ _ _ _ _ _ _ _ _).trans ?_
 kernel_rfl
noncomputable def plenumlaw28_FewChange_t (m : Nat) : List AV → RO|[t0]=>plenumlaw28_FewChange m t0|_=>none
theorem plenumlaw28_FewChange_ok (m : Nat) : ∀ args X H',plenumlaw28_FewChange_t m args = some (X,H') → ACp Try.prog GG 7 args X := by
 intro args X H' h
 unfold plenumlaw28_FewChange_t at h
 split at h
 ·exact tell_okK MIX (by
  intro f e h
  simp only [plenumlaw28_FewChange_env,Prod.mk.injEq,List.mem_cons,List.not_mem_nil,or_false] at h
  rcases h with ⟨rfl,rfl⟩|⟨rfl,rfl⟩
  ·exact plenumlaw28_stmts_ok m
  ·exact plenumlaw28_text_ok m) (f := 7) (c := plenumlaw28_FewChange_c) Try.func7 rfl (by kernel_rfl) _ rfl Try.ntmps7 (Nat.le_of_ble_eq_true rfl) plenumlaw28_FewChange_h h
 ·cases h
end Go.Proofs.Ytaaogcnjfkgnoaa

namespace Go.Proofs.Ytaaogcnjfkgnoaa
open Go.RowKit
def ty_api_Choice : TypeId := 73
def zc_api_Choice : List AV := [(V (.int .i64 0)),(V (.int .i64 0)),(V (.string ⟨#[]⟩)),(V (.bool false))]
def pl_api_Choice : List (Nat × Nat) := [(0,1),(1,1),(2,1),(3,1)]
noncomputable def choose_certs_c : Code := (Try.f74.body).getD .skip
def choose_certs_h : Hint := (.two .n (.two .n (.join [] (.two .n (.one (.lp [] [1,3,9,10,11] [2] (.two .n (.two (.two .n .n) (.join [1,3,9,10,11] (.one (.two .n (.join [1,5,9,10,11] (.join [1,5,9,10,11,37] .n (.two (.two .n .n) .n)) .n))) .n)))))) (.two .n .n))))
noncomputable def choose_certs_env (m : Nat) : Env := []
noncomputable abbrev choose_certs_fin : KO (AV × List AObj) := tellFK Try.prog [.tmp 2]
noncomputable def choose_certs_r5 (m : Nat) (n0 : Nat) (kc : ASt → RO) (kx : KO (AV × List AObj)) (s : ASt) : RO := joinW Try.prog GG (choose_certs_env m) m ⟨41,[]⟩ (cdR (cdR (cdR (cdL (cdL (cdR (cdL (cdR (cdR choose_certs_c))))))))) choose_certs_h.r.r.l.r.c.c.r.r.r s (backW n0 [1,3,9,10,11] [2] kc kx)
noncomputable def choose_certs_r4 (m : Nat) (n0 : Nat) (kc : ASt → RO) (kx : KO (AV × List AObj)) (s : ASt) : RO := joinW Try.prog GG (choose_certs_env m) m ⟨41,[]⟩ (cdR (cdR (cdR (cdL (cdL (cdR (cdL (cdR (cdR choose_certs_c))))))))) choose_certs_h.r.r.l.r.c.c.r.r.r s (backW n0 [1,3,9,10,11] [2] kc kx)
noncomputable def choose_certs_r3 (m : Nat) (n0 : Nat) (kc : ASt → RO) (kx : KO (AV × List AObj)) (s : ASt) : RO := joinW Try.prog GG (choose_certs_env m) m ⟨41,[]⟩ (cdR (cdR (cdL (cdL (cdR (cdR (cdL (cdL (cdR (cdL (cdR (cdR choose_certs_c)))))))))))) choose_certs_h.r.r.l.r.c.c.r.r.l.c.r.r s (blockX 1 (seqX (fun s=>choose_certs_r5 m n0 kc kx ⟨s.H,[(1,gt s.T 1),(3,gt s.T 3),(9,gt s.T 9),(10,gt s.T 10),(11,gt s.T 11)]⟩) (backW n0 [1,3,9,10,11] [2] kc kx)))
noncomputable def choose_certs_r2 (m : Nat) (n0 : Nat) (kc : ASt → RO) (kx : KO (AV × List AObj)) (s : ASt) : RO := joinW Try.prog GG (choose_certs_env m) m ⟨41,[]⟩ (cdR (cdL (cdR (cdL (cdL (cdR (cdR (cdL (cdL (cdR (cdL (cdR (cdR choose_certs_c))))))))))))) choose_certs_h.r.r.l.r.c.c.r.r.l.c.r.l.r s (seqX (fun s=>choose_certs_r3 m n0 kc kx ⟨s.H,[(1,gt s.T 1),(5,gt s.T 5),(9,gt s.T 9),(10,gt s.T 10),(11,gt s.T 11)]⟩) (blockX 1 (seqX (fun s=>choose_certs_r4 m n0 kc kx ⟨s.H,[(1,gt s.T 1),(3,gt s.T 3),(9,gt s.T 9),(10,gt s.T 10),(11,gt s.T 11)]⟩) (backW n0 [1,3,9,10,11] [2] kc kx))))
noncomputable def choose_certs_r1 (m : Nat) (s : ASt) : RO := joinW Try.prog GG (choose_certs_env m) m ⟨41,[]⟩ (cdR (cdR (cdR choose_certs_c))) choose_certs_h.r.r.r s (choose_certs_fin)
noncomputable def choose_certs_b1 (m : Nat) (s : ASt) (kc : ASt → RO) (kx : KO (AV × List AObj)) : RO := bodyW Try.prog GG (choose_certs_env m) m ⟨41,[]⟩ (cdL (cdL (cdR (cdL (cdR (cdR choose_certs_c)))))) choose_certs_h.r.r.l.r.c.c [1,3,9,10,11] [2] s kc kx
noncomputable def choose_certs (m : Nat) (t0 : AV) : RO := exec Try.prog GG (choose_certs_env m) m ⟨41,[]⟩ choose_certs_c choose_certs_h ⟨[],argsT 0 [t0]⟩ (choose_certs_fin)
theorem choose_certs_r5_eq (m : Nat) (n0 : Nat) (kc : ASt → RO) (kx : KO (AV × List AObj)) (H : List AObj) (t1 t3 t9 t10 t11 : AV) : choose_certs_r5 m n0 kc kx ⟨H,[(1,t1),(3,t3),(9,t9),(10,t10),(11,t11)]⟩ =
 binE none false false .add t11 (V (.int .i64 1)) fun t40 =>
 backE n0 H [(1,t1),(3,t3),(9,t9),(10,t10),(11,t40)] kc := by
 refine (joinW_eq _ _ _ _ _ _ _ _ _).trans ?_
 kernel_rfl
theorem choose_certs_r3_eq (m : Nat) (n0 : Nat) (kc : ASt → RO) (kx : KO (AV × List AObj)) (H : List AObj) (t1 t5 t9 t10 t11 : AV) : choose_certs_r3 m n0 kc kx ⟨H,[(1,t1),(5,t5),(9,t9),(10,t10),(11,t11)]⟩ =
 fieldE (some (0,1)) t5 fun t38 =>
 loadE 1 H t38 fun t39 =>
 choose_certs_r5 m n0 kc kx ⟨H,[(1,t1),(3,t39),(9,t9),(10,t10),(11,t11)]⟩ := by
 refine (joinW_eq _ _ _ _ _ _ _ _ _).trans ?_
 kernel_rfl
theorem choose_certs_r2_eq (m : Nat) (n0 : Nat) (kc : ASt → RO) (kx : KO (AV × List AObj)) (H : List AObj) (t1 t5 t9 t10 t11 t37 : AV) : choose_certs_r2 m n0 kc kx ⟨H,[(1,t1),(5,t5),(9,t9),(10,t10),(11,t11),(37,t37)]⟩ =
 condE t37 (
  kx .ret ⟨H,[(2,(V (.bool false)))]⟩) (
  choose_certs_r3 m n0 kc kx ⟨H,[(1,t1),(5,t5),(9,t9),(10,t10),(11,t11)]⟩) := by
 refine (joinW_eq _ _ _ _ _ _ _ _ _).trans ?_
 kernel_rfl
theorem choose_certs_r1_eq (m : Nat) (H : List AObj) : choose_certs_r1 m ⟨H,[]⟩ =
 tellK H (ro H (V (.bool true))) := by
 refine (joinW_eq _ _ _ _ _ _ _ _ _).trans ?_
 kernel_rfl
theorem choose_certs_b1_eq (m : Nat) (H : List AObj) (t1 t3 t9 t10 t11 : AV) (kc : ASt → RO) (kx : KO (AV × List AObj)) : choose_certs_b1 m ⟨H,[(1,t1),(3,t3),(9,t9),(10,t10),(11,t11)]⟩ kc kx =
 binE none false false .lss t11 t10 fun t12 =>
 condE t12 (
  idxSE 7 H t9 t11 fun t13 =>
  loadE 7 H t13 fun t14 =>
  allocE (some zc_api_Cert) ty_api_Cert H fun t5 H2 =>
  storeE 7 H2 t5 t14 fun H3 =>
  fieldE (some (0,1)) t5 fun t15 =>
  loadE 1 H3 t15 fun t16 =>
  binE none false false .leq t16 t3 fun t18 =>
  condE t18 (
   choose_certs_r2 m H.length kc kx ⟨H3,[(1,t1),(5,t5),(9,t9),(10,t10),(11,t11),(37,(V (.bool true)))]⟩) (
   fieldE (some (0,1)) t5 fun t20 =>
   loadE 1 H3 t20 fun t21 =>
   fieldE (some (2,1)) t1 fun t22 =>
   loadE 1 H3 t22 fun t23 =>
   binE none false false .sub t21 t23 fun t24 =>
   binE none false false .gtr t24 (V (.int .i64 16)) fun t25 =>
   condE t25 (
   choose_certs_r2 m H.length kc kx ⟨H3,[(1,t1),(5,t5),(9,t9),(10,t10),(11,t11),(37,(V (.bool true)))]⟩) (
   fieldE (some (1,1)) t5 fun t28 =>
   loadE 1 H3 t28 fun t29 =>
   binE none false false .lss t29 (V (.int .i64 0)) fun t30 =>
   condE t30 (
   choose_certs_r2 m H.length kc kx ⟨H3,[(1,t1),(5,t5),(9,t9),(10,t10),(11,t11),(37,(V (.bool true)))]⟩) (
   fieldE (some (3,1)) t5 fun t33 =>
   loadE 1 H3 t33 fun t34 =>
   lenE true false H3 t34 fun t35 =>
   binE none false false .gtr t35 (V (.int .i64 65536)) fun t36 =>
   choose_certs_r2 m H.length kc kx ⟨H3,[(1,t1),(5,t5),(9,t9),(10,t10),(11,t11),(37,t36)]⟩)))) (
  kx (.exit 0) ⟨H,[(2, .nil)]⟩) := by
 refine (bodyW_eq _ _ _ _ _ _ _ _ _ _ _ _).trans ?_
 kernel_rfl
theorem choose_certs_eq (m : Nat) (t0 : AV) : choose_certs m t0 =
 boxE ty_api_Change [] t0 fun t1 H1 =>
 fieldE (some (2,1)) t1 fun t6 =>
 loadE 1 H1 t6 fun t7 =>
 fieldE (some (5,1)) t1 fun t8 =>
 loadE 1 H1 t8 fun t9 =>
 lenE false true H1 t9 fun t10 =>
 iterC m (choose_certs_b1 m) ⟨H1,[(1,t1),(3,t7),(9,t9),(10,t10),(11,(V (.int .i64 0)))]⟩ (blockX 0 (seqX (fun s=>choose_certs_r1 m ⟨s.H,[]⟩) (choose_certs_fin))) := by
 refine (tellX _ _ _ _ _ _ _ _ _).trans ?_
 kernel_rfl
noncomputable def choose_certs_t (m : Nat) : List AV → RO|[t0]=>choose_certs m t0|_=>none
theorem choose_certs_ok (m : Nat) : ∀ args X H',choose_certs_t m args = some (X,H') → ACp Try.prog GG 74 args X := by
 intro args X H' h
 unfold choose_certs_t at h
 split at h
 ·exact tell_okK MIX (by intro f e h;cases h) (f := 74) (c := choose_certs_c) Try.func74 rfl (by kernel_rfl) _ rfl Try.ntmps74 (Nat.le_of_ble_eq_true rfl) choose_certs_h h
 ·cases h
noncomputable def choose_May_c : Code := (Try.f51.body).getD .skip
def choose_May_h : Hint := (.two .n (.two (.two .n (.two .n (.two (.two .n .n) .n))) (.two .n (.join [1,7] (.two .n (.one (.lp [] [1,7,17,18,19] [1,4,7] (.two .n (.two (.two .n .n) (.join [1,7,17,18,19] (.one (.two .n (.join [1,7,9,17,18,19] (.join [1,7,9,17,18,19,58] .n (.two (.two .n .n) .n)) .n))) .n)))))) (.two .n .n)))))
noncomputable def choose_May_env (m : Nat) : Env := [(32, .tell (quorum_Faults_t m)),(38, .tell (quorum_Has_t m)),(62, .tell (marks_Due_t m)),(74, .tell (choose_certs_t m)),(63, .tell (quorum_IsStrong_t m)),(75, .tell (quorum_With_t m))]
noncomputable abbrev choose_May_fin : KO (AV × List AObj) := tellFK Try.prog [.tmp 4]
noncomputable def choose_May_r5 (m : Nat) (n0 : Nat) (kc : ASt → RO) (kx : KO (AV × List AObj)) (s : ASt) : RO := joinW Try.prog GG (choose_May_env m) m ⟨67,[]⟩ (cdR (cdR (cdR (cdL (cdL (cdR (cdL (cdR (cdR (cdR choose_May_c)))))))))) choose_May_h.r.r.r.l.r.c.c.r.r.r s (backW n0 [1,7,17,18,19] [1,4,7] kc kx)
noncomputable def choose_May_r4 (m : Nat) (n0 : Nat) (kc : ASt → RO) (kx : KO (AV × List AObj)) (s : ASt) : RO := joinW Try.prog GG (choose_May_env m) m ⟨67,[]⟩ (cdR (cdR (cdR (cdL (cdL (cdR (cdL (cdR (cdR (cdR choose_May_c)))))))))) choose_May_h.r.r.r.l.r.c.c.r.r.r s (backW n0 [1,7,17,18,19] [1,4,7] kc kx)
noncomputable def choose_May_r3 (m : Nat) (n0 : Nat) (kc : ASt → RO) (kx : KO (AV × List AObj)) (s : ASt) : RO := joinW Try.prog GG (choose_May_env m) m ⟨67,[]⟩ (cdR (cdR (cdL (cdL (cdR (cdR (cdL (cdL (cdR (cdL (cdR (cdR (cdR choose_May_c))))))))))))) choose_May_h.r.r.r.l.r.c.c.r.r.l.c.r.r s (blockX 1 (seqX (fun s=>choose_May_r5 m n0 kc kx ⟨s.H,[(1,gt s.T 1),(7,gt s.T 7),(17,gt s.T 17),(18,gt s.T 18),(19,gt s.T 19)]⟩) (backW n0 [1,7,17,18,19] [1,4,7] kc kx)))
noncomputable def choose_May_r2 (m : Nat) (n0 : Nat) (kc : ASt → RO) (kx : KO (AV × List AObj)) (s : ASt) : RO := joinW Try.prog GG (choose_May_env m) m ⟨67,[]⟩ (cdR (cdL (cdR (cdL (cdL (cdR (cdR (cdL (cdL (cdR (cdL (cdR (cdR (cdR choose_May_c)))))))))))))) choose_May_h.r.r.r.l.r.c.c.r.r.l.c.r.l.r s (seqX (fun s=>choose_May_r3 m n0 kc kx ⟨s.H,[(1,gt s.T 1),(7,gt s.T 7),(9,gt s.T 9),(17,gt s.T 17),(18,gt s.T 18),(19,gt s.T 19)]⟩) (blockX 1 (seqX (fun s=>choose_May_r4 m n0 kc kx ⟨s.H,[(1,gt s.T 1),(7,gt s.T 7),(17,gt s.T 17),(18,gt s.T 18),(19,gt s.T 19)]⟩) (backW n0 [1,7,17,18,19] [1,4,7] kc kx))))
noncomputable def choose_May_r1 (m : Nat) (s : ASt) : RO := joinW Try.prog GG (choose_May_env m) m ⟨67,[]⟩ (cdR (cdR (cdR (cdR choose_May_c)))) choose_May_h.r.r.r.r s (choose_May_fin)
noncomputable def choose_May_b1 (m : Nat) (s : ASt) (kc : ASt → RO) (kx : KO (AV × List AObj)) : RO := bodyW Try.prog GG (choose_May_env m) m ⟨67,[]⟩ (cdL (cdL (cdR (cdL (cdR (cdR (cdR choose_May_c))))))) choose_May_h.r.r.r.l.r.c.c [1,7,17,18,19] [1,4,7] s kc kx
noncomputable def choose_May (m : Nat) (t0 t1 : AV) : RO := exec Try.prog GG (choose_May_env m) m ⟨67,[]⟩ choose_May_c choose_May_h ⟨[],argsT 0 [t0,t1]⟩ (choose_May_fin)
theorem choose_May_r5_eq (m : Nat) (n0 : Nat) (kc : ASt → RO) (kx : KO (AV × List AObj)) (H : List AObj) (t1 t7 t17 t18 t19 : AV) : choose_May_r5 m n0 kc kx ⟨H,[(1,t1),(7,t7),(17,t17),(18,t18),(19,t19)]⟩ =
 binE none false false .add t19 (V (.int .i64 1)) fun t63 =>
 backE n0 H [(1,t1),(7,t7),(17,t17),(18,t18),(19,t63)] kc := by
 refine (joinW_eq _ _ _ _ _ _ _ _ _).trans ?_
 kernel_rfl
theorem choose_May_r3_eq (m : Nat) (n0 : Nat) (kc : ASt → RO) (kx : KO (AV × List AObj)) (H : List AObj) (t1 t7 t9 t17 t18 t19 : AV) : choose_May_r3 m n0 kc kx ⟨H,[(1,t1),(7,t7),(9,t9),(17,t17),(18,t18),(19,t19)]⟩ =
 fieldE (some (0,1)) t9 fun t60 =>
 loadE 1 H t60 fun t61 =>
 tellE (quorum_With m (ro H t7) (ro H t61)) [(ro H t7),(ro H t61)] fun t62 =>
 choose_May_r5 m n0 kc kx ⟨H,[(1,t1),(7,t62),(17,t17),(18,t18),(19,t19)]⟩ := by
 refine (joinW_eq _ _ _ _ _ _ _ _ _).trans ?_
 kernel_rfl
theorem choose_May_r2_eq (m : Nat) (n0 : Nat) (kc : ASt → RO) (kx : KO (AV × List AObj)) (H : List AObj) (t1 t7 t9 t17 t18 t19 t58 : AV) : choose_May_r2 m n0 kc kx ⟨H,[(1,t1),(7,t7),(9,t9),(17,t17),(18,t18),(19,t19),(58,t58)]⟩ =
 condE t58 (
  kx .ret ⟨H,[(1,t1),(4,(V (.bool false))),(7,t7)]⟩) (
  choose_May_r3 m n0 kc kx ⟨H,[(1,t1),(7,t7),(9,t9),(17,t17),(18,t18),(19,t19)]⟩) := by
 refine (joinW_eq _ _ _ _ _ _ _ _ _).trans ?_
 kernel_rfl
theorem choose_May_r1_eq (m : Nat) (H : List AObj) (t1 t7 : AV) : choose_May_r1 m ⟨H,[(1,t1),(7,t7)]⟩ =
 tellE (quorum_IsStrong m (ro H t7) (ro H t1)) [(ro H t7),(ro H t1)] fun t66 =>
 tellK H (ro H t66) := by
 refine (joinW_eq _ _ _ _ _ _ _ _ _).trans ?_
 kernel_rfl
theorem choose_May_b1_eq (m : Nat) (H : List AObj) (t1 t7 t17 t18 t19 : AV) (kc : ASt → RO) (kx : KO (AV × List AObj)) : choose_May_b1 m ⟨H,[(1,t1),(7,t7),(17,t17),(18,t18),(19,t19)]⟩ kc kx =
 binE none false false .lss t19 t18 fun t20 =>
 condE t20 (
  idxSE 8 H t17 t19 fun t21 =>
  loadE 8 H t21 fun t22 =>
  allocE (some zc_api_Change) ty_api_Change H fun t9 H2 =>
  storeE 8 H2 t9 t22 fun H3 =>
  fieldE (some (0,1)) t9 fun t23 =>
  loadE 1 H3 t23 fun t24 =>
  binE none false false .lss t24 (V (.int .i64 0)) fun t25 =>
  condE t25 (
   choose_May_r2 m H.length kc kx ⟨H3,[(1,t1),(7,t7),(9,t9),(17,t17),(18,t18),(19,t19),(58,(V (.bool true)))]⟩) (
   fieldE (some (0,1)) t9 fun t27 =>
   loadE 1 H3 t27 fun t28 =>
   binE none false false .geq t28 t1 fun t30 =>
   condE t30 (
   choose_May_r2 m H.length kc kx ⟨H3,[(1,t1),(7,t7),(9,t9),(17,t17),(18,t18),(19,t19),(58,(V (.bool true)))]⟩) (
   fieldE (some (0,1)) t9 fun t34 =>
   loadE 1 H3 t34 fun t35 =>
   tellE (quorum_Has m (ro H3 t7) (ro H3 t35)) [(ro H3 t7),(ro H3 t35)] fun t36 =>
   condE t36 (
   choose_May_r2 m H.length kc kx ⟨H3,[(1,t1),(7,t7),(9,t9),(17,t17),(18,t18),(19,t19),(58,(V (.bool true)))]⟩) (
   fieldE (some (2,1)) t9 fun t39 =>
   loadE 1 H3 t39 fun t40 =>
   binE none false false .neq t40 (V (.int .i64 0)) fun t41 =>
   condE t41 (
   fieldE (some (2,1)) t9 fun t43 =>
   loadE 1 H3 t43 fun t44 =>
   tellE (marks_Due m (ro H3 t44)) [(ro H3 t44)] fun t45 =>
   unE .not t45 fun t46 =>
   condE t46 (
   choose_May_r2 m H.length kc kx ⟨H3,[(1,t1),(7,t7),(9,t9),(17,t17),(18,t18),(19,t19),(58,(V (.bool true)))]⟩) (
   fieldE (some (2,1)) t9 fun t50 =>
   loadE 1 H3 t50 fun t51 =>
   binE none false false .gtr t51 (V (.int .i64 2147483647)) fun t52 =>
   condE t52 (
   choose_May_r2 m H.length kc kx ⟨H3,[(1,t1),(7,t7),(9,t9),(17,t17),(18,t18),(19,t19),(58,(V (.bool true)))]⟩) (
   loadE 8 H3 t9 fun t55 =>
   tellE (choose_certs m (ro H3 t55)) [(ro H3 t55)] fun t56 =>
   unE .not t56 fun t57 =>
   choose_May_r2 m H.length kc kx ⟨H3,[(1,t1),(7,t7),(9,t9),(17,t17),(18,t18),(19,t19),(58,t57)]⟩))) (
   fieldE (some (2,1)) t9 fun t50 =>
   loadE 1 H3 t50 fun t51 =>
   binE none false false .gtr t51 (V (.int .i64 2147483647)) fun t52 =>
   condE t52 (
   choose_May_r2 m H.length kc kx ⟨H3,[(1,t1),(7,t7),(9,t9),(17,t17),(18,t18),(19,t19),(58,(V (.bool true)))]⟩) (
   loadE 8 H3 t9 fun t55 =>
   tellE (choose_certs m (ro H3 t55)) [(ro H3 t55)] fun t56 =>
   unE .not t56 fun t57 =>
   choose_May_r2 m H.length kc kx ⟨H3,[(1,t1),(7,t7),(9,t9),(17,t17),(18,t18),(19,t19),(58,t57)]⟩)))))) (
  kx (.exit 0) ⟨H,[(1,t1),(4, .nil),(7,t7)]⟩) := by
 refine (bodyW_eq _ _ _ _ _ _ _ _ _ _ _ _).trans ?_
 kernel_rfl
theorem choose_May_eq (m : Nat) (t0 t1 : AV) : choose_May m t0 t1 =
 tellE (quorum_Faults m (ro [] t1)) [(ro [] t1)] fun t12 =>
 extE t12 0 fun t13 =>
 extE t12 1 fun t14 =>
 binE none false false .neq t14 (V (.int .i64 0)) fun t16 =>
 condE t16 (
  tellK [] (ro [] (V (.bool false)))) (
  lenE false true [] t0 fun t18 =>
  iterC m (choose_May_b1 m) ⟨[],[(1,t1),(7,(V (.int .u64 0))),(17,t0),(18,t18),(19,(V (.int .i64 0)))]⟩ (blockX 0 (seqX (fun s=>choose_May_r1 m ⟨s.H,[(1,gt s.T 1),(7,gt s.T 7)]⟩) (choose_May_fin)))) := by
 refine (tellX _ _ _ _ _ _ _ _ _).trans ?_
 kernel_rfl
noncomputable def choose_May_t (m : Nat) : List AV → RO|[t0,t1]=>choose_May m t0 t1|_=>none
theorem choose_May_ok (m : Nat) : ∀ args X H',choose_May_t m args = some (X,H') → ACp Try.prog GG 51 args X := by
 intro args X H' h
 unfold choose_May_t at h
 split at h
 ·exact tell_okK MIX (by
  intro f e h
  simp only [choose_May_env,Prod.mk.injEq,List.mem_cons,List.not_mem_nil,or_false] at h
  rcases h with ⟨rfl,rfl⟩|⟨rfl,rfl⟩|⟨rfl,rfl⟩|⟨rfl,rfl⟩|⟨rfl,rfl⟩|⟨rfl,rfl⟩
  ·exact quorum_Faults_ok m
  ·exact quorum_Has_ok m
  ·exact marks_Due_ok m
  ·exact choose_certs_ok m
  ·exact quorum_IsStrong_ok m
  ·exact quorum_With_ok m) (f := 51) (c := choose_May_c) Try.func51 rfl (by kernel_rfl) _ rfl Try.ntmps51 (Nat.le_of_ble_eq_true rfl) choose_May_h h
 ·cases h
noncomputable def choose_Low_c : Code := (Try.f76.body).getD .skip
def choose_Low_h : Hint := (.two .n (.two (.two .n (.two (.two .n .n) .n)) (.two .n (.join [7] (.two .n (.one (.lp [] [7,17,18,19] [7] (.two .n (.two (.two .n .n) (.join [7,17,18,19] (.one (.two .n (.two .n (.two .n .n)))) .n)))))) (.two .n .n)))))
noncomputable def choose_Low_env (m : Nat) : Env := [(51, .tell (choose_May_t m))]
noncomputable abbrev choose_Low_fin : KO (AV × List AObj) := tellFK Try.prog [.tmp 4, .tmp 5, .tmp 6]
noncomputable def choose_Low_r2 (m : Nat) (n0 : Nat) (kc : ASt → RO) (kx : KO (AV × List AObj)) (s : ASt) : RO := joinW Try.prog GG (choose_Low_env m) m ⟨34,[]⟩ (cdR (cdR (cdR (cdL (cdL (cdR (cdL (cdR (cdR (cdR choose_Low_c)))))))))) choose_Low_h.r.r.r.l.r.c.c.r.r.r s (backW n0 [7,17,18,19] [7] kc kx)
noncomputable def choose_Low_r1 (m : Nat) (s : ASt) : RO := joinW Try.prog GG (choose_Low_env m) m ⟨34,[]⟩ (cdR (cdR (cdR (cdR choose_Low_c)))) choose_Low_h.r.r.r.r s (choose_Low_fin)
noncomputable def choose_Low_b1 (m : Nat) (s : ASt) (kc : ASt → RO) (kx : KO (AV × List AObj)) : RO := bodyW Try.prog GG (choose_Low_env m) m ⟨34,[]⟩ (cdL (cdL (cdR (cdL (cdR (cdR (cdR choose_Low_c))))))) choose_Low_h.r.r.r.l.r.c.c [7,17,18,19] [7] s kc kx
noncomputable def choose_Low (m : Nat) (t0 t1 : AV) : RO := exec Try.prog GG (choose_Low_env m) m ⟨34,[]⟩ choose_Low_c choose_Low_h ⟨[],argsT 0 [t0,t1]⟩ (choose_Low_fin)
theorem choose_Low_r2_eq (m : Nat) (n0 : Nat) (kc : ASt → RO) (kx : KO (AV × List AObj)) (H : List AObj) (t7 t17 t18 t19 : AV) : choose_Low_r2 m n0 kc kx ⟨H,[(7,t7),(17,t17),(18,t18),(19,t19)]⟩ =
 binE none false false .add t19 (V (.int .i64 1)) fun t29 =>
 backE n0 H [(7,t7),(17,t17),(18,t18),(19,t29)] kc := by
 refine (joinW_eq _ _ _ _ _ _ _ _ _).trans ?_
 kernel_rfl
theorem choose_Low_r1_eq (m : Nat) (H : List AObj) (t7 : AV) : choose_Low_r1 m ⟨H,[(7,t7)]⟩ =
 fieldE (some (2,1)) t7 fun t30 =>
 loadE 1 H t30 fun t31 =>
 fieldE (some (3,1)) t7 fun t32 =>
 loadE 1 H t32 fun t33 =>
 tellK H (ro H (TU [noT t31,noT t33,noT (V (.int .i64 0))])) := by
 refine (joinW_eq _ _ _ _ _ _ _ _ _).trans ?_
 kernel_rfl
theorem choose_Low_b1_eq (m : Nat) (H : List AObj) (t7 t17 t18 t19 : AV) (kc : ASt → RO) (kx : KO (AV × List AObj)) : choose_Low_b1 m ⟨H,[(7,t7),(17,t17),(18,t18),(19,t19)]⟩ kc kx =
 binE none false false .lss t19 t18 fun t20 =>
 condE t20 (
  idxSE 8 H t17 t19 fun t21 =>
  loadE 8 H t21 fun t22 =>
  allocE (some zc_api_Change) ty_api_Change H fun t9 H2 =>
  storeE 8 H2 t9 t22 fun H3 =>
  fieldE (some (2,1)) t9 fun t23 =>
  loadE 1 H3 t23 fun t24 =>
  fieldE (some (2,1)) t7 fun t25 =>
  loadE 1 H3 t25 fun t26 =>
  binE none false false .gtr t24 t26 fun t27 =>
  condE t27 (
   loadE 8 H3 t9 fun t28 =>
   storeE 8 H3 t7 t28 fun H4 =>
   choose_Low_r2 m H.length kc kx ⟨H4,[(7,t7),(17,t17),(18,t18),(19,t19)]⟩) (
   choose_Low_r2 m H.length kc kx ⟨H3,[(7,t7),(17,t17),(18,t18),(19,t19)]⟩)) (
  kx (.exit 0) ⟨H,[(7,t7)]⟩) := by
 refine (bodyW_eq _ _ _ _ _ _ _ _ _ _ _ _).trans ?_
 kernel_rfl
theorem choose_Low_eq (m : Nat) (t0 t1 : AV) : choose_Low m t0 t1 =
 tellE (choose_May m (ro [] t0) (ro [] t1)) [(ro [] t0),(ro [] t1)] fun t12 =>
 unE .not t12 fun t13 =>
 condE t13 (
  tellK [] (ro [] (TU [noT (V (.int .i64 0)),noT (V (.int .i64 0)),noT (V (.int .i64 1))]))) (
  idxSE 8 [] t0 (V (.int .i64 0)) fun t15 =>
  loadE 8 [] t15 fun t16 =>
  allocE (some zc_api_Change) ty_api_Change [] fun t7 H1 =>
  storeE 8 H1 t7 t16 fun H2 =>
  lenE false true H2 t0 fun t18 =>
  iterC m (choose_Low_b1 m) ⟨H2,[(7,t7),(17,t0),(18,t18),(19,(V (.int .i64 0)))]⟩ (blockX 0 (seqX (fun s=>choose_Low_r1 m ⟨s.H,[(7,gt s.T 7)]⟩) (choose_Low_fin)))) := by
 refine (tellX _ _ _ _ _ _ _ _ _).trans ?_
 kernel_rfl
noncomputable def choose_Low_t (m : Nat) : List AV → RO|[t0,t1]=>choose_Low m t0 t1|_=>none
theorem choose_Low_ok (m : Nat) : ∀ args X H',choose_Low_t m args = some (X,H') → ACp Try.prog GG 76 args X := by
 intro args X H' h
 unfold choose_Low_t at h
 split at h
 ·exact tell_okK MIX (by
  intro f e h
  simp only [choose_Low_env,Prod.mk.injEq,List.mem_cons,List.not_mem_nil,or_false] at h
  obtain ⟨rfl,rfl⟩ := h
  ·exact choose_May_ok m) (f := 76) (c := choose_Low_c) Try.func76 rfl (by kernel_rfl) _ rfl Try.ntmps76 (Nat.le_of_ble_eq_true rfl) choose_Low_h h
 ·cases h
end Go.Proofs.Ytaaogcnjfkgnoaa

namespace Go.Proofs.Ytaaogcnjfkgnoaa
open Go.RowKit
def ty_string : TypeId := 9
def ty_term_Table : TypeId := 107
def zc_term_Table : List AV := [(V (.map none)),(V (.slice none 0 0))]
def pl_term_Table : List (Nat × Nat) := [(0,1),(1,1)]
noncomputable def term_New_c : Code := (Try.f26.body).getD .skip
def term_New_h : Hint := (.two .n (.gh (0,1,ty_string,1) [0] .n .n))
noncomputable def term_New_env (m : Nat) : Env := []
noncomputable abbrev term_New_fin (n0 : Nat) : KO (AV × List AObj) := openFK Try.prog n0 [.tmp 0]
noncomputable def term_New_r1 (m : Nat) (n0k : Nat) (s : ASt) : RO := joinW Try.prog GG (term_New_env m) m ⟨4,[]⟩ (cdR (cdR term_New_c)) term_New_h.r.r s (term_New_fin n0k)
noncomputable def term_New (m : Nat) (H : List AObj) : RO := exec Try.prog GG (term_New_env m) m ⟨4,[]⟩ term_New_c term_New_h ⟨H,argsT 0 []⟩ (term_New_fin H.length)
theorem term_New_r1_eq (m : Nat) (n0k : Nat) (H : List AObj) (t0 : AV) : term_New_r1 m n0k ⟨H,[(0,t0)]⟩ =
 openK H (ro H t0) := by
 refine (joinW_eq _ _ _ _ _ _ _ _ _).trans ?_
 kernel_rfl
theorem term_New_eq (m : Nat) (H : List AObj) : term_New m H =
 makeE (mapT Try.prog 105) H fun t1 H2 =>
 buildE (some pl_term_Table) (some zc_term_Table) [(0,t1)] fun t2 =>
 boxE ty_term_Table H2 t2 fun t3 H3 =>
 term_New_r1 m H.length (ghS 0 1 ty_string 1 ⟨H3,[(0,t3)]⟩) := by
 refine (openX Try.prog GG (term_New_env m) m ⟨4,[]⟩ H.length term_New_c term_New_h ⟨H,argsT 0 []⟩ [.tmp 0]).trans ?_
 kernel_rfl
noncomputable def term_New_t (m : Nat) : List AV → List AObj → RO|[],H=>term_New m H|_,_=>none
theorem term_New_ok (m : Nat) : ∀ args H X H',term_New_t m args H = some (X,H') → AC Try.prog GG 26 args H (Is X H') := by
 intro args H X H' h
 unfold term_New_t at h
 split at h
 ·exact open_ok (n := H.length) MIX (by intro f e h;cases h) (f := 26) (c := term_New_c) Try.func26 rfl (by kernel_rfl) _ rfl Try.ntmps26 (Nat.le_of_ble_eq_true rfl) term_New_h h
 ·cases h
noncomputable def term_Table_Of_c : Code := (Try.f28.body).getD .skip
def term_Table_Of_h : Hint := (.two .n (.two (.two .n (.two .n (.two (.two .n .n) .n))) (.two (.two .n (.two (.two .n .n) .n)) (.two .n (.two .n (.two .n .n))))))
noncomputable def term_Table_Of_env (m : Nat) : Env := []
noncomputable abbrev term_Table_Of_fin (n0 : Nat) : KO (AV × List AObj) := keepFK Try.prog n0 [.tmp 4, .tmp 5]
noncomputable def term_Table_Of (m : Nat) (t0 t1 : AV) (H : List AObj) : RO := exec Try.prog GG (term_Table_Of_env m) m ⟨50,[]⟩ term_Table_Of_c term_Table_Of_h ⟨H,argsT 0 [t0,t1]⟩ (term_Table_Of_fin H.length)
theorem term_Table_Of_eq (m : Nat) (t0 t1 : AV) (H : List AObj) : term_Table_Of m t0 t1 H =
 nilE t0 fun t10 =>
 fieldE (some (0,1)) t10 fun t11 =>
 loadE 1 H t11 fun t12 =>
 lookE Try.prog 105 H t12 t1 true fun t14 =>
 extE t14 0 fun t15 =>
 extE t14 1 fun t16 =>
 condE t16 (
  keepK H.length H (ro H (TU [noT t15,noT (V (.int .i64 0))]))) (
  nilE t0 fun t20 =>
  fieldE (some (1,1)) t20 fun t21 =>
  loadE 1 H t21 fun t22 =>
  lenE false true H t22 fun t23 =>
  binE none false false .geq t23 (V (.int .i64 65536)) fun t24 =>
  condE t24 (
   keepK H.length H (ro H (TU [noT (V (.int .i64 0)),noT (V (.int .i64 5))]))) (
   nilE t0 fun t27 =>
   fieldE (some (1,1)) t27 fun t28 =>
   loadE 1 H t28 fun t29 =>
   buildSE (some (ty_string,1)) 1 [(0,t1)] fun t31 =>
   appE (some (ty_string,1)) H t29 t31 fun t32 H2 =>
   nilE t0 fun t33 =>
   fieldE (some (1,1)) t33 fun t34 =>
   storeE 1 H2 t34 t32 fun H3 =>
   nilE t0 fun t36 =>
   fieldE (some (0,1)) t36 fun t37 =>
   loadE 1 H3 t37 fun t38 =>
   nilE t0 fun t41 =>
   fieldE (some (1,1)) t41 fun t42 =>
   loadE 1 H3 t42 fun t43 =>
   lenE false true H3 t43 fun t44 =>
   putME Try.prog 105 H3 t38 t1 t44 fun H4 =>
   nilE t0 fun t46 =>
   fieldE (some (1,1)) t46 fun t47 =>
   loadE 1 H4 t47 fun t48 =>
   lenE false true H4 t48 fun t49 =>
   keepK H.length H4 (ro H4 (TU [noT t49,noT (V (.int .i64 0))])))) := by
 refine (keepX Try.prog GG (term_Table_Of_env m) m ⟨50,[]⟩ H.length term_Table_Of_c term_Table_Of_h ⟨H,argsT 0 [t0,t1]⟩ [.tmp 4, .tmp 5]).trans ?_
 kernel_rfl
noncomputable def term_Table_Of_t (m : Nat) : List AV → List AObj → RO|[t0,t1],H=>term_Table_Of m t0 t1 H|_,_=>none
theorem term_Table_Of_ok (m : Nat) : ∀ args H X H',term_Table_Of_t m args H = some (X,H') → AC Try.prog GG 28 args H (Is X H') := by
 intro args H X H' h
 unfold term_Table_Of_t at h
 split at h
 ·exact keep_okK MIX (by intro f e h;cases h) (f := 28) (c := term_Table_Of_c) Try.func28 rfl (by kernel_rfl) _ rfl Try.ntmps28 (Nat.le_of_ble_eq_true rfl) term_Table_Of_h h
 ·cases h
end Go.Proofs.Ytaaogcnjfkgnoaa

namespace Go.Proofs.Ytaaogcnjfkgnoaa
open Go.RowKit
def ty_a64_bool : TypeId := 117
def ty_ring_Ring : TypeId := 119
def zc_a64_bool : List AV := [(V (.bool false)),(V (.bool false)),(V (.bool false)),(V (.bool false)),(V (.bool false)),(V (.bool false)),(V (.bool false)),(V (.bool false)),(V (.bool false)),(V (.bool false)),(V (.bool false)),(V (.bool false)),(V (.bool false)),(V (.bool false)),(V (.bool false)),(V (.bool false)),(V (.bool false)),(V (.bool false)),(V (.bool false)),(V (.bool false)),(V (.bool false)),(V (.bool false)),(V (.bool false)),(V (.bool false)),(V (.bool false)),(V (.bool false)),(V (.bool false)),(V (.bool false)),(V (.bool false)),(V (.bool false)),(V (.bool false)),(V (.bool false)),(V (.bool false)),(V (.bool false)),(V (.bool false)),(V (.bool false)),(V (.bool false)),(V (.bool false)),(V (.bool false)),(V (.bool false)),(V (.bool false)),(V (.bool false)),(V (.bool false)),(V (.bool false)),(V (.bool false)),(V (.bool false)),(V (.bool false)),(V (.bool false)),(V (.bool false)),(V (.bool false)),(V (.bool false)),(V (.bool false)),(V (.bool false)),(V (.bool false)),(V (.bool false)),(V (.bool false)),(V (.bool false)),(V (.bool false)),(V (.bool false)),(V (.bool false)),(V (.bool false)),(V (.bool false)),(V (.bool false)),(V (.bool false))]
def zc_ring_Ring : List AV := [(V (.int .i64 0)),(V (.bool false)),(V (.bool false)),(V (.bool false)),(V (.bool false)),(V (.bool false)),(V (.bool false)),(V (.bool false)),(V (.bool false)),(V (.bool false)),(V (.bool false)),(V (.bool false)),(V (.bool false)),(V (.bool false)),(V (.bool false)),(V (.bool false)),(V (.bool false)),(V (.bool false)),(V (.bool false)),(V (.bool false)),(V (.bool false)),(V (.bool false)),(V (.bool false)),(V (.bool false)),(V (.bool false)),(V (.bool false)),(V (.bool false)),(V (.bool false)),(V (.bool false)),(V (.bool false)),(V (.bool false)),(V (.bool false)),(V (.bool false)),(V (.bool false)),(V (.bool false)),(V (.bool false)),(V (.bool false)),(V (.bool false)),(V (.bool false)),(V (.bool false)),(V (.bool false)),(V (.bool false)),(V (.bool false)),(V (.bool false)),(V (.bool false)),(V (.bool false)),(V (.bool false)),(V (.bool false)),(V (.bool false)),(V (.bool false)),(V (.bool false)),(V (.bool false)),(V (.bool false)),(V (.bool false)),(V (.bool false)),(V (.bool false)),(V (.bool false)),(V (.bool false)),(V (.bool false)),(V (.bool false)),(V (.bool false)),(V (.bool false)),(V (.bool false)),(V (.bool false)),(V (.bool false)),(V (.map none)),(V (.slice none 0 0))]
def pl_ring_Ring : List (Nat × Nat) := [(0,1),(1,64),(65,1),(66,1)]
noncomputable def ring_Ring_is_c : Code := (Try.f57.body).getD .skip
def ring_Ring_is_h : Hint := (.two .n (.two .n .n))
noncomputable def ring_Ring_is_env (m : Nat) : Env := []
noncomputable abbrev ring_Ring_is_fin (n0 : Nat) : KO (AV × List AObj) := keepFK Try.prog n0 [.tmp 4]
noncomputable def ring_Ring_is (m : Nat) (t0 t1 : AV) (H : List AObj) : RO := exec Try.prog GG (ring_Ring_is_env m) m ⟨15,[]⟩ ring_Ring_is_c ring_Ring_is_h ⟨H,argsT 0 [t0,t1]⟩ (ring_Ring_is_fin H.length)
theorem ring_Ring_is_eq (m : Nat) (t0 t1 : AV) (H : List AObj) : ring_Ring_is m t0 t1 H =
 binE none false false .geq t1 (V (.int .i64 0)) fun t6 =>
 condE t6 (
  nilE t0 fun t10 =>
  fieldE (some (0,1)) t10 fun t11 =>
  loadE 1 H t11 fun t12 =>
  binE none false false .lss t1 t12 fun t13 =>
  keepK H.length H (ro H t13)) (
  keepK H.length H (ro H (V (.bool false)))) := by
 refine (keepX Try.prog GG (ring_Ring_is_env m) m ⟨15,[]⟩ H.length ring_Ring_is_c ring_Ring_is_h ⟨H,argsT 0 [t0,t1]⟩ [.tmp 4]).trans ?_
 kernel_rfl
noncomputable def ring_Ring_is_t (m : Nat) : List AV → List AObj → RO|[t0,t1],H=>ring_Ring_is m t0 t1 H|_,_=>none
theorem ring_Ring_is_ok (m : Nat) : ∀ args H X H',ring_Ring_is_t m args H = some (X,H') → AC Try.prog GG 57 args H (Is X H') := by
 intro args H X H' h
 unfold ring_Ring_is_t at h
 split at h
 ·exact keep_okK MIX (by intro f e h;cases h) (f := 57) (c := ring_Ring_is_c) Try.func57 rfl (by kernel_rfl) _ rfl Try.ntmps57 (Nat.le_of_ble_eq_true rfl) ring_Ring_is_h h
 ·cases h
noncomputable def ring_Ring_Bad_c : Code := (Try.f59.body).getD .skip
def ring_Ring_Bad_h : Hint := (.two .n (.two .n .n))
noncomputable def ring_Ring_Bad_env (m : Nat) : Env := [(57, .keep (ring_Ring_is_t m))]
noncomputable abbrev ring_Ring_Bad_fin (n0 : Nat) : KO (AV × List AObj) := keepFK Try.prog n0 [.tmp 4]
noncomputable def ring_Ring_Bad (m : Nat) (t0 t1 : AV) (H : List AObj) : RO := exec Try.prog GG (ring_Ring_Bad_env m) m ⟨16,[]⟩ ring_Ring_Bad_c ring_Ring_Bad_h ⟨H,argsT 0 [t0,t1]⟩ (ring_Ring_Bad_fin H.length)
theorem ring_Ring_Bad_eq (m : Nat) (t0 t1 : AV) (H : List AObj) : ring_Ring_Bad m t0 t1 H =
 keepE (ring_Ring_is m (ro H t0) (ro H t1) H) fun t7 H2 =>
 condE t7 (
  nilE t0 fun t11 =>
  fieldE (some (1,66)) t11 fun t12 =>
  idxPE 64 1 t12 t1 fun t13 =>
  loadE 1 H2 t13 fun t14 =>
  keepK H.length H2 (ro H2 t14)) (
  keepK H.length H2 (ro H2 (V (.bool false)))) := by
 refine (keepX Try.prog GG (ring_Ring_Bad_env m) m ⟨16,[]⟩ H.length ring_Ring_Bad_c ring_Ring_Bad_h ⟨H,argsT 0 [t0,t1]⟩ [.tmp 4]).trans ?_
 kernel_rfl
noncomputable def ring_Ring_Bad_t (m : Nat) : List AV → List AObj → RO|[t0,t1],H=>ring_Ring_Bad m t0 t1 H|_,_=>none
theorem ring_Ring_Bad_ok (m : Nat) : ∀ args H X H',ring_Ring_Bad_t m args H = some (X,H') → AC Try.prog GG 59 args H (Is X H') := by
 intro args H X H' h
 unfold ring_Ring_Bad_t at h
 split at h
 ·exact keep_okK MIX (by
  intro f e h
  simp only [ring_Ring_Bad_env,Prod.mk.injEq,List.mem_cons,List.not_mem_nil,or_false] at h
  obtain ⟨rfl,rfl⟩ := h
  ·exact ring_Ring_is_ok m) (f := 59) (c := ring_Ring_Bad_c) Try.func59 rfl (by kernel_rfl) _ rfl Try.ntmps59 (Nat.le_of_ble_eq_true rfl) ring_Ring_Bad_h h
 ·cases h
noncomputable def ring_Ring_Has_c : Code := (Try.f36.body).getD .skip
def ring_Ring_Has_h : Hint := (.two .n (.two .n .n))
noncomputable def ring_Ring_Has_env (m : Nat) : Env := []
noncomputable abbrev ring_Ring_Has_fin (n0 : Nat) : KO (AV × List AObj) := keepFK Try.prog n0 [.tmp 4]
noncomputable def ring_Ring_Has (m : Nat) (t0 t1 : AV) (H : List AObj) : RO := exec Try.prog GG (ring_Ring_Has_env m) m ⟨12,[]⟩ ring_Ring_Has_c ring_Ring_Has_h ⟨H,argsT 0 [t0,t1]⟩ (ring_Ring_Has_fin H.length)
theorem ring_Ring_Has_eq (m : Nat) (t0 t1 : AV) (H : List AObj) : ring_Ring_Has m t0 t1 H =
 boxE ty_api_Stmt H t1 fun t3 H2 =>
 nilE t0 fun t6 =>
 fieldE (some (65,1)) t6 fun t7 =>
 loadE 1 H2 t7 fun t8 =>
 loadE 7 H2 t3 fun t9 =>
 lookE Try.prog 116 H2 t8 t9 false fun t10 =>
 binE none false false .gtr t10 (V (.int .i64 0)) fun t11 =>
 keepK H.length H2 (ro H2 t11) := by
 refine (keepX Try.prog GG (ring_Ring_Has_env m) m ⟨12,[]⟩ H.length ring_Ring_Has_c ring_Ring_Has_h ⟨H,argsT 0 [t0,t1]⟩ [.tmp 4]).trans ?_
 kernel_rfl
noncomputable def ring_Ring_Has_t (m : Nat) : List AV → List AObj → RO|[t0,t1],H=>ring_Ring_Has m t0 t1 H|_,_=>none
theorem ring_Ring_Has_ok (m : Nat) : ∀ args H X H',ring_Ring_Has_t m args H = some (X,H') → AC Try.prog GG 36 args H (Is X H') := by
 intro args H X H' h
 unfold ring_Ring_Has_t at h
 split at h
 ·exact keep_okK MIX (by intro f e h;cases h) (f := 36) (c := ring_Ring_Has_c) Try.func36 rfl (by kernel_rfl) _ rfl Try.ntmps36 (Nat.le_of_ble_eq_true rfl) ring_Ring_Has_h h
 ·cases h
noncomputable def ring_New_c : Code := (Try.f27.body).getD .skip
def ring_New_h : Hint := (.two .n (.join [0,1] (.join [0,1,14] .n (.two (.two .n .n) .n)) (.gh (6,66,ty_api_Stmt,5) [1,6] .n (.join [6] (.two .n (.one (.lp [] [6,19,20,21] [4,5,6] (.two .n (.two (.two .n .n) (.two (.one (.two .n (.two (.two .n (.two (.two .n .n) .n)) .n))) .n)))))) (.two .n .n)))))
noncomputable def ring_New_env (m : Nat) : Env := [(57, .keep (ring_Ring_is_t m))]
noncomputable abbrev ring_New_fin (n0 : Nat) : KO (AV × List AObj) := openFK Try.prog n0 [.tmp 4, .tmp 5]
noncomputable def ring_New_r4 (m : Nat) (n0k : Nat) (s : ASt) : RO := joinW Try.prog GG (ring_New_env m) m ⟨36,[]⟩ (cdR (cdR (cdR (cdR ring_New_c)))) ring_New_h.r.r.r.r s (ring_New_fin n0k)
noncomputable def ring_New_b1 (m : Nat) (s : ASt) (kc : ASt → RO) (kx : KO (AV × List AObj)) : RO := bodyW Try.prog GG (ring_New_env m) m ⟨36,[]⟩ (cdL (cdL (cdR (cdL (cdR (cdR (cdR ring_New_c))))))) ring_New_h.r.r.r.l.r.c.c [6,19,20,21] [4,5,6] s kc kx
noncomputable def ring_New_r3 (m : Nat) (n0k : Nat) (s : ASt) : RO := joinW Try.prog GG (ring_New_env m) m ⟨36,[]⟩ (cdR (cdR (cdR ring_New_c))) ring_New_h.r.r.r s (ring_New_fin n0k)
noncomputable def ring_New_r2 (m : Nat) (n0k : Nat) (s : ASt) : RO := joinW Try.prog GG (ring_New_env m) m ⟨36,[]⟩ (cdR (cdR ring_New_c)) ring_New_h.r.r s (ring_New_fin n0k)
noncomputable def ring_New_r1 (m : Nat) (n0k : Nat) (s : ASt) : RO := joinW Try.prog GG (ring_New_env m) m ⟨36,[]⟩ (cdR (cdL (cdR ring_New_c))) ring_New_h.r.l.r s (seqX (fun s=>ring_New_r2 m n0k ⟨s.H,[(0,gt s.T 0),(1,gt s.T 1)]⟩) (ring_New_fin n0k))
noncomputable def ring_New (m : Nat) (t0 t1 : AV) (H : List AObj) : RO := exec Try.prog GG (ring_New_env m) m ⟨36,[]⟩ ring_New_c ring_New_h ⟨H,argsT 0 [t0,t1]⟩ (ring_New_fin H.length)
theorem ring_New_r4_eq (m : Nat) (n0k : Nat) (H : List AObj) (t6 : AV) : ring_New_r4 m n0k ⟨H,[(6,t6)]⟩ =
 openK H (ro H (TU [noT t6,noT (V (.int .i64 0))])) := by
 refine (joinW_eq _ _ _ _ _ _ _ _ _).trans ?_
 kernel_rfl
theorem ring_New_b1_eq (m : Nat) (H : List AObj) (t6 t19 t20 t21 : AV) (kc : ASt → RO) (kx : KO (AV × List AObj)) : ring_New_b1 m ⟨H,[(6,t6),(19,t19),(20,t20),(21,t21)]⟩ kc kx =
 binE none false false .lss t21 t20 fun t22 =>
 condE t22 (
  idxSE 1 H t19 t21 fun t23 =>
  loadE 1 H t23 fun t24 =>
  keepE (ring_Ring_is m (ro H t6) (ro H t24) H) fun t27 H2 =>
  unE .not t27 fun t28 =>
  condE t28 (
   kx .ret ⟨H2,[(4,(V (.pointer none))),(5,(V (.int .i64 1))),(6,t6)]⟩) (
   nilE t6 fun t31 =>
   fieldE (some (1,66)) t31 fun t32 =>
   idxPE 64 1 t32 t24 fun t33 =>
   storeE 1 H2 t33 (V (.bool true)) fun H3 =>
   binE none false false .add t21 (V (.int .i64 1)) fun t34 =>
   backE H.length H3 [(6,t6),(19,t19),(20,t20),(21,t34)] kc)) (
  kx (.exit 0) ⟨H,[(4, .nil),(5, .nil),(6,t6)]⟩) := by
 refine (bodyW_eq _ _ _ _ _ _ _ _ _ _ _ _).trans ?_
 kernel_rfl
theorem ring_New_r3_eq (m : Nat) (n0k : Nat) (H : List AObj) (t1 t6 : AV) : ring_New_r3 m n0k ⟨H,[(1,t1),(6,t6)]⟩ =
 lenE false true H t1 fun t20 =>
 iterC m (ring_New_b1 m) ⟨H,[(6,t6),(19,t1),(20,t20),(21,(V (.int .i64 0)))]⟩ (blockX 0 (seqX (fun s=>ring_New_r4 m n0k ⟨s.H,[(6,gt s.T 6)]⟩) (ring_New_fin n0k))) := by
 refine (joinW_eq _ _ _ _ _ _ _ _ _).trans ?_
 kernel_rfl
theorem ring_New_r2_eq (m : Nat) (n0k : Nat) (H : List AObj) (t0 t1 : AV) : ring_New_r2 m n0k ⟨H,[(0,t0),(1,t1)]⟩ =
 makeE (mapT Try.prog 116) H fun t16 H2 =>
 buildE (some pl_ring_Ring) (some zc_ring_Ring) [(0,t0),(2,t16)] fun t17 =>
 boxE ty_ring_Ring H2 t17 fun t18 H3 =>
 ring_New_r3 m n0k (ghS 6 66 ty_api_Stmt 5 ⟨H3,[(1,t1),(6,t18)]⟩) := by
 refine (joinW_eq _ _ _ _ _ _ _ _ _).trans ?_
 kernel_rfl
theorem ring_New_r1_eq (m : Nat) (n0k : Nat) (H : List AObj) (t0 t1 t14 : AV) : ring_New_r1 m n0k ⟨H,[(0,t0),(1,t1),(14,t14)]⟩ =
 condE t14 (
  openK H (ro H (TU [noT (V (.pointer none)),noT (V (.int .i64 1))]))) (
  ring_New_r2 m n0k ⟨H,[(0,t0),(1,t1)]⟩) := by
 refine (joinW_eq _ _ _ _ _ _ _ _ _).trans ?_
 kernel_rfl
theorem ring_New_eq (m : Nat) (t0 t1 : AV) (H : List AObj) : ring_New m t0 t1 H =
 binE none false false .lss t0 (V (.int .i64 1)) fun t10 =>
 condE t10 (
  ring_New_r1 m H.length ⟨H,[(0,t0),(1,t1),(14,(V (.bool true)))]⟩) (
  binE none false false .gtr t0 (V (.int .i64 64)) fun t13 =>
  ring_New_r1 m H.length ⟨H,[(0,t0),(1,t1),(14,t13)]⟩) := by
 refine (openX Try.prog GG (ring_New_env m) m ⟨36,[]⟩ H.length ring_New_c ring_New_h ⟨H,argsT 0 [t0,t1]⟩ [.tmp 4, .tmp 5]).trans ?_
 kernel_rfl
noncomputable def ring_New_t (m : Nat) : List AV → List AObj → RO|[t0,t1],H=>ring_New m t0 t1 H|_,_=>none
theorem ring_New_ok (m : Nat) : ∀ args H X H',ring_New_t m args H = some (X,H') → AC Try.prog GG 27 args H (Is X H') := by
 intro args H X H' h
 unfold ring_New_t at h
 split at h
 ·exact open_ok (n := H.length) MIX (by
  intro f e h
  simp only [ring_New_env,Prod.mk.injEq,List.mem_cons,List.not_mem_nil,or_false] at h
  obtain ⟨rfl,rfl⟩ := h
  ·exact ring_Ring_is_ok m) (f := 27) (c := ring_New_c) Try.func27 rfl (by kernel_rfl) _ rfl Try.ntmps27 (Nat.le_of_ble_eq_true rfl) ring_New_h h
 ·cases h
noncomputable def ring_Ring_Say_c : Code := (Try.f30.body).getD .skip
def ring_Ring_Say_h : Hint := (.two .n (.join [0,5] (.one (.two .n (.two (.two .n .n) (.join [0,5,12] .n (.two (.two .n .n) (.two .n (.two (.two .n .n) (.two .n (.two (.two .n .n) .n))))))))) (.two .n (.two .n (.two .n .n)))))
noncomputable def ring_Ring_Say_env (m : Nat) : Env := [(57, .keep (ring_Ring_is_t m)),(59, .keep (ring_Ring_Bad_t m)),(36, .keep (ring_Ring_Has_t m))]
noncomputable abbrev ring_Ring_Say_fin (n0 : Nat) : KO (AV × List AObj) := keepFK Try.prog n0 [.tmp 6]
noncomputable def ring_Ring_Say_r2 (m : Nat) (n0k : Nat) (s : ASt) : RO := joinW Try.prog GG (ring_Ring_Say_env m) m ⟨60,[]⟩ (cdR (cdR ring_Ring_Say_c)) ring_Ring_Say_h.r.r s (ring_Ring_Say_fin n0k)
noncomputable def ring_Ring_Say_r1 (m : Nat) (n0k : Nat) (s : ASt) : RO := joinW Try.prog GG (ring_Ring_Say_env m) m ⟨60,[]⟩ (cdR (cdR (cdR (cdL (cdL (cdR ring_Ring_Say_c)))))) ring_Ring_Say_h.r.l.c.r.r.r s (blockX 0 (seqX (fun s=>ring_Ring_Say_r2 m n0k ⟨s.H,[(0,gt s.T 0),(5,gt s.T 5)]⟩) (ring_Ring_Say_fin n0k)))
noncomputable def ring_Ring_Say (m : Nat) (t0 t1 t2 : AV) (H : List AObj) : RO := exec Try.prog GG (ring_Ring_Say_env m) m ⟨60,[]⟩ ring_Ring_Say_c ring_Ring_Say_h ⟨H,argsT 0 [t0,t1,t2]⟩ (ring_Ring_Say_fin H.length)
theorem ring_Ring_Say_r2_eq (m : Nat) (n0k : Nat) (H : List AObj) (t0 t5 : AV) : ring_Ring_Say_r2 m n0k ⟨H,[(0,t0),(5,t5)]⟩ =
 nilE t0 fun t42 =>
 fieldE (some (66,1)) t42 fun t43 =>
 loadE 1 H t43 fun t44 =>
 loadE 7 H t5 fun t45 =>
 buildSE (some (ty_api_Stmt,5)) 1 [(0,t45)] fun t46 =>
 appE (some (ty_api_Stmt,5)) H t44 t46 fun t47 H2 =>
 nilE t0 fun t48 =>
 fieldE (some (66,1)) t48 fun t49 =>
 storeE 1 H2 t49 t47 fun H3 =>
 nilE t0 fun t51 =>
 fieldE (some (65,1)) t51 fun t52 =>
 loadE 1 H3 t52 fun t53 =>
 loadE 7 H3 t5 fun t54 =>
 nilE t0 fun t56 =>
 fieldE (some (66,1)) t56 fun t57 =>
 loadE 1 H3 t57 fun t58 =>
 lenE false true H3 t58 fun t59 =>
 putME Try.prog 116 H3 t53 t54 t59 fun H4 =>
 keepK n0k H4 (ro H4 (V (.int .i64 0))) := by
 refine (joinW_eq _ _ _ _ _ _ _ _ _).trans ?_
 kernel_rfl
theorem ring_Ring_Say_r1_eq (m : Nat) (n0k : Nat) (H : List AObj) (t0 t5 t12 : AV) : ring_Ring_Say_r1 m n0k ⟨H,[(0,t0),(5,t5),(12,t12)]⟩ =
 condE t12 (
  keepK n0k H (ro H (V (.int .i64 19)))) (
  loadE 7 H t5 fun t31 =>
  keepE (ring_Ring_Has m (ro H t0) (ro H t31) H) fun t32 H2 =>
  condE t32 (
   keepK n0k H2 (ro H2 (V (.int .i64 0)))) (
   nilE t0 fun t35 =>
   fieldE (some (66,1)) t35 fun t36 =>
   loadE 1 H2 t36 fun t37 =>
   lenE false true H2 t37 fun t38 =>
   binE none false false .geq t38 (V (.int .i64 65536)) fun t39 =>
   condE t39 (
    keepK n0k H2 (ro H2 (V (.int .i64 5)))) (
    ring_Ring_Say_r2 m n0k ⟨H2,[(0,t0),(5,t5)]⟩))) := by
 refine (joinW_eq _ _ _ _ _ _ _ _ _).trans ?_
 kernel_rfl
theorem ring_Ring_Say_eq (m : Nat) (t0 t1 t2 : AV) (H : List AObj) : ring_Ring_Say m t0 t1 t2 H =
 boxE ty_api_Stmt H t2 fun t5 H2 =>
 keepE (ring_Ring_is m (ro H2 t0) (ro H2 t1) H2) fun t10 H3 =>
 unE .not t10 fun t11 =>
 condE t11 (
  keepK H.length H3 (ro H3 (V (.int .i64 4)))) (
  fieldE (some (0,1)) t5 fun t13 =>
  loadE 1 H3 t13 fun t14 =>
  binE none false false .neq t14 t1 fun t16 =>
  condE t16 (
   keepE (ring_Ring_Bad m (ro H3 t0) (ro H3 t1) H3) fun t20 H4 =>
   condE t20 (
   fieldE (some (0,1)) t5 fun t23 =>
   loadE 1 H4 t23 fun t24 =>
   keepE (ring_Ring_Bad m (ro H4 t0) (ro H4 t24) H4) fun t25 H5 =>
   unE .not t25 fun t27 =>
   ring_Ring_Say_r1 m H.length ⟨H5,[(0,t0),(5,t5),(12,t27)]⟩) (
   ring_Ring_Say_r1 m H.length ⟨H4,[(0,t0),(5,t5),(12,(V (.bool true)))]⟩)) (
   ring_Ring_Say_r1 m H.length ⟨H3,[(0,t0),(5,t5),(12,(V (.bool false)))]⟩)) := by
 refine (keepX Try.prog GG (ring_Ring_Say_env m) m ⟨60,[]⟩ H.length ring_Ring_Say_c ring_Ring_Say_h ⟨H,argsT 0 [t0,t1,t2]⟩ [.tmp 6]).trans ?_
 kernel_rfl
noncomputable def ring_Ring_Say_t (m : Nat) : List AV → List AObj → RO|[t0,t1,t2],H=>ring_Ring_Say m t0 t1 t2 H|_,_=>none
theorem ring_Ring_Say_ok (m : Nat) : ∀ args H X H',ring_Ring_Say_t m args H = some (X,H') → AC Try.prog GG 30 args H (Is X H') := by
 intro args H X H' h
 unfold ring_Ring_Say_t at h
 split at h
 ·exact keep_okK MIX (by
  intro f e h
  simp only [ring_Ring_Say_env,Prod.mk.injEq,List.mem_cons,List.not_mem_nil,or_false] at h
  rcases h with ⟨rfl,rfl⟩|⟨rfl,rfl⟩|⟨rfl,rfl⟩
  ·exact ring_Ring_is_ok m
  ·exact ring_Ring_Bad_ok m
  ·exact ring_Ring_Has_ok m) (f := 30) (c := ring_Ring_Say_c) Try.func30 rfl (by kernel_rfl) _ rfl Try.ntmps30 (Nat.le_of_ble_eq_true rfl) ring_Ring_Say_h h
 ·cases h
noncomputable def ring_Ring_Voices_c : Code := (Try.f66.body).getD .skip
def ring_Ring_Voices_h : Hint := (.two .n (.two .n (.join [7] (.two .n (.one (.lp [] [0,5,7,13,14,15] [7] (.two .n (.two (.two .n .n) (.join [0,5,7,13,14,15] (.one (.two .n (.two .n (.join [0,5,7,9,13,14,15,29] .n (.two .n .n))))) .n)))))) (.two .n (.join [10] (.two .n (.one (.lp [(10,ty_int,1)] [10,34,35] [10] (.two .n (.two (.two .n .n) (.join [10,34,35] (.one (.two .n (.two .n (.two .n .n)))) .n)))))) (.two .n .n))))))
noncomputable def ring_Ring_Voices_env (m : Nat) : Env := [(36, .keep (ring_Ring_Has_t m))]
noncomputable abbrev ring_Ring_Voices_fin (n0 : Nat) : KO (AV × List AObj) := keepFK Try.prog n0 [.tmp 6]
noncomputable def ring_Ring_Voices_r5 (m : Nat) (n0 : Nat) (kc : ASt → RO) (kx : KO (AV × List AObj)) (s : ASt) : RO := joinW Try.prog GG (ring_Ring_Voices_env m) m ⟨46,[]⟩ (cdR (cdR (cdR (cdL (cdL (cdR (cdL (cdR (cdR ring_Ring_Voices_c))))))))) ring_Ring_Voices_h.r.r.l.r.c.c.r.r.r s (backW n0 [0,5,7,13,14,15] [7] kc kx)
noncomputable def ring_Ring_Voices_r4 (m : Nat) (n0 : Nat) (kc : ASt → RO) (kx : KO (AV × List AObj)) (s : ASt) : RO := joinW Try.prog GG (ring_Ring_Voices_env m) m ⟨46,[]⟩ (cdR (cdR (cdR (cdL (cdL (cdR (cdL (cdR (cdR (cdR (cdR ring_Ring_Voices_c))))))))))) ring_Ring_Voices_h.r.r.r.r.l.r.c.c.r.r.r s (backW n0 [10,34,35] [10] kc kx)
noncomputable def ring_Ring_Voices_r3 (m : Nat) (n0k : Nat) (s : ASt) : RO := joinW Try.prog GG (ring_Ring_Voices_env m) m ⟨46,[]⟩ (cdR (cdR (cdR (cdR (cdR ring_Ring_Voices_c))))) ring_Ring_Voices_h.r.r.r.r.r s (ring_Ring_Voices_fin n0k)
noncomputable def ring_Ring_Voices_r2 (m : Nat) (n0 : Nat) (kc : ASt → RO) (kx : KO (AV × List AObj)) (s : ASt) : RO := joinW Try.prog GG (ring_Ring_Voices_env m) m ⟨46,[]⟩ (cdR (cdR (cdR (cdL (cdL (cdR (cdR (cdL (cdL (cdR (cdL (cdR (cdR ring_Ring_Voices_c))))))))))))) ring_Ring_Voices_h.r.r.l.r.c.c.r.r.l.c.r.r.r s (blockX 1 (seqX (fun s=>ring_Ring_Voices_r5 m n0 kc kx ⟨s.H,[(0,gt s.T 0),(5,gt s.T 5),(7,gt s.T 7),(13,gt s.T 13),(14,gt s.T 14),(15,gt s.T 15)]⟩) (backW n0 [0,5,7,13,14,15] [7] kc kx)))
noncomputable def ring_Ring_Voices_b2 (m : Nat) (s : ASt) (kc : ASt → RO) (kx : KO (AV × List AObj)) : RO := bodyW Try.prog GG (ring_Ring_Voices_env m) m ⟨46,[]⟩ (cdL (cdL (cdR (cdL (cdR (cdR (cdR (cdR ring_Ring_Voices_c)))))))) ring_Ring_Voices_h.r.r.r.r.l.r.c.c [10,34,35] [10] s kc kx
noncomputable def ring_Ring_Voices_r1 (m : Nat) (n0k : Nat) (s : ASt) : RO := joinW Try.prog GG (ring_Ring_Voices_env m) m ⟨46,[]⟩ (cdR (cdR (cdR ring_Ring_Voices_c))) ring_Ring_Voices_h.r.r.r s (ring_Ring_Voices_fin n0k)
noncomputable def ring_Ring_Voices_b1 (m : Nat) (s : ASt) (kc : ASt → RO) (kx : KO (AV × List AObj)) : RO := bodyW Try.prog GG (ring_Ring_Voices_env m) m ⟨46,[]⟩ (cdL (cdL (cdR (cdL (cdR (cdR ring_Ring_Voices_c)))))) ring_Ring_Voices_h.r.r.l.r.c.c [0,5,7,13,14,15] [7] s kc kx
noncomputable def ring_Ring_Voices (m : Nat) (t0 t1 t2 : AV) (H : List AObj) : RO := exec Try.prog GG (ring_Ring_Voices_env m) m ⟨46,[]⟩ ring_Ring_Voices_c ring_Ring_Voices_h ⟨H,argsT 0 [t0,t1,t2]⟩ (ring_Ring_Voices_fin H.length)
theorem ring_Ring_Voices_r5_eq (m : Nat) (n0 : Nat) (kc : ASt → RO) (kx : KO (AV × List AObj)) (H : List AObj) (t0 t5 t7 t13 t14 t15 : AV) : ring_Ring_Voices_r5 m n0 kc kx ⟨H,[(0,t0),(5,t5),(7,t7),(13,t13),(14,t14),(15,t15)]⟩ =
 binE none false false .add t15 (V (.int .i64 1)) fun t33 =>
 backE n0 H [(0,t0),(5,t5),(7,t7),(13,t13),(14,t14),(15,t33)] kc := by
 refine (joinW_eq _ _ _ _ _ _ _ _ _).trans ?_
 kernel_rfl
theorem ring_Ring_Voices_r4_eq (m : Nat) (n0 : Nat) (kc : ASt → RO) (kx : KO (AV × List AObj)) (H : List AObj) (t10 t34 t35 : AV) : ring_Ring_Voices_r4 m n0 kc kx ⟨H,[(10,t10),(34,t34),(35,t35)]⟩ =
 binE none false false .add t35 (V (.int .i64 1)) fun t44 =>
 backE n0 H [(10,t10),(34,t34),(35,t44)] kc := by
 refine (joinW_eq _ _ _ _ _ _ _ _ _).trans ?_
 kernel_rfl
theorem ring_Ring_Voices_r3_eq (m : Nat) (n0k : Nat) (H : List AObj) (t10 : AV) : ring_Ring_Voices_r3 m n0k ⟨H,[(10,t10)]⟩ =
 keepK n0k H (ro H t10) := by
 refine (joinW_eq _ _ _ _ _ _ _ _ _).trans ?_
 kernel_rfl
theorem ring_Ring_Voices_r2_eq (m : Nat) (n0 : Nat) (kc : ASt → RO) (kx : KO (AV × List AObj)) (H : List AObj) (t0 t5 t7 t9 t13 t14 t15 t29 : AV) : ring_Ring_Voices_r2 m n0 kc kx ⟨H,[(0,t0),(5,t5),(7,t7),(9,t9),(13,t13),(14,t14),(15,t15),(29,t29)]⟩ =
 condE t29 (
  fieldE (some (0,1)) t9 fun t30 =>
  loadE 1 H t30 fun t31 =>
  idxPE 64 1 t7 t31 fun t32 =>
  storeE 1 H t32 (V (.bool true)) fun H2 =>
  ring_Ring_Voices_r5 m n0 kc kx ⟨H2,[(0,t0),(5,t5),(7,t7),(13,t13),(14,t14),(15,t15)]⟩) (
  ring_Ring_Voices_r5 m n0 kc kx ⟨H,[(0,t0),(5,t5),(7,t7),(13,t13),(14,t14),(15,t15)]⟩) := by
 refine (joinW_eq _ _ _ _ _ _ _ _ _).trans ?_
 kernel_rfl
theorem ring_Ring_Voices_b2_eq (m : Nat) (H : List AObj) (t10 t34 t35 : AV) (kc : ASt → RO) (kx : KO (AV × List AObj)) : ring_Ring_Voices_b2 m ⟨H,[(10,t10),(34,t34),(35,t35)]⟩ kc kx =
 binE none false false .lss t35 (V (.int .i64 64)) fun t36 =>
 condE t36 (
  idxVE false (some (64,1)) t34 t35 fun t38 =>
  condE t38 (
   buildSE (some (ty_int,1)) 1 [(0,t35)] fun t42 =>
   appE (some (ty_int,1)) H t10 t42 fun t43 H2 =>
   ring_Ring_Voices_r4 m H.length kc kx ⟨H2,[(10,t43),(34,t34),(35,t35)]⟩) (
   ring_Ring_Voices_r4 m H.length kc kx ⟨H,[(10,t10),(34,t34),(35,t35)]⟩)) (
  kx (.exit 2) ⟨H,[(10,t10)]⟩) := by
 refine (bodyW_eq _ _ _ _ _ _ _ _ _ _ _ _).trans ?_
 kernel_rfl
theorem ring_Ring_Voices_r1_eq (m : Nat) (n0k : Nat) (H : List AObj) (t7 : AV) : ring_Ring_Voices_r1 m n0k ⟨H,[(7,t7)]⟩ =
 loadE 66 H t7 fun t34 =>
 rowE (V (.slice none 0 0)) ty_int 1 H fun t10 H2 =>
 iterC m (ring_Ring_Voices_b2 m) ⟨H2,[(10,t10),(34,t34),(35,(V (.int .i64 0)))]⟩ (blockX 2 (seqX (fun s=>ring_Ring_Voices_r3 m n0k ⟨s.H,[(10,gt s.T 10)]⟩) (ring_Ring_Voices_fin n0k))) := by
 refine (joinW_eq _ _ _ _ _ _ _ _ _).trans ?_
 kernel_rfl
theorem ring_Ring_Voices_b1_eq (m : Nat) (H : List AObj) (t0 t5 t7 t13 t14 t15 : AV) (kc : ASt → RO) (kx : KO (AV × List AObj)) : ring_Ring_Voices_b1 m ⟨H,[(0,t0),(5,t5),(7,t7),(13,t13),(14,t14),(15,t15)]⟩ kc kx =
 binE none false false .lss t15 t14 fun t16 =>
 condE t16 (
  idxSE 7 H t13 t15 fun t17 =>
  loadE 7 H t17 fun t18 =>
  allocE (some zc_api_Stmt) ty_api_Stmt H fun t9 H2 =>
  storeE 7 H2 t9 t18 fun H3 =>
  fieldE (some (0,1)) t9 fun t19 =>
  loadE 1 H3 t19 fun t20 =>
  fieldE (some (0,1)) t5 fun t21 =>
  storeE 1 H3 t21 t20 fun H4 =>
  loadE 7 H4 t9 fun t22 =>
  loadE 7 H4 t5 fun t23 =>
  binE (some [.i .i64, .i .i64, .i .i64, .i .i64, .i .i64]) false false .eql t22 t23 fun t24 =>
  condE t24 (
   loadE 7 H4 t9 fun t27 =>
   keepE (ring_Ring_Has m (ro H4 t0) (ro H4 t27) H4) fun t28 H5 =>
   ring_Ring_Voices_r2 m H.length kc kx ⟨H5,[(0,t0),(5,t5),(7,t7),(9,t9),(13,t13),(14,t14),(15,t15),(29,t28)]⟩) (
   ring_Ring_Voices_r2 m H.length kc kx ⟨H4,[(0,t0),(5,t5),(7,t7),(9,t9),(13,t13),(14,t14),(15,t15),(29,(V (.bool false)))]⟩)) (
  kx (.exit 0) ⟨H,[(7,t7)]⟩) := by
 refine (bodyW_eq _ _ _ _ _ _ _ _ _ _ _ _).trans ?_
 kernel_rfl
theorem ring_Ring_Voices_eq (m : Nat) (t0 t1 t2 : AV) (H : List AObj) : ring_Ring_Voices m t0 t1 t2 H =
 boxE ty_api_Stmt H t2 fun t5 H2 =>
 allocE (some zc_a64_bool) ty_a64_bool H2 fun t7 H3 =>
 lenE false true H3 t1 fun t14 =>
 iterC m (ring_Ring_Voices_b1 m) ⟨H3,[(0,t0),(5,t5),(7,t7),(13,t1),(14,t14),(15,(V (.int .i64 0)))]⟩ (blockX 0 (seqX (fun s=>ring_Ring_Voices_r1 m H.length ⟨s.H,[(7,gt s.T 7)]⟩) (ring_Ring_Voices_fin H.length))) := by
 refine (keepX Try.prog GG (ring_Ring_Voices_env m) m ⟨46,[]⟩ H.length ring_Ring_Voices_c ring_Ring_Voices_h ⟨H,argsT 0 [t0,t1,t2]⟩ [.tmp 6]).trans ?_
 kernel_rfl
noncomputable def ring_Ring_Voices_t (m : Nat) : List AV → List AObj → RO|[t0,t1,t2],H=>ring_Ring_Voices m t0 t1 t2 H|_,_=>none
theorem ring_Ring_Voices_ok (m : Nat) : ∀ args H X H',ring_Ring_Voices_t m args H = some (X,H') → AC Try.prog GG 66 args H (Is X H') := by
 intro args H X H' h
 unfold ring_Ring_Voices_t at h
 split at h
 ·exact keep_okK MIX (by
  intro f e h
  simp only [ring_Ring_Voices_env,Prod.mk.injEq,List.mem_cons,List.not_mem_nil,or_false] at h
  obtain ⟨rfl,rfl⟩ := h
  ·exact ring_Ring_Has_ok m) (f := 66) (c := ring_Ring_Voices_c) Try.func66 rfl (by kernel_rfl) _ rfl Try.ntmps66 (Nat.le_of_ble_eq_true rfl) ring_Ring_Voices_h h
 ·cases h
end Go.Proofs.Ytaaogcnjfkgnoaa

namespace Go.Proofs.Ytaaogcnjfkgnoaa
open Go.RowKit
def ty_plenumref04_Ring : TypeId := 46
def zc_plenumref04_Ring : List AV := [(V (.int .i64 0)),(V (.slice none 0 0)),(V (.slice none 0 0))]
noncomputable def plenumref04_Ring_Bad_c : Code := (Try.f13.body).getD .skip
def plenumref04_Ring_Bad_h : Hint := (.two .n (.join [] (.two .n (.one (.lp [] [1,2,5] [4] (.two (.two .n (.two .n .n)) (.two (.one (.two .n (.two (.two .n .n) .n))) .n))))) (.two .n .n)))
noncomputable def plenumref04_Ring_Bad_env (m : Nat) : Env := []
noncomputable abbrev plenumref04_Ring_Bad_fin : KO (AV × List AObj) := tellFK Try.prog [.tmp 4]
noncomputable def plenumref04_Ring_Bad_r1 (m : Nat) (s : ASt) : RO := joinW Try.prog GG (plenumref04_Ring_Bad_env m) m ⟨20,[]⟩ (cdR (cdR plenumref04_Ring_Bad_c)) plenumref04_Ring_Bad_h.r.r s (plenumref04_Ring_Bad_fin)
noncomputable def plenumref04_Ring_Bad_b1 (m : Nat) (s : ASt) (kc : ASt → RO) (kx : KO (AV × List AObj)) : RO := bodyW Try.prog GG (plenumref04_Ring_Bad_env m) m ⟨20,[]⟩ (cdL (cdL (cdR (cdL (cdR plenumref04_Ring_Bad_c))))) plenumref04_Ring_Bad_h.r.l.r.c.c [1,2,5] [4] s kc kx
noncomputable def plenumref04_Ring_Bad (m : Nat) (t0 t1 : AV) : RO := exec Try.prog GG (plenumref04_Ring_Bad_env m) m ⟨20,[]⟩ plenumref04_Ring_Bad_c plenumref04_Ring_Bad_h ⟨[],argsT 0 [t0,t1]⟩ (plenumref04_Ring_Bad_fin)
theorem plenumref04_Ring_Bad_r1_eq (m : Nat) (H : List AObj) : plenumref04_Ring_Bad_r1 m ⟨H,[]⟩ =
 tellK H (ro H (V (.bool false))) := by
 refine (joinW_eq _ _ _ _ _ _ _ _ _).trans ?_
 kernel_rfl
theorem plenumref04_Ring_Bad_b1_eq (m : Nat) (H : List AObj) (t1 t2 t5 : AV) (kc : ASt → RO) (kx : KO (AV × List AObj)) : plenumref04_Ring_Bad_b1 m ⟨H,[(1,t1),(2,t2),(5,t5)]⟩ kc kx =
 fieldE (some (1,1)) t2 fun t7 =>
 loadE 1 H t7 fun t8 =>
 lenE false true H t8 fun t9 =>
 binE none false false .lss t5 t9 fun t10 =>
 condE t10 (
  fieldE (some (1,1)) t2 fun t13 =>
  loadE 1 H t13 fun t14 =>
  idxSE 1 H t14 t5 fun t16 =>
  loadE 1 H t16 fun t17 =>
  binE none false false .eql t17 t1 fun t19 =>
  condE t19 (
   kx .ret ⟨H,[(4,(V (.bool true)))]⟩) (
   binE none false false .add t5 (V (.int .i64 1)) fun t12 =>
   backE H.length H [(1,t1),(2,t2),(5,t12)] kc)) (
  kx (.exit 0) ⟨H,[(4, .nil)]⟩) := by
 refine (bodyW_eq _ _ _ _ _ _ _ _ _ _ _ _).trans ?_
 kernel_rfl
theorem plenumref04_Ring_Bad_eq (m : Nat) (t0 t1 : AV) : plenumref04_Ring_Bad m t0 t1 =
 boxE ty_plenumref04_Ring [] t0 fun t2 H1 =>
 iterC m (plenumref04_Ring_Bad_b1 m) ⟨H1,[(1,t1),(2,t2),(5,(V (.int .i64 0)))]⟩ (blockX 0 (seqX (fun s=>plenumref04_Ring_Bad_r1 m ⟨s.H,[]⟩) (plenumref04_Ring_Bad_fin))) := by
 refine (tellX _ _ _ _ _ _ _ _ _).trans ?_
 kernel_rfl
noncomputable def plenumref04_Ring_Bad_t (m : Nat) : List AV → RO|[t0,t1]=>plenumref04_Ring_Bad m t0 t1|_=>none
theorem plenumref04_Ring_Bad_ok (m : Nat) : ∀ args X H',plenumref04_Ring_Bad_t m args = some (X,H') → ACp Try.prog GG 13 args X := by
 intro args X H' h
 unfold plenumref04_Ring_Bad_t at h
 split at h
 ·exact tell_okK MIX (by intro f e h;cases h) (f := 13) (c := plenumref04_Ring_Bad_c) Try.func13 rfl (by kernel_rfl) _ rfl Try.ntmps13 (Nat.le_of_ble_eq_true rfl) plenumref04_Ring_Bad_h h
 ·cases h
noncomputable def plenumref04_Ring_Has_c : Code := (Try.f49.body).getD .skip
def plenumref04_Ring_Has_h : Hint := (.two .n (.join [] (.two .n (.one (.lp [] [2,3,5] [4] (.two (.two .n (.two .n .n)) (.two (.one (.two .n (.two (.two .n .n) .n))) .n))))) (.two .n .n)))
noncomputable def plenumref04_Ring_Has_env (m : Nat) : Env := []
noncomputable abbrev plenumref04_Ring_Has_fin : KO (AV × List AObj) := tellFK Try.prog [.tmp 4]
noncomputable def plenumref04_Ring_Has_r1 (m : Nat) (s : ASt) : RO := joinW Try.prog GG (plenumref04_Ring_Has_env m) m ⟨20,[]⟩ (cdR (cdR plenumref04_Ring_Has_c)) plenumref04_Ring_Has_h.r.r s (plenumref04_Ring_Has_fin)
noncomputable def plenumref04_Ring_Has_b1 (m : Nat) (s : ASt) (kc : ASt → RO) (kx : KO (AV × List AObj)) : RO := bodyW Try.prog GG (plenumref04_Ring_Has_env m) m ⟨20,[]⟩ (cdL (cdL (cdR (cdL (cdR plenumref04_Ring_Has_c))))) plenumref04_Ring_Has_h.r.l.r.c.c [2,3,5] [4] s kc kx
noncomputable def plenumref04_Ring_Has (m : Nat) (t0 t1 : AV) : RO := exec Try.prog GG (plenumref04_Ring_Has_env m) m ⟨20,[]⟩ plenumref04_Ring_Has_c plenumref04_Ring_Has_h ⟨[],argsT 0 [t0,t1]⟩ (plenumref04_Ring_Has_fin)
theorem plenumref04_Ring_Has_r1_eq (m : Nat) (H : List AObj) : plenumref04_Ring_Has_r1 m ⟨H,[]⟩ =
 tellK H (ro H (V (.bool false))) := by
 refine (joinW_eq _ _ _ _ _ _ _ _ _).trans ?_
 kernel_rfl
theorem plenumref04_Ring_Has_b1_eq (m : Nat) (H : List AObj) (t2 t3 t5 : AV) (kc : ASt → RO) (kx : KO (AV × List AObj)) : plenumref04_Ring_Has_b1 m ⟨H,[(2,t2),(3,t3),(5,t5)]⟩ kc kx =
 fieldE (some (2,1)) t2 fun t7 =>
 loadE 1 H t7 fun t8 =>
 lenE false true H t8 fun t9 =>
 binE none false false .lss t5 t9 fun t10 =>
 condE t10 (
  fieldE (some (2,1)) t2 fun t13 =>
  loadE 1 H t13 fun t14 =>
  idxSE 7 H t14 t5 fun t16 =>
  loadE 7 H t16 fun t17 =>
  loadE 7 H t3 fun t18 =>
  binE (some [.i .i64, .i .i64, .i .i64, .i .i64, .i .i64]) false false .eql t17 t18 fun t19 =>
  condE t19 (
   kx .ret ⟨H,[(4,(V (.bool true)))]⟩) (
   binE none false false .add t5 (V (.int .i64 1)) fun t12 =>
   backE H.length H [(2,t2),(3,t3),(5,t12)] kc)) (
  kx (.exit 0) ⟨H,[(4, .nil)]⟩) := by
 refine (bodyW_eq _ _ _ _ _ _ _ _ _ _ _ _).trans ?_
 kernel_rfl
theorem plenumref04_Ring_Has_eq (m : Nat) (t0 t1 : AV) : plenumref04_Ring_Has m t0 t1 =
 boxE ty_plenumref04_Ring [] t0 fun t2 H1 =>
 boxE ty_api_Stmt H1 t1 fun t3 H2 =>
 iterC m (plenumref04_Ring_Has_b1 m) ⟨H2,[(2,t2),(3,t3),(5,(V (.int .i64 0)))]⟩ (blockX 0 (seqX (fun s=>plenumref04_Ring_Has_r1 m ⟨s.H,[]⟩) (plenumref04_Ring_Has_fin))) := by
 refine (tellX _ _ _ _ _ _ _ _ _).trans ?_
 kernel_rfl
noncomputable def plenumref04_Ring_Has_t (m : Nat) : List AV → RO|[t0,t1]=>plenumref04_Ring_Has m t0 t1|_=>none
theorem plenumref04_Ring_Has_ok (m : Nat) : ∀ args X H',plenumref04_Ring_Has_t m args = some (X,H') → ACp Try.prog GG 49 args X := by
 intro args X H' h
 unfold plenumref04_Ring_Has_t at h
 split at h
 ·exact tell_okK MIX (by intro f e h;cases h) (f := 49) (c := plenumref04_Ring_Has_c) Try.func49 rfl (by kernel_rfl) _ rfl Try.ntmps49 (Nat.le_of_ble_eq_true rfl) plenumref04_Ring_Has_h h
 ·cases h
noncomputable def plenumref04_Ring_Say_c : Code := (Try.f31.body).getD .skip
def plenumref04_Ring_Say_h : Hint := (.two .n (.join [1,3,5,6] (.join [1,3,5,6,15] .n (.two (.two .n .n) .n)) (.join [3,5,6] (.join [3,5,6,33] .n (.two (.two .n .n) .n)) (.two (.two .n (.two (.two .n .n) .n)) (.two (.two .n (.two (.two .n .n) .n)) (.two .n (.two .n .n)))))))
noncomputable def plenumref04_Ring_Say_env (m : Nat) : Env := [(13, .tell (plenumref04_Ring_Bad_t m)),(49, .tell (plenumref04_Ring_Has_t m))]
noncomputable abbrev plenumref04_Ring_Say_fin : KO (AV × List AObj) := tellFK Try.prog [.cell 6 46, .tmp 7]
noncomputable def plenumref04_Ring_Say_r4 (m : Nat) (s : ASt) : RO := joinW Try.prog GG (plenumref04_Ring_Say_env m) m ⟨53,[]⟩ (cdR (cdR (cdR plenumref04_Ring_Say_c))) plenumref04_Ring_Say_h.r.r.r s (plenumref04_Ring_Say_fin)
noncomputable def plenumref04_Ring_Say_r3 (m : Nat) (s : ASt) : RO := joinW Try.prog GG (plenumref04_Ring_Say_env m) m ⟨53,[]⟩ (cdR (cdL (cdR (cdR plenumref04_Ring_Say_c)))) plenumref04_Ring_Say_h.r.r.l.r s (seqX (fun s=>plenumref04_Ring_Say_r4 m ⟨s.H,[(3,gt s.T 3),(5,gt s.T 5),(6,gt s.T 6)]⟩) (plenumref04_Ring_Say_fin))
noncomputable def plenumref04_Ring_Say_r2 (m : Nat) (s : ASt) : RO := joinW Try.prog GG (plenumref04_Ring_Say_env m) m ⟨53,[]⟩ (cdR (cdR plenumref04_Ring_Say_c)) plenumref04_Ring_Say_h.r.r s (plenumref04_Ring_Say_fin)
noncomputable def plenumref04_Ring_Say_r1 (m : Nat) (s : ASt) : RO := joinW Try.prog GG (plenumref04_Ring_Say_env m) m ⟨53,[]⟩ (cdR (cdL (cdR plenumref04_Ring_Say_c))) plenumref04_Ring_Say_h.r.l.r s (seqX (fun s=>plenumref04_Ring_Say_r2 m ⟨s.H,[(1,gt s.T 1),(3,gt s.T 3),(5,gt s.T 5),(6,gt s.T 6)]⟩) (plenumref04_Ring_Say_fin))
noncomputable def plenumref04_Ring_Say (m : Nat) (t0 t1 t2 : AV) : RO := exec Try.prog GG (plenumref04_Ring_Say_env m) m ⟨53,[]⟩ plenumref04_Ring_Say_c plenumref04_Ring_Say_h ⟨[],argsT 0 [t0,t1,t2]⟩ (plenumref04_Ring_Say_fin)
theorem plenumref04_Ring_Say_r4_eq (m : Nat) (H : List AObj) (t3 t5 t6 : AV) : plenumref04_Ring_Say_r4 m ⟨H,[(3,t3),(5,t5),(6,t6)]⟩ =
 loadE 5 H t3 fun t35 =>
 loadE 7 H t5 fun t36 =>
 tellE (plenumref04_Ring_Has m (ro H t35) (ro H t36)) [(ro H t35),(ro H t36)] fun t37 =>
 condE t37 (
  loadE 5 H t3 fun t38 =>
  storeE 5 H t6 t38 fun H2 =>
  loadE 5 H2 t6 fun t9000 =>
  tellK H2 (ro H2 (TU [noT t9000,noT (V (.int .i64 0))]))) (
  fieldE (some (2,1)) t3 fun t39 =>
  loadE 1 H t39 fun t40 =>
  lenE false true H t40 fun t41 =>
  binE none false false .geq t41 (V (.int .i64 65536)) fun t42 =>
  condE t42 (
   loadE 5 H t3 fun t43 =>
   storeE 5 H t6 t43 fun H2 =>
   loadE 5 H2 t6 fun t9000 =>
   tellK H2 (ro H2 (TU [noT t9000,noT (V (.int .i64 5))]))) (
   buildSE (some (ty_api_Stmt,5)) 0 [] fun t44 =>
   fieldE (some (2,1)) t3 fun t45 =>
   loadE 1 H t45 fun t46 =>
   appE (some (ty_api_Stmt,5)) H t44 t46 fun t47 H2 =>
   loadE 7 H2 t5 fun t48 =>
   loadE 7 H t5 fun t8022 =>
   eqE t48 t8022 (
   buildSE (some (ty_api_Stmt,5)) 1 [(0,t48)] fun t49 =>
   appE (some (ty_api_Stmt,5)) H2 t47 t49 fun t50 H3 =>
   fieldE (some (2,1)) t3 fun t51 =>
   storeE 1 H3 t51 t50 fun H4 =>
   loadE 5 H4 t3 fun t52 =>
   storeE 5 H4 t6 t52 fun H5 =>
   loadE 5 H5 t6 fun t9000 =>
   tellK H5 (ro H5 (TU [noT t9000,noT (V (.int .i64 0))]))))) := by
 refine (joinW_eq _ _ _ _ _ _ _ _ _).trans ?_
 kernel_rfl
theorem plenumref04_Ring_Say_r3_eq (m : Nat) (H : List AObj) (t3 t5 t6 t33 : AV) : plenumref04_Ring_Say_r3 m ⟨H,[(3,t3),(5,t5),(6,t6),(33,t33)]⟩ =
 condE t33 (
  loadE 5 H t3 fun t34 =>
  storeE 5 H t6 t34 fun H2 =>
  loadE 5 H2 t6 fun t9000 =>
  tellK H2 (ro H2 (TU [noT t9000,noT (V (.int .i64 19))]))) (
  plenumref04_Ring_Say_r4 m ⟨H,[(3,t3),(5,t5),(6,t6)]⟩) := by
 refine (joinW_eq _ _ _ _ _ _ _ _ _).trans ?_
 kernel_rfl
theorem plenumref04_Ring_Say_r2_eq (m : Nat) (H : List AObj) (t1 t3 t5 t6 : AV) : plenumref04_Ring_Say_r2 m ⟨H,[(1,t1),(3,t3),(5,t5),(6,t6)]⟩ =
 fieldE (some (0,1)) t5 fun t17 =>
 loadE 1 H t17 fun t18 =>
 binE none false false .neq t18 t1 fun t20 =>
 condE t20 (
  loadE 5 H t3 fun t22 =>
  tellE (plenumref04_Ring_Bad m (ro H t22) (ro H t1)) [(ro H t22),(ro H t1)] fun t24 =>
  unE .not t24 fun t25 =>
  condE t25 (
  plenumref04_Ring_Say_r3 m ⟨H,[(3,t3),(5,t5),(6,t6),(33,(V (.bool true)))]⟩) (
  loadE 5 H t3 fun t27 =>
  fieldE (some (0,1)) t5 fun t28 =>
  loadE 1 H t28 fun t29 =>
  tellE (plenumref04_Ring_Bad m (ro H t27) (ro H t29)) [(ro H t27),(ro H t29)] fun t30 =>
  unE .not t30 fun t31 =>
  plenumref04_Ring_Say_r3 m ⟨H,[(3,t3),(5,t5),(6,t6),(33,t31)]⟩)) (
  plenumref04_Ring_Say_r3 m ⟨H,[(3,t3),(5,t5),(6,t6),(33,(V (.bool false)))]⟩) := by
 refine (joinW_eq _ _ _ _ _ _ _ _ _).trans ?_
 kernel_rfl
theorem plenumref04_Ring_Say_r1_eq (m : Nat) (H : List AObj) (t1 t3 t5 t6 t15 : AV) : plenumref04_Ring_Say_r1 m ⟨H,[(1,t1),(3,t3),(5,t5),(6,t6),(15,t15)]⟩ =
 condE t15 (
  loadE 5 H t3 fun t16 =>
  storeE 5 H t6 t16 fun H2 =>
  loadE 5 H2 t6 fun t9000 =>
  tellK H2 (ro H2 (TU [noT t9000,noT (V (.int .i64 4))]))) (
  plenumref04_Ring_Say_r2 m ⟨H,[(1,t1),(3,t3),(5,t5),(6,t6)]⟩) := by
 refine (joinW_eq _ _ _ _ _ _ _ _ _).trans ?_
 kernel_rfl
theorem plenumref04_Ring_Say_eq (m : Nat) (t0 t1 t2 : AV) : plenumref04_Ring_Say m t0 t1 t2 =
 boxE ty_plenumref04_Ring [] t0 fun t3 H1 =>
 boxE ty_api_Stmt H1 t2 fun t5 H2 =>
 allocE (some zc_plenumref04_Ring) ty_plenumref04_Ring H2 fun t6 H3 =>
 binE none false false .lss t1 (V (.int .i64 0)) fun t9 =>
 condE t9 (
  plenumref04_Ring_Say_r1 m ⟨H3,[(1,t1),(3,t3),(5,t5),(6,t6),(15,(V (.bool true)))]⟩) (
  fieldE (some (0,1)) t3 fun t12 =>
  loadE 1 H3 t12 fun t13 =>
  binE none false false .geq t1 t13 fun t14 =>
  plenumref04_Ring_Say_r1 m ⟨H3,[(1,t1),(3,t3),(5,t5),(6,t6),(15,t14)]⟩) := by
 refine (tellX _ _ _ _ _ _ _ _ _).trans ?_
 kernel_rfl
noncomputable def plenumref04_Ring_Say_t (m : Nat) : List AV → RO|[t0,t1,t2]=>plenumref04_Ring_Say m t0 t1 t2|_=>none
theorem plenumref04_Ring_Say_ok (m : Nat) : ∀ args X H',plenumref04_Ring_Say_t m args = some (X,H') → ACp Try.prog GG 31 args X := by
 intro args X H' h
 unfold plenumref04_Ring_Say_t at h
 split at h
 ·exact tell_okK MIX (by
  intro f e h
  simp only [plenumref04_Ring_Say_env,Prod.mk.injEq,List.mem_cons,List.not_mem_nil,or_false] at h
  rcases h with ⟨rfl,rfl⟩|⟨rfl,rfl⟩
  ·exact plenumref04_Ring_Bad_ok m
  ·exact plenumref04_Ring_Has_ok m) (f := 31) (c := plenumref04_Ring_Say_c) Try.func31 rfl (by kernel_rfl) _ rfl Try.ntmps31 (Nat.le_of_ble_eq_true rfl) plenumref04_Ring_Say_h h
 ·cases h
noncomputable def plenumref02_Has_c : Code := (Try.f58.body).getD .skip
def plenumref02_Has_h : Hint := (.two .n (.join [] (.two .n (.one (.lp [] [0,1,5] [4] (.two (.two .n (.two .n .n)) (.two (.one (.two .n (.two (.two .n .n) .n))) .n))))) (.two .n .n)))
noncomputable def plenumref02_Has_env (m : Nat) : Env := []
noncomputable abbrev plenumref02_Has_fin : KO (AV × List AObj) := tellFK Try.prog [.tmp 4]
noncomputable def plenumref02_Has_r1 (m : Nat) (s : ASt) : RO := joinW Try.prog GG (plenumref02_Has_env m) m ⟨20,[]⟩ (cdR (cdR plenumref02_Has_c)) plenumref02_Has_h.r.r s (plenumref02_Has_fin)
noncomputable def plenumref02_Has_b1 (m : Nat) (s : ASt) (kc : ASt → RO) (kx : KO (AV × List AObj)) : RO := bodyW Try.prog GG (plenumref02_Has_env m) m ⟨20,[]⟩ (cdL (cdL (cdR (cdL (cdR plenumref02_Has_c))))) plenumref02_Has_h.r.l.r.c.c [0,1,5] [4] s kc kx
noncomputable def plenumref02_Has (m : Nat) (t0 t1 : AV) : RO := exec Try.prog GG (plenumref02_Has_env m) m ⟨20,[]⟩ plenumref02_Has_c plenumref02_Has_h ⟨[],argsT 0 [t0,t1]⟩ (plenumref02_Has_fin)
theorem plenumref02_Has_r1_eq (m : Nat) (H : List AObj) : plenumref02_Has_r1 m ⟨H,[]⟩ =
 tellK H (ro H (V (.int .i64 0))) := by
 refine (joinW_eq _ _ _ _ _ _ _ _ _).trans ?_
 kernel_rfl
theorem plenumref02_Has_b1_eq (m : Nat) (H : List AObj) (t0 t1 t5 : AV) (kc : ASt → RO) (kx : KO (AV × List AObj)) : plenumref02_Has_b1 m ⟨H,[(0,t0),(1,t1),(5,t5)]⟩ kc kx =
 lenE false true H t0 fun t8 =>
 binE none false false .lss t5 t8 fun t9 =>
 condE t9 (
  idxSE 1 H t0 t5 fun t14 =>
  loadE 1 H t14 fun t15 =>
  binE none false false .eql t15 t1 fun t17 =>
  condE t17 (
   binE none false false .add t5 (V (.int .i64 1)) fun t19 =>
   kx .ret ⟨H,[(4,t19)]⟩) (
   binE none false false .add t5 (V (.int .i64 1)) fun t11 =>
   backE H.length H [(0,t0),(1,t1),(5,t11)] kc)) (
  kx (.exit 0) ⟨H,[(4, .nil)]⟩) := by
 refine (bodyW_eq _ _ _ _ _ _ _ _ _ _ _ _).trans ?_
 kernel_rfl
theorem plenumref02_Has_eq (m : Nat) (t0 t1 : AV) : plenumref02_Has m t0 t1 =
 iterC m (plenumref02_Has_b1 m) ⟨[],[(0,t0),(1,t1),(5,(V (.int .i64 0)))]⟩ (blockX 0 (seqX (fun s=>plenumref02_Has_r1 m ⟨s.H,[]⟩) (plenumref02_Has_fin))) := by
 refine (tellX _ _ _ _ _ _ _ _ _).trans ?_
 kernel_rfl
noncomputable def plenumref02_Has_t (m : Nat) : List AV → RO|[t0,t1]=>plenumref02_Has m t0 t1|_=>none
theorem plenumref02_Has_ok (m : Nat) : ∀ args X H',plenumref02_Has_t m args = some (X,H') → ACp Try.prog GG 58 args X := by
 intro args X H' h
 unfold plenumref02_Has_t at h
 split at h
 ·exact tell_okK MIX (by intro f e h;cases h) (f := 58) (c := plenumref02_Has_c) Try.func58 rfl (by kernel_rfl) _ rfl Try.ntmps58 (Nat.le_of_ble_eq_true rfl) plenumref02_Has_h h
 ·cases h
noncomputable def plenumref02_Of_c : Code := (Try.f29.body).getD .skip
def plenumref02_Of_h : Hint := (.two .n (.two (.two .n (.two .n (.two (.two .n .n) .n))) (.two (.two .n (.two (.two .n .n) .n)) (.two .n (.two .n .n)))))
noncomputable def plenumref02_Of_env (m : Nat) : Env := [(58, .tell (plenumref02_Has_t m))]
noncomputable abbrev plenumref02_Of_fin (n0 : Nat) : KO (AV × List AObj) := orwFK Try.prog n0 [.tmp 4, .tmp 5, .tmp 6]
noncomputable def plenumref02_Of (m : Nat) (t0 t1 : AV) (H : List AObj) : RO := exec Try.prog GG (plenumref02_Of_env m) m ⟨26,[]⟩ plenumref02_Of_c plenumref02_Of_h ⟨H,argsT 0 [t0,t1]⟩ (plenumref02_Of_fin H.length)
theorem plenumref02_Of_eq (m : Nat) (t0 t1 : AV) (H : List AObj) : plenumref02_Of m t0 t1 H =
 tellE (plenumref02_Has m (ro H t0) (ro H t1)) [(ro H t0),(ro H t1)] fun t10 =>
 binE none false false .gtr t10 (V (.int .i64 0)) fun t12 =>
 condE t12 (
  openK H (TU [noT t0,noT t10,noT (V (.int .i64 0))])) (
  lenE false true H t0 fun t16 =>
  binE none false false .geq t16 (V (.int .i64 65536)) fun t17 =>
  condE t17 (
   openK H (TU [noT t0,noT (V (.int .i64 0)),noT (V (.int .i64 5))])) (
   buildSE (some (ty_string,1)) 1 [(0,t1)] fun t21 =>
   appE (some (ty_string,1)) H t0 t21 fun t22 H2 =>
   lenE false true H2 t22 fun t25 =>
   openK H2 (TU [noT t22,noT t25,noT (V (.int .i64 0))]))) := by
 refine (orwX Try.prog GG (plenumref02_Of_env m) m ⟨26,[]⟩ H.length plenumref02_Of_c plenumref02_Of_h ⟨H,argsT 0 [t0,t1]⟩ [.tmp 4, .tmp 5, .tmp 6]).trans ?_
 kernel_rfl
noncomputable def plenumref02_Of_t (m : Nat) : List AV → List AObj → RO|[t0,t1],H=>plenumref02_Of m t0 t1 H|_,_=>none
theorem plenumref02_Of_ok (m : Nat) : ∀ args H X H',plenumref02_Of_t m args H = some (X,H') → AC Try.prog GG 29 args H (Is X H') := by
 intro args H X H' h
 unfold plenumref02_Of_t at h
 split at h
 ·exact orw_ok (n := H.length) MIX (by
  intro f e h
  simp only [plenumref02_Of_env,Prod.mk.injEq,List.mem_cons,List.not_mem_nil,or_false] at h
  obtain ⟨rfl,rfl⟩ := h
  ·exact plenumref02_Has_ok m) (f := 29) (c := plenumref02_Of_c) Try.func29 rfl (by kernel_rfl) _ rfl Try.ntmps29 (Nat.le_of_ble_eq_true rfl) plenumref02_Of_h h
 ·cases h
end Go.Proofs.Ytaaogcnjfkgnoaa

namespace Go.Proofs.Ytaaogcnjfkgnoaa
open Go.RowKit
def ty_sl_api_Change : TypeId := 63
noncomputable def choose_at_1_c : Code := (Try.f94.body).getD .skip
def choose_at_1_h : Hint := (.two .n (.join [1,2,3,4,14] .n (.two .n .n)))
noncomputable def choose_at_1_env (m : Nat) : Env := []
noncomputable abbrev choose_at_1_fin (n0 : Nat) : KO (AV × List AObj) := keepFK Try.prog n0 []
noncomputable def choose_at_1_r1 (m : Nat) (n0k : Nat) (s : ASt) : RO := joinW Try.prog GG (choose_at_1_env m) m ⟨23,[]⟩ (cdR (cdR choose_at_1_c)) choose_at_1_h.r.r s (choose_at_1_fin n0k)
noncomputable def choose_at_1 (m : Nat) (t0 t1 t2 t3 : AV) (H : List AObj) : RO := exec Try.prog GG (choose_at_1_env m) m ⟨23,[]⟩ choose_at_1_c choose_at_1_h ⟨H,argsT 0 [t0,t1,t2,t3]⟩ (choose_at_1_fin H.length)
theorem choose_at_1_r1_eq (m : Nat) (n0k : Nat) (H : List AObj) (t1 t2 t3 t4 t14 : AV) : choose_at_1_r1 m n0k ⟨H,[(1,t1),(2,t2),(3,t3),(4,t4),(14,t14)]⟩ =
 condE t14 (
  fieldE (some (1,1)) t4 fun t15 =>
  loadE 1 H t15 fun t16 =>
  loadE 1 H t1 fun t17 =>
  fieldE (some (2,1)) t4 fun t18 =>
  loadE 1 H t18 fun t19 =>
  fieldE (some (3,1)) t4 fun t20 =>
  loadE 1 H t20 fun t21 =>
  buildE (some pl_api_Choice) (some zc_api_Choice) [(0,t17),(1,t19),(2,t21)] fun t22 =>
  storeE 1 H t2 t16 fun H2 =>
  loadE 1 H2 t20 fun t8020 =>
  eqE t21 t8020 (
  loadE 1 H2 t18 fun t8021 =>
  eqE t19 t8021 (
  loadE 1 H2 t1 fun t8022 =>
  eqE t17 t8022 (
  storeE 6 H2 t3 t22 fun H3 =>
  keepK n0k H3 (ro H3 (TU [])))))) (
  keepK n0k H (ro H (TU []))) := by
 refine (joinW_eq _ _ _ _ _ _ _ _ _).trans ?_
 kernel_rfl
theorem choose_at_1_eq (m : Nat) (t0 t1 t2 t3 : AV) (H : List AObj) : choose_at_1 m t0 t1 t2 t3 H =
 boxE ty_api_Cert H t0 fun t4 H2 =>
 fieldE (some (0,1)) t4 fun t5 =>
 loadE 1 H2 t5 fun t6 =>
 loadE 1 H2 t1 fun t7 =>
 binE none false false .eql t6 t7 fun t8 =>
 condE t8 (
  fieldE (some (1,1)) t4 fun t10 =>
  loadE 1 H2 t10 fun t11 =>
  loadE 1 H2 t2 fun t12 =>
  binE none false false .gtr t11 t12 fun t13 =>
  choose_at_1_r1 m H.length ⟨H2,[(1,t1),(2,t2),(3,t3),(4,t4),(14,t13)]⟩) (
  choose_at_1_r1 m H.length ⟨H2,[(1,t1),(2,t2),(3,t3),(4,t4),(14,(V (.bool false)))]⟩) := by
 refine (keepX Try.prog GG (choose_at_1_env m) m ⟨23,[]⟩ H.length choose_at_1_c choose_at_1_h ⟨H,argsT 0 [t0,t1,t2,t3]⟩ []).trans ?_
 kernel_rfl
noncomputable def choose_at_1_t (m : Nat) : List AV → List AObj → RO|[t0,t1,t2,t3],H=>choose_at_1 m t0 t1 t2 t3 H|_,_=>none
theorem choose_at_1_ok (m : Nat) : ∀ args H X H',choose_at_1_t m args H = some (X,H') → AC Try.prog GG 94 args H (Is X H') := by
 intro args H X H' h
 unfold choose_at_1_t at h
 split at h
 ·exact keep_okK MIX (by intro f e h;cases h) (f := 94) (c := choose_at_1_c) Try.func94 rfl (by kernel_rfl) _ rfl Try.ntmps94 (Nat.le_of_ble_eq_true rfl) choose_at_1_h h
 ·cases h
noncomputable def choose_all_c : Code := (Try.f77.body).getD .skip
def choose_all_h : Hint := (.two .n (.two .n .n))
noncomputable def choose_all_env (m : Nat) : Env := []
noncomputable abbrev choose_all_fin (n0 : Nat) : KO (AV × List AObj) := openFK Try.prog n0 [.tmp 2]
noncomputable def choose_all (m : Nat) (t0 : AV) (H : List AObj) : RO := exec Try.prog GG (choose_all_env m) m ⟨4,[]⟩ choose_all_c choose_all_h ⟨H,argsT 0 [t0]⟩ (choose_all_fin H.length)
theorem choose_all_eq (m : Nat) (t0 : AV) (H : List AObj) : choose_all m t0 H =
 boxE ty_sl_api_Change H t0 fun t1 H2 =>
 whenE (([t1] : List AV).all cap0) (
 openK H2 (ro H2 (CL (.func 93) 0 [t1]))) := by
 refine (openX Try.prog GG (choose_all_env m) m ⟨4,[]⟩ H.length choose_all_c choose_all_h ⟨H,argsT 0 [t0]⟩ [.tmp 2]).trans ?_
 kernel_rfl
noncomputable def choose_all_t (m : Nat) : List AV → List AObj → RO|[t0],H=>choose_all m t0 H|_,_=>none
theorem choose_all_ok (m : Nat) : ∀ args H X H',choose_all_t m args H = some (X,H') → AC Try.prog GG 77 args H (Is X H') := by
 intro args H X H' h
 unfold choose_all_t at h
 split at h
 ·exact open_ok (n := H.length) MIX (by intro f e h;cases h) (f := 77) (c := choose_all_c) Try.func77 rfl (by kernel_rfl) _ rfl Try.ntmps77 (Nat.le_of_ble_eq_true rfl) choose_all_h h
 ·cases h
end Go.Proofs.Ytaaogcnjfkgnoaa

namespace Go.Proofs.Ytaaogcnjfkgnoaa
open Go.RowKit
def pl_api_Stmt : List (Nat × Nat) := [(0,1),(1,1),(2,1),(3,1),(4,1)]
noncomputable def view_voices_c : Code := (Try.f39.body).getD .skip
def view_voices_h : Hint := (.two .n (.two .n .n))
noncomputable def view_voices_env (m : Nat) : Env := [(66, .keep (ring_Ring_Voices_t m)),(65, .tell (quorum_Of_t m)),(67, .tell (quorum_All_t m))]
noncomputable abbrev view_voices_fin (n0 : Nat) : KO (AV × List AObj) := keepFK Try.prog n0 [.tmp 8]
noncomputable def view_voices (m : Nat) (t0 t1 t2 t3 : AV) (H : List AObj) : RO := exec Try.prog GG (view_voices_env m) m ⟨17,[]⟩ view_voices_c view_voices_h ⟨H,argsT 0 [t0,t1,t2,t3]⟩ (view_voices_fin H.length)
theorem view_voices_eq (m : Nat) (t0 t1 t2 t3 : AV) (H : List AObj) : view_voices m t0 t1 t2 t3 H =
 boxE ty_api_Stmt H t2 fun t6 H2 =>
 loadE 7 H2 t6 fun t11 =>
 keepE (ring_Ring_Voices m (ro H2 t0) (ro H2 t1) (ro H2 t11) H2) fun t12 H3 =>
 tellE (quorum_Of m (ro H3 t12)) [(ro H3 t12)] fun t13 =>
 tellE (quorum_All m (ro H3 t3)) [(ro H3 t3)] fun t15 =>
 binE none false false .and t13 t15 fun t16 =>
 keepK H.length H3 (ro H3 t16) := by
 refine (keepX Try.prog GG (view_voices_env m) m ⟨17,[]⟩ H.length view_voices_c view_voices_h ⟨H,argsT 0 [t0,t1,t2,t3]⟩ [.tmp 8]).trans ?_
 kernel_rfl
noncomputable def view_voices_t (m : Nat) : List AV → List AObj → RO|[t0,t1,t2,t3],H=>view_voices m t0 t1 t2 t3 H|_,_=>none
theorem view_voices_ok (m : Nat) : ∀ args H X H',view_voices_t m args H = some (X,H') → AC Try.prog GG 39 args H (Is X H') := by
 intro args H X H' h
 unfold view_voices_t at h
 split at h
 ·exact keep_okK MIX (by
  intro f e h
  simp only [view_voices_env,Prod.mk.injEq,List.mem_cons,List.not_mem_nil,or_false] at h
  rcases h with ⟨rfl,rfl⟩|⟨rfl,rfl⟩|⟨rfl,rfl⟩
  ·exact ring_Ring_Voices_ok m
  ·exact quorum_Of_ok m
  ·exact quorum_All_ok m) (f := 39) (c := view_voices_c) Try.func39 rfl (by kernel_rfl) _ rfl Try.ntmps39 (Nat.le_of_ble_eq_true rfl) view_voices_h h
 ·cases h
noncomputable def view_Cert_c : Code := (Try.f14.body).getD .skip
def view_Cert_h : Hint := (.two .n (.two .n (.two (.two .n (.two (.two .n .n) .n)) (.join [0,3,6,9] (.two .n (.join [0,3,6,9,38] .n (.two (.two .n .n) .n))) (.two .n (.two .n (.two .n (.two .n (.two .n (.two .n .n))))))))))
noncomputable def view_Cert_env (m : Nat) : Env := [(32, .tell (quorum_Faults_t m)),(28, .keep (term_Table_Of_t m)),(37, .tell (quorum_Primary_t m)),(39, .keep (view_voices_t m)),(38, .tell (quorum_Has_t m)),(40, .tell (quorum_Without_t m)),(41, .tell (quorum_Count_t m))]
noncomputable abbrev view_Cert_fin (n0 : Nat) : KO (AV × List AObj) := keepFK Try.prog n0 [.tmp 8]
noncomputable def view_Cert_r2 (m : Nat) (n0k : Nat) (s : ASt) : RO := joinW Try.prog GG (view_Cert_env m) m ⟨75,[]⟩ (cdR (cdR (cdR (cdR view_Cert_c)))) view_Cert_h.r.r.r.r s (view_Cert_fin n0k)
noncomputable def view_Cert_r1 (m : Nat) (n0k : Nat) (s : ASt) : RO := joinW Try.prog GG (view_Cert_env m) m ⟨75,[]⟩ (cdR (cdR (cdL (cdR (cdR (cdR view_Cert_c)))))) view_Cert_h.r.r.r.l.r.r s (seqX (fun s=>view_Cert_r2 m n0k ⟨s.H,[(0,gt s.T 0),(3,gt s.T 3),(6,gt s.T 6),(9,gt s.T 9)]⟩) (view_Cert_fin n0k))
noncomputable def view_Cert (m : Nat) (t0 t1 t2 t3 : AV) (H : List AObj) : RO := exec Try.prog GG (view_Cert_env m) m ⟨75,[]⟩ view_Cert_c view_Cert_h ⟨H,argsT 0 [t0,t1,t2,t3]⟩ (view_Cert_fin H.length)
theorem view_Cert_r2_eq (m : Nat) (n0k : Nat) (H : List AObj) (t0 t3 t6 t9 : AV) : view_Cert_r2 m n0k ⟨H,[(0,t0),(3,t3),(6,t6),(9,t9)]⟩ =
 fieldE (some (1,1)) t6 fun t39 =>
 loadE 1 H t39 fun t40 =>
 tellE (quorum_Primary m (ro H t40) (ro H t3)) [(ro H t40),(ro H t3)] fun t42 =>
 fieldE (some (1,1)) t6 fun t43 =>
 loadE 1 H t43 fun t44 =>
 fieldE (some (0,1)) t6 fun t45 =>
 loadE 1 H t45 fun t46 =>
 fieldE (some (2,1)) t6 fun t47 =>
 loadE 1 H t47 fun t48 =>
 buildE (some pl_api_Stmt) (some zc_api_Stmt) [(1,(V (.int .i64 2))),(2,t44),(3,t46),(4,t48)] fun t49 =>
 allocE (some zc_api_Stmt) ty_api_Stmt H fun t14 H2 =>
 storeE 7 H2 t14 t49 fun H3 =>
 fieldE (some (4,1)) t6 fun t51 =>
 loadE 1 H3 t51 fun t52 =>
 loadE 7 H3 t14 fun t53 =>
 keepE (view_voices m (ro H3 t0) (ro H3 t52) (ro H3 t53) (ro H3 t3) H3) fun t55 H4 =>
 tellE (quorum_Has m (ro H4 t55) (ro H4 t42)) [(ro H4 t55),(ro H4 t42)] fun t57 =>
 fieldE (some (1,1)) t14 fun t58 =>
 storeE 1 H4 t58 (V (.int .i64 3)) fun H5 =>
 fieldE (some (4,1)) t6 fun t60 =>
 loadE 1 H5 t60 fun t61 =>
 loadE 7 H5 t14 fun t62 =>
 keepE (view_voices m (ro H5 t0) (ro H5 t61) (ro H5 t62) (ro H5 t3) H5) fun t64 H6 =>
 tellE (quorum_Without m (ro H6 t64) (ro H6 t42)) [(ro H6 t64),(ro H6 t42)] fun t66 =>
 condE t57 (
  tellE (quorum_Count m (ro H6 t66)) [(ro H6 t66)] fun t70 =>
  binE none false false .mul (V (.int .i64 2)) t9 fun t72 =>
  binE none false false .geq t70 t72 fun t73 =>
  keepK n0k H6 (ro H6 t73)) (
  keepK n0k H6 (ro H6 (V (.bool false)))) := by
 refine (joinW_eq _ _ _ _ _ _ _ _ _).trans ?_
 kernel_rfl
theorem view_Cert_r1_eq (m : Nat) (n0k : Nat) (H : List AObj) (t0 t3 t6 t9 t38 : AV) : view_Cert_r1 m n0k ⟨H,[(0,t0),(3,t3),(6,t6),(9,t9),(38,t38)]⟩ =
 condE t38 (
  keepK n0k H (ro H (V (.bool false)))) (
  view_Cert_r2 m n0k ⟨H,[(0,t0),(3,t3),(6,t6),(9,t9)]⟩) := by
 refine (joinW_eq _ _ _ _ _ _ _ _ _).trans ?_
 kernel_rfl
theorem view_Cert_eq (m : Nat) (t0 t1 t2 t3 : AV) (H : List AObj) : view_Cert m t0 t1 t2 t3 H =
 boxE ty_api_Cert H t2 fun t6 H2 =>
 tellE (quorum_Faults m (ro H2 t3)) [(ro H2 t3)] fun t19 =>
 extE t19 0 fun t20 =>
 extE t19 1 fun t21 =>
 binE none false false .neq t21 (V (.int .i64 0)) fun t23 =>
 condE t23 (
  keepK H.length H2 (ro H2 (V (.bool false)))) (
  fieldE (some (3,1)) t6 fun t26 =>
  loadE 1 H2 t26 fun t27 =>
  keepE (term_Table_Of m (ro H2 t1) (ro H2 t27) H2) fun t28 H3 =>
  extE t28 0 fun t29 =>
  extE t28 1 fun t30 =>
  binE none false false .neq t30 (V (.int .i64 0)) fun t32 =>
  condE t32 (
   view_Cert_r1 m H.length ⟨H3,[(0,t0),(3,t3),(6,t6),(9,t20),(38,(V (.bool true)))]⟩) (
   fieldE (some (2,1)) t6 fun t35 =>
   loadE 1 H3 t35 fun t36 =>
   binE none false false .neq t29 t36 fun t37 =>
   view_Cert_r1 m H.length ⟨H3,[(0,t0),(3,t3),(6,t6),(9,t20),(38,t37)]⟩)) := by
 refine (keepX Try.prog GG (view_Cert_env m) m ⟨75,[]⟩ H.length view_Cert_c view_Cert_h ⟨H,argsT 0 [t0,t1,t2,t3]⟩ [.tmp 8]).trans ?_
 kernel_rfl
noncomputable def view_Cert_t (m : Nat) : List AV → List AObj → RO|[t0,t1,t2,t3],H=>view_Cert m t0 t1 t2 t3 H|_,_=>none
theorem view_Cert_ok (m : Nat) : ∀ args H X H',view_Cert_t m args H = some (X,H') → AC Try.prog GG 14 args H (Is X H') := by
 intro args H X H' h
 unfold view_Cert_t at h
 split at h
 ·exact keep_okK MIX (by
  intro f e h
  simp only [view_Cert_env,Prod.mk.injEq,List.mem_cons,List.not_mem_nil,or_false] at h
  rcases h with ⟨rfl,rfl⟩|⟨rfl,rfl⟩|⟨rfl,rfl⟩|⟨rfl,rfl⟩|⟨rfl,rfl⟩|⟨rfl,rfl⟩|⟨rfl,rfl⟩
  ·exact quorum_Faults_ok m
  ·exact term_Table_Of_ok m
  ·exact quorum_Primary_ok m
  ·exact view_voices_ok m
  ·exact quorum_Has_ok m
  ·exact quorum_Without_ok m
  ·exact quorum_Count_ok m) (f := 14) (c := view_Cert_c) Try.func14 rfl (by kernel_rfl) _ rfl Try.ntmps14 (Nat.le_of_ble_eq_true rfl) view_Cert_h h
 ·cases h
noncomputable def view_stable_c : Code := (Try.f34.body).getD .skip
def view_stable_h : Hint := (.two .n (.two (.two .n (.two (.two .n .n) .n)) (.two .n (.two .n .n))))
noncomputable def view_stable_env (m : Nat) : Env := [(62, .tell (marks_Due_t m)),(39, .keep (view_voices_t m)),(63, .tell (quorum_IsStrong_t m))]
noncomputable abbrev view_stable_fin (n0 : Nat) : KO (AV × List AObj) := keepFK Try.prog n0 [.tmp 6]
noncomputable def view_stable (m : Nat) (t0 t1 t2 : AV) (H : List AObj) : RO := exec Try.prog GG (view_stable_env m) m ⟨38,[]⟩ view_stable_c view_stable_h ⟨H,argsT 0 [t0,t1,t2]⟩ (view_stable_fin H.length)
theorem view_stable_eq (m : Nat) (t0 t1 t2 : AV) (H : List AObj) : view_stable m t0 t1 t2 H =
 boxE ty_api_Change H t1 fun t4 H2 =>
 fieldE (some (2,1)) t4 fun t8 =>
 loadE 1 H2 t8 fun t9 =>
 binE none false false .eql t9 (V (.int .i64 0)) fun t10 =>
 condE t10 (
  fieldE (some (3,1)) t4 fun t11 =>
  loadE 1 H2 t11 fun t12 =>
  binE none false false .eql t12 (V (.int .i64 0)) fun t13 =>
  condE t13 (
   fieldE (some (4,1)) t4 fun t15 =>
   loadE 1 H2 t15 fun t16 =>
   lenE false true H2 t16 fun t17 =>
   binE none false false .eql t17 (V (.int .i64 0)) fun t18 =>
   keepK H.length H2 (ro H2 t18)) (
   keepK H.length H2 (ro H2 (V (.bool false))))) (
  fieldE (some (2,1)) t4 fun t20 =>
  loadE 1 H2 t20 fun t21 =>
  fieldE (some (3,1)) t4 fun t22 =>
  loadE 1 H2 t22 fun t23 =>
  buildE (some pl_api_Stmt) (some zc_api_Stmt) [(1,(V (.int .i64 5))),(3,t21),(4,t23)] fun t24 =>
  allocE (some zc_api_Stmt) ty_api_Stmt H2 fun t7 H3 =>
  storeE 7 H3 t7 t24 fun H4 =>
  fieldE (some (2,1)) t4 fun t25 =>
  loadE 1 H4 t25 fun t26 =>
  tellE (marks_Due m (ro H4 t26)) [(ro H4 t26)] fun t27 =>
  condE t27 (
   fieldE (some (4,1)) t4 fun t30 =>
   loadE 1 H4 t30 fun t31 =>
   loadE 7 H4 t7 fun t32 =>
   keepE (view_voices m (ro H4 t0) (ro H4 t31) (ro H4 t32) (ro H4 t2) H4) fun t34 H5 =>
   tellE (quorum_IsStrong m (ro H5 t34) (ro H5 t2)) [(ro H5 t34),(ro H5 t2)] fun t36 =>
   keepK H.length H5 (ro H5 t36)) (
   keepK H.length H4 (ro H4 (V (.bool false))))) := by
 refine (keepX Try.prog GG (view_stable_env m) m ⟨38,[]⟩ H.length view_stable_c view_stable_h ⟨H,argsT 0 [t0,t1,t2]⟩ [.tmp 6]).trans ?_
 kernel_rfl
noncomputable def view_stable_t (m : Nat) : List AV → List AObj → RO|[t0,t1,t2],H=>view_stable m t0 t1 t2 H|_,_=>none
theorem view_stable_ok (m : Nat) : ∀ args H X H',view_stable_t m args H = some (X,H') → AC Try.prog GG 34 args H (Is X H') := by
 intro args H X H' h
 unfold view_stable_t at h
 split at h
 ·exact keep_okK MIX (by
  intro f e h
  simp only [view_stable_env,Prod.mk.injEq,List.mem_cons,List.not_mem_nil,or_false] at h
  rcases h with ⟨rfl,rfl⟩|⟨rfl,rfl⟩|⟨rfl,rfl⟩
  ·exact marks_Due_ok m
  ·exact view_voices_ok m
  ·exact quorum_IsStrong_ok m) (f := 34) (c := view_stable_c) Try.func34 rfl (by kernel_rfl) _ rfl Try.ntmps34 (Nat.le_of_ble_eq_true rfl) view_stable_h h
 ·cases h
noncomputable def view_certs_c : Code := (Try.f35.body).getD .skip
def view_certs_h : Hint := (.two .n (.two .n (.join [] (.two .n (.one (.lp [] [0,1,3,6,9,15,16,17] [8] (.two .n (.two (.two .n .n) (.join [0,1,3,6,9,15,16,17] (.one (.two .n (.join [0,1,3,6,11,15,16,17] (.join [0,1,3,6,11,15,16,17,47] .n (.two (.two .n .n) .n)) .n))) .n)))))) (.two .n .n))))
noncomputable def view_certs_env (m : Nat) : Env := [(14, .keep (view_Cert_t m))]
noncomputable abbrev view_certs_fin (n0 : Nat) : KO (AV × List AObj) := keepFK Try.prog n0 [.tmp 8]
noncomputable def view_certs_r5 (m : Nat) (n0 : Nat) (kc : ASt → RO) (kx : KO (AV × List AObj)) (s : ASt) : RO := joinW Try.prog GG (view_certs_env m) m ⟨51,[]⟩ (cdR (cdR (cdR (cdL (cdL (cdR (cdL (cdR (cdR view_certs_c))))))))) view_certs_h.r.r.l.r.c.c.r.r.r s (backW n0 [0,1,3,6,9,15,16,17] [8] kc kx)
noncomputable def view_certs_r4 (m : Nat) (n0 : Nat) (kc : ASt → RO) (kx : KO (AV × List AObj)) (s : ASt) : RO := joinW Try.prog GG (view_certs_env m) m ⟨51,[]⟩ (cdR (cdR (cdR (cdL (cdL (cdR (cdL (cdR (cdR view_certs_c))))))))) view_certs_h.r.r.l.r.c.c.r.r.r s (backW n0 [0,1,3,6,9,15,16,17] [8] kc kx)
noncomputable def view_certs_r3 (m : Nat) (n0 : Nat) (kc : ASt → RO) (kx : KO (AV × List AObj)) (s : ASt) : RO := joinW Try.prog GG (view_certs_env m) m ⟨51,[]⟩ (cdR (cdR (cdL (cdL (cdR (cdR (cdL (cdL (cdR (cdL (cdR (cdR view_certs_c)))))))))))) view_certs_h.r.r.l.r.c.c.r.r.l.c.r.r s (blockX 1 (seqX (fun s=>view_certs_r5 m n0 kc kx ⟨s.H,[(0,gt s.T 0),(1,gt s.T 1),(3,gt s.T 3),(6,gt s.T 6),(9,gt s.T 9),(15,gt s.T 15),(16,gt s.T 16),(17,gt s.T 17)]⟩) (backW n0 [0,1,3,6,9,15,16,17] [8] kc kx)))
noncomputable def view_certs_r2 (m : Nat) (n0 : Nat) (kc : ASt → RO) (kx : KO (AV × List AObj)) (s : ASt) : RO := joinW Try.prog GG (view_certs_env m) m ⟨51,[]⟩ (cdR (cdL (cdR (cdL (cdL (cdR (cdR (cdL (cdL (cdR (cdL (cdR (cdR view_certs_c))))))))))))) view_certs_h.r.r.l.r.c.c.r.r.l.c.r.l.r s (seqX (fun s=>view_certs_r3 m n0 kc kx ⟨s.H,[(0,gt s.T 0),(1,gt s.T 1),(3,gt s.T 3),(6,gt s.T 6),(11,gt s.T 11),(15,gt s.T 15),(16,gt s.T 16),(17,gt s.T 17)]⟩) (blockX 1 (seqX (fun s=>view_certs_r4 m n0 kc kx ⟨s.H,[(0,gt s.T 0),(1,gt s.T 1),(3,gt s.T 3),(6,gt s.T 6),(9,gt s.T 9),(15,gt s.T 15),(16,gt s.T 16),(17,gt s.T 17)]⟩) (backW n0 [0,1,3,6,9,15,16,17] [8] kc kx))))
noncomputable def view_certs_r1 (m : Nat) (n0k : Nat) (s : ASt) : RO := joinW Try.prog GG (view_certs_env m) m ⟨51,[]⟩ (cdR (cdR (cdR view_certs_c))) view_certs_h.r.r.r s (view_certs_fin n0k)
noncomputable def view_certs_b1 (m : Nat) (s : ASt) (kc : ASt → RO) (kx : KO (AV × List AObj)) : RO := bodyW Try.prog GG (view_certs_env m) m ⟨51,[]⟩ (cdL (cdL (cdR (cdL (cdR (cdR view_certs_c)))))) view_certs_h.r.r.l.r.c.c [0,1,3,6,9,15,16,17] [8] s kc kx
noncomputable def view_certs (m : Nat) (t0 t1 t2 t3 : AV) (H : List AObj) : RO := exec Try.prog GG (view_certs_env m) m ⟨51,[]⟩ view_certs_c view_certs_h ⟨H,argsT 0 [t0,t1,t2,t3]⟩ (view_certs_fin H.length)
theorem view_certs_r5_eq (m : Nat) (n0 : Nat) (kc : ASt → RO) (kx : KO (AV × List AObj)) (H : List AObj) (t0 t1 t3 t6 t9 t15 t16 t17 : AV) : view_certs_r5 m n0 kc kx ⟨H,[(0,t0),(1,t1),(3,t3),(6,t6),(9,t9),(15,t15),(16,t16),(17,t17)]⟩ =
 binE none false false .add t17 (V (.int .i64 1)) fun t50 =>
 backE n0 H [(0,t0),(1,t1),(3,t3),(6,t6),(9,t9),(15,t15),(16,t16),(17,t50)] kc := by
 refine (joinW_eq _ _ _ _ _ _ _ _ _).trans ?_
 kernel_rfl
theorem view_certs_r4_eq (m : Nat) (n0 : Nat) (kc : ASt → RO) (kx : KO (AV × List AObj)) (H : List AObj) (t0 t1 t3 t6 t9 t15 t16 t17 : AV) : view_certs_r4 m n0 kc kx ⟨H,[(0,t0),(1,t1),(3,t3),(6,t6),(9,t9),(15,t15),(16,t16),(17,t17)]⟩ =
 binE none false false .add t17 (V (.int .i64 1)) fun t50 =>
 backE n0 H [(0,t0),(1,t1),(3,t3),(6,t6),(9,t9),(15,t15),(16,t16),(17,t50)] kc := by
 refine (joinW_eq _ _ _ _ _ _ _ _ _).trans ?_
 kernel_rfl
theorem view_certs_r3_eq (m : Nat) (n0 : Nat) (kc : ASt → RO) (kx : KO (AV × List AObj)) (H : List AObj) (t0 t1 t3 t6 t11 t15 t16 t17 : AV) : view_certs_r3 m n0 kc kx ⟨H,[(0,t0),(1,t1),(3,t3),(6,t6),(11,t11),(15,t15),(16,t16),(17,t17)]⟩ =
 fieldE (some (0,1)) t11 fun t48 =>
 loadE 1 H t48 fun t49 =>
 view_certs_r5 m n0 kc kx ⟨H,[(0,t0),(1,t1),(3,t3),(6,t6),(9,t49),(15,t15),(16,t16),(17,t17)]⟩ := by
 refine (joinW_eq _ _ _ _ _ _ _ _ _).trans ?_
 kernel_rfl
theorem view_certs_r2_eq (m : Nat) (n0 : Nat) (kc : ASt → RO) (kx : KO (AV × List AObj)) (H : List AObj) (t0 t1 t3 t6 t11 t15 t16 t17 t47 : AV) : view_certs_r2 m n0 kc kx ⟨H,[(0,t0),(1,t1),(3,t3),(6,t6),(11,t11),(15,t15),(16,t16),(17,t17),(47,t47)]⟩ =
 condE t47 (
  kx .ret ⟨H,[(8,(V (.bool false)))]⟩) (
  view_certs_r3 m n0 kc kx ⟨H,[(0,t0),(1,t1),(3,t3),(6,t6),(11,t11),(15,t15),(16,t16),(17,t17)]⟩) := by
 refine (joinW_eq _ _ _ _ _ _ _ _ _).trans ?_
 kernel_rfl
theorem view_certs_r1_eq (m : Nat) (n0k : Nat) (H : List AObj) : view_certs_r1 m n0k ⟨H,[]⟩ =
 keepK n0k H (ro H (V (.bool true))) := by
 refine (joinW_eq _ _ _ _ _ _ _ _ _).trans ?_
 kernel_rfl
theorem view_certs_b1_eq (m : Nat) (H : List AObj) (t0 t1 t3 t6 t9 t15 t16 t17 : AV) (kc : ASt → RO) (kx : KO (AV × List AObj)) : view_certs_b1 m ⟨H,[(0,t0),(1,t1),(3,t3),(6,t6),(9,t9),(15,t15),(16,t16),(17,t17)]⟩ kc kx =
 binE none false false .lss t17 t16 fun t18 =>
 condE t18 (
  idxSE 7 H t15 t17 fun t19 =>
  loadE 7 H t19 fun t20 =>
  allocE (some zc_api_Cert) ty_api_Cert H fun t11 H2 =>
  storeE 7 H2 t11 t20 fun H3 =>
  fieldE (some (0,1)) t11 fun t21 =>
  loadE 1 H3 t21 fun t22 =>
  binE none false false .leq t22 t9 fun t24 =>
  condE t24 (
   view_certs_r2 m H.length kc kx ⟨H3,[(0,t0),(1,t1),(3,t3),(6,t6),(11,t11),(15,t15),(16,t16),(17,t17),(47,(V (.bool true)))]⟩) (
   fieldE (some (0,1)) t11 fun t26 =>
   loadE 1 H3 t26 fun t27 =>
   fieldE (some (2,1)) t6 fun t28 =>
   loadE 1 H3 t28 fun t29 =>
   binE none false false .sub t27 t29 fun t30 =>
   binE none false false .gtr t30 (V (.int .i64 16)) fun t31 =>
   condE t31 (
   view_certs_r2 m H.length kc kx ⟨H3,[(0,t0),(1,t1),(3,t3),(6,t6),(11,t11),(15,t15),(16,t16),(17,t17),(47,(V (.bool true)))]⟩) (
   fieldE (some (1,1)) t11 fun t34 =>
   loadE 1 H3 t34 fun t35 =>
   fieldE (some (1,1)) t6 fun t36 =>
   loadE 1 H3 t36 fun t37 =>
   binE none false false .geq t35 t37 fun t38 =>
   condE t38 (
   view_certs_r2 m H.length kc kx ⟨H3,[(0,t0),(1,t1),(3,t3),(6,t6),(11,t11),(15,t15),(16,t16),(17,t17),(47,(V (.bool true)))]⟩) (
   loadE 7 H3 t11 fun t43 =>
   keepE (view_Cert m (ro H3 t0) (ro H3 t1) (ro H3 t43) (ro H3 t3) H3) fun t45 H4 =>
   unE .not t45 fun t46 =>
   view_certs_r2 m H.length kc kx ⟨H4,[(0,t0),(1,t1),(3,t3),(6,t6),(11,t11),(15,t15),(16,t16),(17,t17),(47,t46)]⟩)))) (
  kx (.exit 0) ⟨H,[(8, .nil)]⟩) := by
 refine (bodyW_eq _ _ _ _ _ _ _ _ _ _ _ _).trans ?_
 kernel_rfl
theorem view_certs_eq (m : Nat) (t0 t1 t2 t3 : AV) (H : List AObj) : view_certs m t0 t1 t2 t3 H =
 boxE ty_api_Change H t2 fun t6 H2 =>
 fieldE (some (2,1)) t6 fun t12 =>
 loadE 1 H2 t12 fun t13 =>
 fieldE (some (5,1)) t6 fun t14 =>
 loadE 1 H2 t14 fun t15 =>
 lenE false true H2 t15 fun t16 =>
 iterC m (view_certs_b1 m) ⟨H2,[(0,t0),(1,t1),(3,t3),(6,t6),(9,t13),(15,t15),(16,t16),(17,(V (.int .i64 0)))]⟩ (blockX 0 (seqX (fun s=>view_certs_r1 m H.length ⟨s.H,[]⟩) (view_certs_fin H.length))) := by
 refine (keepX Try.prog GG (view_certs_env m) m ⟨51,[]⟩ H.length view_certs_c view_certs_h ⟨H,argsT 0 [t0,t1,t2,t3]⟩ [.tmp 8]).trans ?_
 kernel_rfl
noncomputable def view_certs_t (m : Nat) : List AV → List AObj → RO|[t0,t1,t2,t3],H=>view_certs m t0 t1 t2 t3 H|_,_=>none
theorem view_certs_ok (m : Nat) : ∀ args H X H',view_certs_t m args H = some (X,H') → AC Try.prog GG 35 args H (Is X H') := by
 intro args H X H' h
 unfold view_certs_t at h
 split at h
 ·exact keep_okK MIX (by
  intro f e h
  simp only [view_certs_env,Prod.mk.injEq,List.mem_cons,List.not_mem_nil,or_false] at h
  obtain ⟨rfl,rfl⟩ := h
  ·exact view_Cert_ok m) (f := 35) (c := view_certs_c) Try.func35 rfl (by kernel_rfl) _ rfl Try.ntmps35 (Nat.le_of_ble_eq_true rfl) view_certs_h h
 ·cases h
noncomputable def view_ChangeStmt_c : Code := (Try.f12.body).getD .skip
def view_ChangeStmt_h : Hint := (.two .n (.two .n (.two (.two .n (.two (.two .n .n) .n)) (.two .n (.two (.two .n (.two (.two .n .n) .n)) (.two .n .n))))))
noncomputable def view_ChangeStmt_env (m : Nat) : Env := [(33, .tell (wire_EncodeChange_t m)),(28, .keep (term_Table_Of_t m))]
noncomputable abbrev view_ChangeStmt_fin (n0 : Nat) : KO (AV × List AObj) := keepFK Try.prog n0 [.cell 4 41, .tmp 5]
noncomputable def view_ChangeStmt (m : Nat) (t0 t1 : AV) (H : List AObj) : RO := exec Try.prog GG (view_ChangeStmt_env m) m ⟨34,[]⟩ view_ChangeStmt_c view_ChangeStmt_h ⟨H,argsT 0 [t0,t1]⟩ (view_ChangeStmt_fin H.length)
theorem view_ChangeStmt_eq (m : Nat) (t0 t1 : AV) (H : List AObj) : view_ChangeStmt m t0 t1 H =
 boxE ty_api_Change H t1 fun t3 H2 =>
 allocE (some zc_api_Stmt) ty_api_Stmt H2 fun t4 H3 =>
 loadE 8 H3 t3 fun t9 =>
 tellE (wire_EncodeChange m (ro H3 t9)) [(ro H3 t9)] fun t10 =>
 lenE false true H3 t10 fun t12 =>
 binE none false false .eql t12 (V (.int .i64 0)) fun t13 =>
 condE t13 (
  buildE (some pl_api_Stmt) (some zc_api_Stmt) [] fun t14 =>
  storeE 7 H3 t4 t14 fun H4 =>
  loadE 7 H4 t4 fun t9000 =>
  keepK H.length H4 (ro H4 (TU [noT t9000,noT (V (.int .i64 1))]))) (
  convE false none true true false (ro H3 t10) fun t18 =>
  keepE (term_Table_Of m (ro H3 t0) (ro H3 t18) H3) fun t19 H4 =>
  extE t19 0 fun t20 =>
  extE t19 1 fun t21 =>
  binE none false false .neq t21 (V (.int .i64 0)) fun t23 =>
  condE t23 (
   buildE (some pl_api_Stmt) (some zc_api_Stmt) [] fun t24 =>
   storeE 7 H4 t4 t24 fun H5 =>
   loadE 7 H5 t4 fun t9000 =>
   keepK H.length H5 (ro H5 (TU [noT t9000,noT t21]))) (
   fieldE (some (0,1)) t3 fun t26 =>
   loadE 1 H4 t26 fun t27 =>
   fieldE (some (1,1)) t3 fun t28 =>
   loadE 1 H4 t28 fun t29 =>
   fieldE (some (2,1)) t3 fun t30 =>
   loadE 1 H4 t30 fun t31 =>
   buildE (some pl_api_Stmt) (some zc_api_Stmt) [(0,t27),(1,(V (.int .i64 6))),(2,t29),(3,t31),(4,t20)] fun t33 =>
   storeE 7 H4 t4 t33 fun H5 =>
   loadE 7 H5 t4 fun t9000 =>
   keepK H.length H5 (ro H5 (TU [noT t9000,noT (V (.int .i64 0))])))) := by
 refine (keepX Try.prog GG (view_ChangeStmt_env m) m ⟨34,[]⟩ H.length view_ChangeStmt_c view_ChangeStmt_h ⟨H,argsT 0 [t0,t1]⟩ [.cell 4 41, .tmp 5]).trans ?_
 kernel_rfl
noncomputable def view_ChangeStmt_t (m : Nat) : List AV → List AObj → RO|[t0,t1],H=>view_ChangeStmt m t0 t1 H|_,_=>none
theorem view_ChangeStmt_ok (m : Nat) : ∀ args H X H',view_ChangeStmt_t m args H = some (X,H') → AC Try.prog GG 12 args H (Is X H') := by
 intro args H X H' h
 unfold view_ChangeStmt_t at h
 split at h
 ·exact keep_okK MIX (by
  intro f e h
  simp only [view_ChangeStmt_env,Prod.mk.injEq,List.mem_cons,List.not_mem_nil,or_false] at h
  rcases h with ⟨rfl,rfl⟩|⟨rfl,rfl⟩
  ·exact wire_EncodeChange_ok m
  ·exact term_Table_Of_ok m) (f := 12) (c := view_ChangeStmt_c) Try.func12 rfl (by kernel_rfl) _ rfl Try.ntmps12 (Nat.le_of_ble_eq_true rfl) view_ChangeStmt_h h
 ·cases h
noncomputable def view_Change_c : Code := (Try.f11.body).getD .skip
def view_Change_h : Hint := (.two .n (.join [0,1,3,6] (.two .n (.join [0,1,3,6,25] .n (.two (.two .n .n) .n))) (.join [0,1,6] (.join [0,1,6,49] .n (.two (.two .n .n) .n)) (.two .n (.two .n .n)))))
noncomputable def view_Change_env (m : Nat) : Env := [(32, .tell (quorum_Faults_t m)),(33, .tell (wire_EncodeChange_t m)),(34, .keep (view_stable_t m)),(35, .keep (view_certs_t m)),(12, .keep (view_ChangeStmt_t m)),(36, .keep (ring_Ring_Has_t m))]
noncomputable abbrev view_Change_fin (n0 : Nat) : KO (AV × List AObj) := keepFK Try.prog n0 [.tmp 8]
noncomputable def view_Change_r4 (m : Nat) (n0k : Nat) (s : ASt) : RO := joinW Try.prog GG (view_Change_env m) m ⟨63,[]⟩ (cdR (cdR (cdR view_Change_c))) view_Change_h.r.r.r s (view_Change_fin n0k)
noncomputable def view_Change_r3 (m : Nat) (n0k : Nat) (s : ASt) : RO := joinW Try.prog GG (view_Change_env m) m ⟨63,[]⟩ (cdR (cdL (cdR (cdR view_Change_c)))) view_Change_h.r.r.l.r s (seqX (fun s=>view_Change_r4 m n0k ⟨s.H,[(0,gt s.T 0),(1,gt s.T 1),(6,gt s.T 6)]⟩) (view_Change_fin n0k))
noncomputable def view_Change_r2 (m : Nat) (n0k : Nat) (s : ASt) : RO := joinW Try.prog GG (view_Change_env m) m ⟨63,[]⟩ (cdR (cdR view_Change_c)) view_Change_h.r.r s (view_Change_fin n0k)
noncomputable def view_Change_r1 (m : Nat) (n0k : Nat) (s : ASt) : RO := joinW Try.prog GG (view_Change_env m) m ⟨63,[]⟩ (cdR (cdR (cdL (cdR view_Change_c)))) view_Change_h.r.l.r.r s (seqX (fun s=>view_Change_r2 m n0k ⟨s.H,[(0,gt s.T 0),(1,gt s.T 1),(3,gt s.T 3),(6,gt s.T 6)]⟩) (view_Change_fin n0k))
noncomputable def view_Change (m : Nat) (t0 t1 t2 t3 : AV) (H : List AObj) : RO := exec Try.prog GG (view_Change_env m) m ⟨63,[]⟩ view_Change_c view_Change_h ⟨H,argsT 0 [t0,t1,t2,t3]⟩ (view_Change_fin H.length)
theorem view_Change_r4_eq (m : Nat) (n0k : Nat) (H : List AObj) (t0 t1 t6 : AV) : view_Change_r4 m n0k ⟨H,[(0,t0),(1,t1),(6,t6)]⟩ =
 loadE 8 H t6 fun t52 =>
 keepE (view_ChangeStmt m (ro H t1) (ro H t52) H) fun t53 H2 =>
 extE t53 0 fun t54 =>
 extE t53 1 fun t55 =>
 allocE (some zc_api_Stmt) ty_api_Stmt H2 fun t11 H3 =>
 storeE 7 H3 t11 t54 fun H4 =>
 binE none false false .eql t55 (V (.int .i64 0)) fun t57 =>
 condE t57 (
  loadE 7 H4 t11 fun t60 =>
  keepE (ring_Ring_Has m (ro H4 t0) (ro H4 t60) H4) fun t61 H5 =>
  keepK n0k H5 (ro H5 t61)) (
  keepK n0k H4 (ro H4 (V (.bool false)))) := by
 refine (joinW_eq _ _ _ _ _ _ _ _ _).trans ?_
 kernel_rfl
theorem view_Change_r3_eq (m : Nat) (n0k : Nat) (H : List AObj) (t0 t1 t6 t49 : AV) : view_Change_r3 m n0k ⟨H,[(0,t0),(1,t1),(6,t6),(49,t49)]⟩ =
 condE t49 (
  keepK n0k H (ro H (V (.bool false)))) (
  view_Change_r4 m n0k ⟨H,[(0,t0),(1,t1),(6,t6)]⟩) := by
 refine (joinW_eq _ _ _ _ _ _ _ _ _).trans ?_
 kernel_rfl
theorem view_Change_r2_eq (m : Nat) (n0k : Nat) (H : List AObj) (t0 t1 t3 t6 : AV) : view_Change_r2 m n0k ⟨H,[(0,t0),(1,t1),(3,t3),(6,t6)]⟩ =
 fieldE (some (0,1)) t6 fun t26 =>
 loadE 1 H t26 fun t27 =>
 binE none false false .geq t27 t3 fun t29 =>
 condE t29 (
  view_Change_r3 m n0k ⟨H,[(0,t0),(1,t1),(6,t6),(49,(V (.bool true)))]⟩) (
  fieldE (some (1,1)) t6 fun t31 =>
  loadE 1 H t31 fun t32 =>
  binE none false false .lss t32 (V (.int .i64 1)) fun t33 =>
  condE t33 (
  view_Change_r3 m n0k ⟨H,[(0,t0),(1,t1),(6,t6),(49,(V (.bool true)))]⟩) (
  loadE 8 H t6 fun t37 =>
  keepE (view_stable m (ro H t0) (ro H t37) (ro H t3) H) fun t39 H2 =>
  unE .not t39 fun t40 =>
  condE t40 (
  view_Change_r3 m n0k ⟨H2,[(0,t0),(1,t1),(6,t6),(49,(V (.bool true)))]⟩) (
  loadE 8 H2 t6 fun t45 =>
  keepE (view_certs m (ro H2 t0) (ro H2 t1) (ro H2 t45) (ro H2 t3) H2) fun t47 H3 =>
  unE .not t47 fun t48 =>
  view_Change_r3 m n0k ⟨H3,[(0,t0),(1,t1),(6,t6),(49,t48)]⟩))) := by
 refine (joinW_eq _ _ _ _ _ _ _ _ _).trans ?_
 kernel_rfl
theorem view_Change_r1_eq (m : Nat) (n0k : Nat) (H : List AObj) (t0 t1 t3 t6 t25 : AV) : view_Change_r1 m n0k ⟨H,[(0,t0),(1,t1),(3,t3),(6,t6),(25,t25)]⟩ =
 condE t25 (
  keepK n0k H (ro H (V (.bool false)))) (
  view_Change_r2 m n0k ⟨H,[(0,t0),(1,t1),(3,t3),(6,t6)]⟩) := by
 refine (joinW_eq _ _ _ _ _ _ _ _ _).trans ?_
 kernel_rfl
theorem view_Change_eq (m : Nat) (t0 t1 t2 t3 : AV) (H : List AObj) : view_Change m t0 t1 t2 t3 H =
 boxE ty_api_Change H t2 fun t6 H2 =>
 tellE (quorum_Faults m (ro H2 t3)) [(ro H2 t3)] fun t15 =>
 extE t15 0 fun t16 =>
 extE t15 1 fun t17 =>
 binE none false false .neq t17 (V (.int .i64 0)) fun t19 =>
 condE t19 (
  view_Change_r1 m H.length ⟨H2,[(0,t0),(1,t1),(3,t3),(6,t6),(25,(V (.bool true)))]⟩) (
  loadE 8 H2 t6 fun t21 =>
  tellE (wire_EncodeChange m (ro H2 t21)) [(ro H2 t21)] fun t22 =>
  lenE false true H2 t22 fun t23 =>
  binE none false false .eql t23 (V (.int .i64 0)) fun t24 =>
  view_Change_r1 m H.length ⟨H2,[(0,t0),(1,t1),(3,t3),(6,t6),(25,t24)]⟩) := by
 refine (keepX Try.prog GG (view_Change_env m) m ⟨63,[]⟩ H.length view_Change_c view_Change_h ⟨H,argsT 0 [t0,t1,t2,t3]⟩ [.tmp 8]).trans ?_
 kernel_rfl
noncomputable def view_Change_t (m : Nat) : List AV → List AObj → RO|[t0,t1,t2,t3],H=>view_Change m t0 t1 t2 t3 H|_,_=>none
theorem view_Change_ok (m : Nat) : ∀ args H X H',view_Change_t m args H = some (X,H') → AC Try.prog GG 11 args H (Is X H') := by
 intro args H X H' h
 unfold view_Change_t at h
 split at h
 ·exact keep_okK MIX (by
  intro f e h
  simp only [view_Change_env,Prod.mk.injEq,List.mem_cons,List.not_mem_nil,or_false] at h
  rcases h with ⟨rfl,rfl⟩|⟨rfl,rfl⟩|⟨rfl,rfl⟩|⟨rfl,rfl⟩|⟨rfl,rfl⟩|⟨rfl,rfl⟩
  ·exact quorum_Faults_ok m
  ·exact wire_EncodeChange_ok m
  ·exact view_stable_ok m
  ·exact view_certs_ok m
  ·exact view_ChangeStmt_ok m
  ·exact ring_Ring_Has_ok m) (f := 11) (c := view_Change_c) Try.func11 rfl (by kernel_rfl) _ rfl Try.ntmps11 (Nat.le_of_ble_eq_true rfl) view_Change_h h
 ·cases h
noncomputable def view_NewStmt_c : Code := (Try.f22.body).getD .skip
def view_NewStmt_h : Hint := (.two .n (.two .n (.join [0,3,4,6] (.two .n (.one (.lp [] [0,3,4,6,13,14,15] [0,3,4,5,6] (.two .n (.two (.two .n .n) (.two (.one (.two .n (.two .n (.two (.two .n (.two (.two .n .n) .n)) .n)))) .n)))))) (.two .n (.two (.two .n (.two (.two .n .n) .n)) (.two .n .n))))))
noncomputable def view_NewStmt_env (m : Nat) : Env := [(33, .tell (wire_EncodeChange_t m)),(28, .keep (term_Table_Of_t m))]
noncomputable abbrev view_NewStmt_fin (n0 : Nat) : KO (AV × List AObj) := keepFK Try.prog n0 [.cell 4 41, .tmp 5]
noncomputable def view_NewStmt (m : Nat) (t0 t1 : AV) (H : List AObj) : RO := exec Try.prog GG (view_NewStmt_env m) m ⟨46,[]⟩ view_NewStmt_c view_NewStmt_h ⟨H,argsT 0 [t0,t1]⟩ (view_NewStmt_fin H.length)
noncomputable def view_NewStmt_t (m : Nat) : List AV → List AObj → RO|[t0,t1],H=>view_NewStmt m t0 t1 H|_,_=>none
theorem view_NewStmt_ok (m : Nat) : ∀ args H X H',view_NewStmt_t m args H = some (X,H') → AC Try.prog GG 22 args H (Is X H') := by
 intro args H X H' h
 unfold view_NewStmt_t at h
 split at h
 ·exact keep_okK MIX (by
  intro f e h
  simp only [view_NewStmt_env,Prod.mk.injEq,List.mem_cons,List.not_mem_nil,or_false] at h
  rcases h with ⟨rfl,rfl⟩|⟨rfl,rfl⟩
  ·exact wire_EncodeChange_ok m
  ·exact term_Table_Of_ok m) (f := 22) (c := view_NewStmt_c) Try.func22 rfl (by kernel_rfl) _ rfl Try.ntmps22 (Nat.le_of_ble_eq_true rfl) view_NewStmt_h h
 ·cases h
end Go.Proofs.Ytaaogcnjfkgnoaa

namespace Go.Proofs.Ytaaogcnjfkgnoaa
open Go.RowKit
end Go.Proofs.Ytaaogcnjfkgnoaa

namespace Go.Proofs.Ytaaogcnjfkgnoaa
open Go.RowKit
def ty_plenumlaw32_Scene : TypeId := 26
def ty_plenumref32_World : TypeId := 48
def zc_plenumref32_World : List AV := [(V (.slice none 0 0)),(V (.int .i64 0)),(V (.slice none 0 0)),(V (.slice none 0 0))]
def pl_plenumref04_Ring : List (Nat × Nat) := [(0,1),(1,1),(2,1)]
def pl_plenumref32_World : List (Nat × Nat) := [(0,1),(1,3)]
noncomputable def plenumlaw32_bad_c : Code := (Try.f9.body).getD .skip
def plenumlaw32_bad_h : Hint := (.two .n (.join [] (.two .n (.one (.lp [] [1,3] [2] (.join [1,3] (.join [1,3,12] .n (.two .n .n)) (.join [1,3] (.one (.join [1,3,28] .n (.two (.two .n .n) .n))) .n))))) (.two .n .n)))
noncomputable def plenumlaw32_bad_env (m : Nat) : Env := []
noncomputable abbrev plenumlaw32_bad_fin : KO (AV × List AObj) := tellFK Try.prog [.tmp 2]
noncomputable def plenumlaw32_bad_r5 (m : Nat) (n0 : Nat) (kc : ASt → RO) (kx : KO (AV × List AObj)) (s : ASt) : RO := joinW Try.prog GG (plenumlaw32_bad_env m) m ⟨29,[]⟩ (cdR (cdR (cdL (cdL (cdR (cdL (cdR plenumlaw32_bad_c))))))) plenumlaw32_bad_h.r.l.r.c.c.r.r s (backW n0 [1,3] [2] kc kx)
noncomputable def plenumlaw32_bad_r4 (m : Nat) (n0 : Nat) (kc : ASt → RO) (kx : KO (AV × List AObj)) (s : ASt) : RO := joinW Try.prog GG (plenumlaw32_bad_env m) m ⟨29,[]⟩ (cdR (cdL (cdL (cdR (cdL (cdL (cdR (cdL (cdR plenumlaw32_bad_c))))))))) plenumlaw32_bad_h.r.l.r.c.c.r.l.c.r s (blockX 1 (seqX (fun s=>plenumlaw32_bad_r5 m n0 kc kx ⟨s.H,[(1,gt s.T 1),(3,gt s.T 3)]⟩) (backW n0 [1,3] [2] kc kx)))
noncomputable def plenumlaw32_bad_r3 (m : Nat) (n0 : Nat) (kc : ASt → RO) (kx : KO (AV × List AObj)) (s : ASt) : RO := joinW Try.prog GG (plenumlaw32_bad_env m) m ⟨29,[]⟩ (cdR (cdL (cdL (cdR (cdL (cdR plenumlaw32_bad_c)))))) plenumlaw32_bad_h.r.l.r.c.c.r s (backW n0 [1,3] [2] kc kx)
noncomputable def plenumlaw32_bad_r2 (m : Nat) (n0 : Nat) (kc : ASt → RO) (kx : KO (AV × List AObj)) (s : ASt) : RO := joinW Try.prog GG (plenumlaw32_bad_env m) m ⟨29,[]⟩ (cdR (cdL (cdL (cdL (cdR (cdL (cdR plenumlaw32_bad_c))))))) plenumlaw32_bad_h.r.l.r.c.c.l.r s (seqX (fun s=>plenumlaw32_bad_r3 m n0 kc kx ⟨s.H,[(1,gt s.T 1),(3,gt s.T 3)]⟩) (backW n0 [1,3] [2] kc kx))
noncomputable def plenumlaw32_bad_r1 (m : Nat) (s : ASt) : RO := joinW Try.prog GG (plenumlaw32_bad_env m) m ⟨29,[]⟩ (cdR (cdR plenumlaw32_bad_c)) plenumlaw32_bad_h.r.r s (plenumlaw32_bad_fin)
noncomputable def plenumlaw32_bad_b1 (m : Nat) (s : ASt) (kc : ASt → RO) (kx : KO (AV × List AObj)) : RO := bodyW Try.prog GG (plenumlaw32_bad_env m) m ⟨29,[]⟩ (cdL (cdL (cdR (cdL (cdR plenumlaw32_bad_c))))) plenumlaw32_bad_h.r.l.r.c.c [1,3] [2] s kc kx
noncomputable def plenumlaw32_bad (m : Nat) (t0 : AV) : RO := exec Try.prog GG (plenumlaw32_bad_env m) m ⟨29,[]⟩ plenumlaw32_bad_c plenumlaw32_bad_h ⟨[],argsT 0 [t0]⟩ (plenumlaw32_bad_fin)
theorem plenumlaw32_bad_r5_eq (m : Nat) (n0 : Nat) (kc : ASt → RO) (kx : KO (AV × List AObj)) (H : List AObj) (t1 t3 : AV) : plenumlaw32_bad_r5 m n0 kc kx ⟨H,[(1,t1),(3,t3)]⟩ =
 binE none false false .add t3 (V (.int .i64 1)) fun t14 =>
 backE n0 H [(1,t1),(3,t14)] kc := by
 refine (joinW_eq _ _ _ _ _ _ _ _ _).trans ?_
 kernel_rfl
theorem plenumlaw32_bad_r4_eq (m : Nat) (n0 : Nat) (kc : ASt → RO) (kx : KO (AV × List AObj)) (H : List AObj) (t1 t3 t28 : AV) : plenumlaw32_bad_r4 m n0 kc kx ⟨H,[(1,t1),(3,t3),(28,t28)]⟩ =
 condE t28 (
  kx .ret ⟨H,[(2,(V (.bool true)))]⟩) (
  plenumlaw32_bad_r5 m n0 kc kx ⟨H,[(1,t1),(3,t3)]⟩) := by
 refine (joinW_eq _ _ _ _ _ _ _ _ _).trans ?_
 kernel_rfl
theorem plenumlaw32_bad_r3_eq (m : Nat) (n0 : Nat) (kc : ASt → RO) (kx : KO (AV × List AObj)) (H : List AObj) (t1 t3 : AV) : plenumlaw32_bad_r3 m n0 kc kx ⟨H,[(1,t1),(3,t3)]⟩ =
 fieldE (some (1,1)) t1 fun t15 =>
 loadE 1 H t15 fun t16 =>
 idxSE 1 H t16 t3 fun t18 =>
 loadE 1 H t18 fun t19 =>
 binE none false false .lss t19 (V (.int .i64 0)) fun t20 =>
 condE t20 (
  plenumlaw32_bad_r4 m n0 kc kx ⟨H,[(1,t1),(3,t3),(28,(V (.bool true)))]⟩) (
  fieldE (some (1,1)) t1 fun t22 =>
  loadE 1 H t22 fun t23 =>
  idxSE 1 H t23 t3 fun t25 =>
  loadE 1 H t25 fun t26 =>
  binE none false false .gtr t26 (V (.int .i64 6)) fun t27 =>
  plenumlaw32_bad_r4 m n0 kc kx ⟨H,[(1,t1),(3,t3),(28,t27)]⟩) := by
 refine (joinW_eq _ _ _ _ _ _ _ _ _).trans ?_
 kernel_rfl
theorem plenumlaw32_bad_r2_eq (m : Nat) (n0 : Nat) (kc : ASt → RO) (kx : KO (AV × List AObj)) (H : List AObj) (t1 t3 t12 : AV) : plenumlaw32_bad_r2 m n0 kc kx ⟨H,[(1,t1),(3,t3),(12,t12)]⟩ =
 condE t12 (
  plenumlaw32_bad_r3 m n0 kc kx ⟨H,[(1,t1),(3,t3)]⟩) (
  kx (.exit 0) ⟨H,[(2, .nil)]⟩) := by
 refine (joinW_eq _ _ _ _ _ _ _ _ _).trans ?_
 kernel_rfl
theorem plenumlaw32_bad_r1_eq (m : Nat) (H : List AObj) : plenumlaw32_bad_r1 m ⟨H,[]⟩ =
 tellK H (ro H (V (.bool false))) := by
 refine (joinW_eq _ _ _ _ _ _ _ _ _).trans ?_
 kernel_rfl
theorem plenumlaw32_bad_b1_eq (m : Nat) (H : List AObj) (t1 t3 : AV) (kc : ASt → RO) (kx : KO (AV × List AObj)) : plenumlaw32_bad_b1 m ⟨H,[(1,t1),(3,t3)]⟩ kc kx =
 fieldE (some (1,1)) t1 fun t5 =>
 loadE 1 H t5 fun t6 =>
 lenE false true H t6 fun t7 =>
 binE none false false .lss t3 t7 fun t8 =>
 condE t8 (
  binE none false false .lss t3 (V (.int .i64 10)) fun t11 =>
  plenumlaw32_bad_r2 m H.length kc kx ⟨H,[(1,t1),(3,t3),(12,t11)]⟩) (
  plenumlaw32_bad_r2 m H.length kc kx ⟨H,[(1,t1),(3,t3),(12,(V (.bool false)))]⟩) := by
 refine (bodyW_eq _ _ _ _ _ _ _ _ _ _ _ _).trans ?_
 kernel_rfl
theorem plenumlaw32_bad_eq (m : Nat) (t0 : AV) : plenumlaw32_bad m t0 =
 boxE ty_plenumlaw32_Scene [] t0 fun t1 H1 =>
 iterC m (plenumlaw32_bad_b1 m) ⟨H1,[(1,t1),(3,(V (.int .i64 0)))]⟩ (blockX 0 (seqX (fun s=>plenumlaw32_bad_r1 m ⟨s.H,[]⟩) (plenumlaw32_bad_fin))) := by
 refine (tellX _ _ _ _ _ _ _ _ _).trans ?_
 kernel_rfl
noncomputable def plenumlaw32_bad_t (m : Nat) : List AV → RO|[t0]=>plenumlaw32_bad m t0|_=>none
theorem plenumlaw32_bad_ok (m : Nat) : ∀ args X H',plenumlaw32_bad_t m args = some (X,H') → ACp Try.prog GG 9 args X := by
 intro args X H' h
 unfold plenumlaw32_bad_t at h
 split at h
 ·exact tell_okK MIX (by intro f e h;cases h) (f := 9) (c := plenumlaw32_bad_c) Try.func9 rfl (by kernel_rfl) _ rfl Try.ntmps9 (Nat.le_of_ble_eq_true rfl) plenumlaw32_bad_h h
 ·cases h
noncomputable def plenumlaw32_set_c : Code := (Try.f8.body).getD .skip
def plenumlaw32_set_h : Hint := (.two .n (.join [1] (.two .n (.two .n .n)) (.two .n (.two .n (.gh (9,0,ty_string,1) [1,6,7,8,9] .n (.join [1,6,7,9] (.join [1,6,7,9,42] .n (.two (.two .n .n) .n)) (.join [1,6,7,9] (.two .n (.one (.lp [] [1,6,7,9,10] [1,6,7,9] (.join [1,6,7,9,10] (.join [1,6,7,9,10,51] .n (.two .n .n)) (.join [1,6,7,9,10] (.one (.two .n (.join [1,6,7,9,10,11] (.two .n (.two .n .n)) (.two .n .n)))) .n))))) (.join [6,7,9] (.two .n (.one (.lp [] [1,6,7,9,12] [6,7,9] (.join [1,6,7,9,12] (.join [1,6,7,9,12,88] .n (.two .n .n)) (.two (.one (.two .n .n)) .n))))) (.two .n .n)))))))))
noncomputable def plenumlaw32_set_env (m : Nat) : Env := [(26, .keep (term_New_t m)),(27, .keep (ring_New_t m)),(30, .keep (ring_Ring_Say_t m)),(31, .tell (plenumref04_Ring_Say_t m)),(28, .keep (term_Table_Of_t m)),(29, .keep (plenumref02_Of_t m))]
noncomputable abbrev plenumlaw32_set_fin (n0 : Nat) : KO (AV × List AObj) := openFK Try.prog n0 [.tmp 2, .tmp 3, .tmp 4, .tmp 5]
noncomputable def plenumlaw32_set_r12 (m : Nat) (n0 : Nat) (kc : ASt → RO) (kx : KO (AV × List AObj)) (s : ASt) : RO := joinW Try.prog GG (plenumlaw32_set_env m) m ⟨131,[]⟩ (cdR (cdR (cdL (cdL (cdR (cdL (cdR (cdR (cdR (cdR (cdR (cdR plenumlaw32_set_c)))))))))))) plenumlaw32_set_h.r.r.r.r.r.r.l.r.c.c.r.r s (backW n0 [1,6,7,9,10] [1,6,7,9] kc kx)
noncomputable def plenumlaw32_set_r11 (m : Nat) (n0 : Nat) (kc : ASt → RO) (kx : KO (AV × List AObj)) (s : ASt) : RO := joinW Try.prog GG (plenumlaw32_set_env m) m ⟨131,[]⟩ (cdR (cdR (cdL (cdL (cdR (cdL (cdL (cdR (cdL (cdR (cdR (cdR (cdR (cdR (cdR plenumlaw32_set_c))))))))))))))) plenumlaw32_set_h.r.r.r.r.r.r.l.r.c.c.r.l.c.r.r s (blockX 1 (seqX (fun s=>plenumlaw32_set_r12 m n0 kc kx ⟨s.H,[(1,gt s.T 1),(6,gt s.T 6),(7,gt s.T 7),(9,gt s.T 9),(10,gt s.T 10)]⟩) (backW n0 [1,6,7,9,10] [1,6,7,9] kc kx)))
noncomputable def plenumlaw32_set_r10 (m : Nat) (n0 : Nat) (kc : ASt → RO) (kx : KO (AV × List AObj)) (s : ASt) : RO := joinW Try.prog GG (plenumlaw32_set_env m) m ⟨131,[]⟩ (cdR (cdL (cdL (cdR (cdL (cdR (cdR (cdR (cdR (cdR (cdR (cdR plenumlaw32_set_c)))))))))))) plenumlaw32_set_h.r.r.r.r.r.r.r.l.r.c.c.r s (backW n0 [1,6,7,9,12] [6,7,9] kc kx)
noncomputable def plenumlaw32_set_r9 (m : Nat) (n0 : Nat) (kc : ASt → RO) (kx : KO (AV × List AObj)) (s : ASt) : RO := joinW Try.prog GG (plenumlaw32_set_env m) m ⟨131,[]⟩ (cdR (cdL (cdL (cdR (cdL (cdR (cdR (cdR (cdR (cdR (cdR plenumlaw32_set_c))))))))))) plenumlaw32_set_h.r.r.r.r.r.r.l.r.c.c.r s (backW n0 [1,6,7,9,10] [1,6,7,9] kc kx)
noncomputable def plenumlaw32_set_r8 (m : Nat) (n0 : Nat) (kc : ASt → RO) (kx : KO (AV × List AObj)) (s : ASt) : RO := joinW Try.prog GG (plenumlaw32_set_env m) m ⟨131,[]⟩ (cdR (cdL (cdL (cdL (cdR (cdL (cdR (cdR (cdR (cdR (cdR (cdR (cdR plenumlaw32_set_c))))))))))))) plenumlaw32_set_h.r.r.r.r.r.r.r.l.r.c.c.l.r s (seqX (fun s=>plenumlaw32_set_r10 m n0 kc kx ⟨s.H,[(1,gt s.T 1),(6,gt s.T 6),(7,gt s.T 7),(9,gt s.T 9),(12,gt s.T 12)]⟩) (backW n0 [1,6,7,9,12] [6,7,9] kc kx))
noncomputable def plenumlaw32_set_r7 (m : Nat) (n0k : Nat) (s : ASt) : RO := joinW Try.prog GG (plenumlaw32_set_env m) m ⟨131,[]⟩ (cdR (cdR (cdR (cdR (cdR (cdR (cdR (cdR plenumlaw32_set_c)))))))) plenumlaw32_set_h.r.r.r.r.r.r.r.r s (plenumlaw32_set_fin n0k)
noncomputable def plenumlaw32_set_r6 (m : Nat) (n0 : Nat) (kc : ASt → RO) (kx : KO (AV × List AObj)) (s : ASt) : RO := joinW Try.prog GG (plenumlaw32_set_env m) m ⟨131,[]⟩ (cdR (cdL (cdL (cdL (cdR (cdL (cdR (cdR (cdR (cdR (cdR (cdR plenumlaw32_set_c)))))))))))) plenumlaw32_set_h.r.r.r.r.r.r.l.r.c.c.l.r s (seqX (fun s=>plenumlaw32_set_r9 m n0 kc kx ⟨s.H,[(1,gt s.T 1),(6,gt s.T 6),(7,gt s.T 7),(9,gt s.T 9),(10,gt s.T 10)]⟩) (backW n0 [1,6,7,9,10] [1,6,7,9] kc kx))
noncomputable def plenumlaw32_set_b2 (m : Nat) (s : ASt) (kc : ASt → RO) (kx : KO (AV × List AObj)) : RO := bodyW Try.prog GG (plenumlaw32_set_env m) m ⟨131,[]⟩ (cdL (cdL (cdR (cdL (cdR (cdR (cdR (cdR (cdR (cdR (cdR plenumlaw32_set_c))))))))))) plenumlaw32_set_h.r.r.r.r.r.r.r.l.r.c.c [1,6,7,9,12] [6,7,9] s kc kx
noncomputable def plenumlaw32_set_r5 (m : Nat) (n0k : Nat) (s : ASt) : RO := joinW Try.prog GG (plenumlaw32_set_env m) m ⟨131,[]⟩ (cdR (cdR (cdR (cdR (cdR (cdR (cdR plenumlaw32_set_c))))))) plenumlaw32_set_h.r.r.r.r.r.r.r s (plenumlaw32_set_fin n0k)
noncomputable def plenumlaw32_set_b1 (m : Nat) (s : ASt) (kc : ASt → RO) (kx : KO (AV × List AObj)) : RO := bodyW Try.prog GG (plenumlaw32_set_env m) m ⟨131,[]⟩ (cdL (cdL (cdR (cdL (cdR (cdR (cdR (cdR (cdR (cdR plenumlaw32_set_c)))))))))) plenumlaw32_set_h.r.r.r.r.r.r.l.r.c.c [1,6,7,9,10] [1,6,7,9] s kc kx
noncomputable def plenumlaw32_set_r4 (m : Nat) (n0k : Nat) (s : ASt) : RO := joinW Try.prog GG (plenumlaw32_set_env m) m ⟨131,[]⟩ (cdR (cdR (cdR (cdR (cdR (cdR plenumlaw32_set_c)))))) plenumlaw32_set_h.r.r.r.r.r.r s (plenumlaw32_set_fin n0k)
noncomputable def plenumlaw32_set_r3 (m : Nat) (n0k : Nat) (s : ASt) : RO := joinW Try.prog GG (plenumlaw32_set_env m) m ⟨131,[]⟩ (cdR (cdL (cdR (cdR (cdR (cdR (cdR plenumlaw32_set_c))))))) plenumlaw32_set_h.r.r.r.r.r.l.r s (seqX (fun s=>plenumlaw32_set_r4 m n0k ⟨s.H,[(1,gt s.T 1),(6,gt s.T 6),(7,gt s.T 7),(9,gt s.T 9)]⟩) (plenumlaw32_set_fin n0k))
noncomputable def plenumlaw32_set_r2 (m : Nat) (n0k : Nat) (s : ASt) : RO := joinW Try.prog GG (plenumlaw32_set_env m) m ⟨131,[]⟩ (cdR (cdR (cdR (cdR (cdR plenumlaw32_set_c))))) plenumlaw32_set_h.r.r.r.r.r s (plenumlaw32_set_fin n0k)
noncomputable def plenumlaw32_set_r1 (m : Nat) (n0k : Nat) (s : ASt) : RO := joinW Try.prog GG (plenumlaw32_set_env m) m ⟨131,[]⟩ (cdR (cdR plenumlaw32_set_c)) plenumlaw32_set_h.r.r s (plenumlaw32_set_fin n0k)
noncomputable def plenumlaw32_set (m : Nat) (t0 : AV) (H : List AObj) : RO := exec Try.prog GG (plenumlaw32_set_env m) m ⟨131,[]⟩ plenumlaw32_set_c plenumlaw32_set_h ⟨H,argsT 0 [t0]⟩ (plenumlaw32_set_fin H.length)
theorem plenumlaw32_set_r12_eq (m : Nat) (n0 : Nat) (kc : ASt → RO) (kx : KO (AV × List AObj)) (H : List AObj) (t1 t6 t7 t9 t10 : AV) : plenumlaw32_set_r12 m n0 kc kx ⟨H,[(1,t1),(6,t6),(7,t7),(9,t9),(10,t10)]⟩ =
 binE none false false .add t10 (V (.int .i64 1)) fun t53 =>
 backE n0 H [(1,t1),(6,t6),(7,t7),(9,t9),(10,t53)] kc := by
 refine (joinW_eq _ _ _ _ _ _ _ _ _).trans ?_
 kernel_rfl
theorem plenumlaw32_set_r11_eq (m : Nat) (n0 : Nat) (kc : ASt → RO) (kx : KO (AV × List AObj)) (H : List AObj) (t1 t6 t7 t9 t10 t11 : AV) : plenumlaw32_set_r11 m n0 kc kx ⟨H,[(1,t1),(6,t6),(7,t7),(9,t9),(10,t10),(11,t11)]⟩ =
 keepE (term_Table_Of m (ro H t6) (ro H t11) H) fun t66 H2 =>
 nilE t9 fun t70 =>
 fieldE (some (0,1)) t70 fun t71 =>
 loadE 1 H2 t71 fun t72 =>
 keepE (plenumref02_Of m t72 t11 H2) fun t74 H3 =>
 extE t74 0 fun t75 =>
 extE t74 1 fun t76 =>
 extE t74 2 fun t77 =>
 nilE t9 fun t78 =>
 fieldE (some (0,1)) t78 fun t79 =>
 storeE 1 H3 t79 t75 fun H4 =>
 plenumlaw32_set_r12 m n0 kc kx ⟨H4,[(1,t1),(6,t6),(7,t7),(9,t9),(10,t10)]⟩ := by
 refine (joinW_eq _ _ _ _ _ _ _ _ _).trans ?_
 kernel_rfl
theorem plenumlaw32_set_r10_eq (m : Nat) (n0 : Nat) (kc : ASt → RO) (kx : KO (AV × List AObj)) (H : List AObj) (t1 t6 t7 t9 t12 : AV) : plenumlaw32_set_r10 m n0 kc kx ⟨H,[(1,t1),(6,t6),(7,t7),(9,t9),(12,t12)]⟩ =
 fieldE (some (2,1)) t1 fun t92 =>
 loadE 1 H t92 fun t93 =>
 idxSE 8 H t93 t12 fun t95 =>
 fieldE (some (0,1)) t95 fun t96 =>
 loadE 1 H t96 fun t97 =>
 fieldE (some (2,1)) t1 fun t98 =>
 loadE 1 H t98 fun t99 =>
 idxSE 8 H t99 t12 fun t101 =>
 fieldE (some (1,7)) t101 fun t102 =>
 loadE 7 H t102 fun t103 =>
 keepE (ring_Ring_Say m (ro H t7) (ro H t97) (ro H t103) H) fun t104 H2 =>
 nilE t9 fun t108 =>
 fieldE (some (1,5)) t108 fun t109 =>
 loadE 5 H2 t109 fun t110 =>
 fieldE (some (2,1)) t1 fun t111 =>
 loadE 1 H2 t111 fun t112 =>
 idxSE 8 H2 t112 t12 fun t114 =>
 fieldE (some (0,1)) t114 fun t115 =>
 loadE 1 H2 t115 fun t116 =>
 fieldE (some (2,1)) t1 fun t117 =>
 loadE 1 H2 t117 fun t118 =>
 idxSE 8 H2 t118 t12 fun t120 =>
 fieldE (some (1,7)) t120 fun t121 =>
 loadE 7 H2 t121 fun t122 =>
 tellE (plenumref04_Ring_Say m (ro H2 t110) (ro H2 t116) (ro H2 t122)) [(ro H2 t110),(ro H2 t116),(ro H2 t122)] fun t123 =>
 extE t123 0 fun t124 =>
 extE t123 1 fun t125 =>
 nilE t9 fun t126 =>
 fieldE (some (1,5)) t126 fun t127 =>
 storeE 5 H2 t127 t124 fun H3 =>
 binE none false false .add t12 (V (.int .i64 1)) fun t90 =>
 backE n0 H3 [(1,t1),(6,t6),(7,t7),(9,t9),(12,t90)] kc := by
 refine (joinW_eq _ _ _ _ _ _ _ _ _).trans ?_
 kernel_rfl
theorem plenumlaw32_set_r9_eq (m : Nat) (n0 : Nat) (kc : ASt → RO) (kx : KO (AV × List AObj)) (H : List AObj) (t1 t6 t7 t9 t10 : AV) : plenumlaw32_set_r9 m n0 kc kx ⟨H,[(1,t1),(6,t6),(7,t7),(9,t9),(10,t10)]⟩ =
 fieldE (some (0,1)) t1 fun t54 =>
 loadE 1 H t54 fun t55 =>
 idxSE 1 H t55 t10 fun t57 =>
 loadE 1 H t57 fun t58 =>
 lenE true false H t58 fun t60 =>
 binE none false false .gtr t60 (V (.int .i64 3000)) fun t61 =>
 condE t61 (
  sliceE true none H t58 none (some (V (.int .i64 3000))) fun t63 =>
  plenumlaw32_set_r11 m n0 kc kx ⟨H,[(1,t1),(6,t6),(7,t7),(9,t9),(10,t10),(11,t63)]⟩) (
  plenumlaw32_set_r11 m n0 kc kx ⟨H,[(1,t1),(6,t6),(7,t7),(9,t9),(10,t10),(11,t58)]⟩) := by
 refine (joinW_eq _ _ _ _ _ _ _ _ _).trans ?_
 kernel_rfl
theorem plenumlaw32_set_r8_eq (m : Nat) (n0 : Nat) (kc : ASt → RO) (kx : KO (AV × List AObj)) (H : List AObj) (t1 t6 t7 t9 t12 t88 : AV) : plenumlaw32_set_r8 m n0 kc kx ⟨H,[(1,t1),(6,t6),(7,t7),(9,t9),(12,t12),(88,t88)]⟩ =
 condE t88 (
  plenumlaw32_set_r10 m n0 kc kx ⟨H,[(1,t1),(6,t6),(7,t7),(9,t9),(12,t12)]⟩) (
  kx (.exit 2) ⟨H,[(6,t6),(7,t7),(9,t9)]⟩) := by
 refine (joinW_eq _ _ _ _ _ _ _ _ _).trans ?_
 kernel_rfl
theorem plenumlaw32_set_r7_eq (m : Nat) (n0k : Nat) (H : List AObj) (t6 t7 t9 : AV) : plenumlaw32_set_r7 m n0k ⟨H,[(6,t6),(7,t7),(9,t9)]⟩ =
 openK H (ro H (TU [noT t6,noT t7,noT t9,noT (V (.bool true))])) := by
 refine (joinW_eq _ _ _ _ _ _ _ _ _).trans ?_
 kernel_rfl
theorem plenumlaw32_set_r6_eq (m : Nat) (n0 : Nat) (kc : ASt → RO) (kx : KO (AV × List AObj)) (H : List AObj) (t1 t6 t7 t9 t10 t51 : AV) : plenumlaw32_set_r6 m n0 kc kx ⟨H,[(1,t1),(6,t6),(7,t7),(9,t9),(10,t10),(51,t51)]⟩ =
 condE t51 (
  plenumlaw32_set_r9 m n0 kc kx ⟨H,[(1,t1),(6,t6),(7,t7),(9,t9),(10,t10)]⟩) (
  kx (.exit 0) ⟨H,[(1,t1),(6,t6),(7,t7),(9,t9)]⟩) := by
 refine (joinW_eq _ _ _ _ _ _ _ _ _).trans ?_
 kernel_rfl
theorem plenumlaw32_set_b2_eq (m : Nat) (H : List AObj) (t1 t6 t7 t9 t12 : AV) (kc : ASt → RO) (kx : KO (AV × List AObj)) : plenumlaw32_set_b2 m ⟨H,[(1,t1),(6,t6),(7,t7),(9,t9),(12,t12)]⟩ kc kx =
 fieldE (some (2,1)) t1 fun t81 =>
 loadE 1 H t81 fun t82 =>
 lenE false true H t82 fun t83 =>
 binE none false false .lss t12 t83 fun t84 =>
 condE t84 (
  binE none false false .lss t12 (V (.int .i64 120)) fun t87 =>
  plenumlaw32_set_r8 m H.length kc kx ⟨H,[(1,t1),(6,t6),(7,t7),(9,t9),(12,t12),(88,t87)]⟩) (
  plenumlaw32_set_r8 m H.length kc kx ⟨H,[(1,t1),(6,t6),(7,t7),(9,t9),(12,t12),(88,(V (.bool false)))]⟩) := by
 refine (bodyW_eq _ _ _ _ _ _ _ _ _ _ _ _).trans ?_
 kernel_rfl
theorem plenumlaw32_set_r5_eq (m : Nat) (n0k : Nat) (H : List AObj) (t1 t6 t7 t9 : AV) : plenumlaw32_set_r5 m n0k ⟨H,[(1,t1),(6,t6),(7,t7),(9,t9)]⟩ =
 iterC m (plenumlaw32_set_b2 m) ⟨H,[(1,t1),(6,t6),(7,t7),(9,t9),(12,(V (.int .i64 0)))]⟩ (blockX 2 (seqX (fun s=>plenumlaw32_set_r7 m n0k ⟨s.H,[(6,gt s.T 6),(7,gt s.T 7),(9,gt s.T 9)]⟩) (plenumlaw32_set_fin n0k))) := by
 refine (joinW_eq _ _ _ _ _ _ _ _ _).trans ?_
 kernel_rfl
theorem plenumlaw32_set_b1_eq (m : Nat) (H : List AObj) (t1 t6 t7 t9 t10 : AV) (kc : ASt → RO) (kx : KO (AV × List AObj)) : plenumlaw32_set_b1 m ⟨H,[(1,t1),(6,t6),(7,t7),(9,t9),(10,t10)]⟩ kc kx =
 fieldE (some (0,1)) t1 fun t44 =>
 loadE 1 H t44 fun t45 =>
 lenE false true H t45 fun t46 =>
 binE none false false .lss t10 t46 fun t47 =>
 condE t47 (
  binE none false false .lss t10 (V (.int .i64 80)) fun t50 =>
  plenumlaw32_set_r6 m H.length kc kx ⟨H,[(1,t1),(6,t6),(7,t7),(9,t9),(10,t10),(51,t50)]⟩) (
  plenumlaw32_set_r6 m H.length kc kx ⟨H,[(1,t1),(6,t6),(7,t7),(9,t9),(10,t10),(51,(V (.bool false)))]⟩) := by
 refine (bodyW_eq _ _ _ _ _ _ _ _ _ _ _ _).trans ?_
 kernel_rfl
theorem plenumlaw32_set_r4_eq (m : Nat) (n0k : Nat) (H : List AObj) (t1 t6 t7 t9 : AV) : plenumlaw32_set_r4 m n0k ⟨H,[(1,t1),(6,t6),(7,t7),(9,t9)]⟩ =
 iterC m (plenumlaw32_set_b1 m) ⟨H,[(1,t1),(6,t6),(7,t7),(9,t9),(10,(V (.int .i64 0)))]⟩ (blockX 0 (seqX (fun s=>plenumlaw32_set_r5 m n0k ⟨s.H,[(1,gt s.T 1),(6,gt s.T 6),(7,gt s.T 7),(9,gt s.T 9)]⟩) (plenumlaw32_set_fin n0k))) := by
 refine (joinW_eq _ _ _ _ _ _ _ _ _).trans ?_
 kernel_rfl
theorem plenumlaw32_set_r3_eq (m : Nat) (n0k : Nat) (H : List AObj) (t1 t6 t7 t9 t42 : AV) : plenumlaw32_set_r3 m n0k ⟨H,[(1,t1),(6,t6),(7,t7),(9,t9),(42,t42)]⟩ =
 condE t42 (
  openK H (ro H (TU [noT (V (.pointer none)),noT (V (.pointer none)),noT (V (.pointer none)),noT (V (.bool false))]))) (
  plenumlaw32_set_r4 m n0k ⟨H,[(1,t1),(6,t6),(7,t7),(9,t9)]⟩) := by
 refine (joinW_eq _ _ _ _ _ _ _ _ _).trans ?_
 kernel_rfl
theorem plenumlaw32_set_r2_eq (m : Nat) (n0k : Nat) (H : List AObj) (t1 t6 t7 t8 t9 : AV) : plenumlaw32_set_r2 m n0k ⟨H,[(1,t1),(6,t6),(7,t7),(8,t8),(9,t9)]⟩ =
 ptrE .eql t6 (V (.pointer none)) fun t34 =>
 condE t34 (
  plenumlaw32_set_r3 m n0k ⟨H,[(1,t1),(6,t6),(7,t7),(9,t9),(42,(V (.bool true)))]⟩) (
  binE none false false .neq t8 (V (.int .i64 0)) fun t37 =>
  condE t37 (
  plenumlaw32_set_r3 m n0k ⟨H,[(1,t1),(6,t6),(7,t7),(9,t9),(42,(V (.bool true)))]⟩) (
  ptrE .eql t7 (V (.pointer none)) fun t41 =>
  plenumlaw32_set_r3 m n0k ⟨H,[(1,t1),(6,t6),(7,t7),(9,t9),(42,t41)]⟩)) := by
 refine (joinW_eq _ _ _ _ _ _ _ _ _).trans ?_
 kernel_rfl
theorem plenumlaw32_set_r1_eq (m : Nat) (n0k : Nat) (H : List AObj) (t1 : AV) : plenumlaw32_set_r1 m n0k ⟨H,[(1,t1)]⟩ =
 keepE (term_New m H) fun t21 H2 =>
 fieldE (some (1,1)) t1 fun t23 =>
 loadE 1 H2 t23 fun t24 =>
 keepE (ring_New m (V (.int .i64 7)) (ro H2 t24) H2) fun t25 H3 =>
 extE t25 0 fun t26 =>
 extE t25 1 fun t27 =>
 fieldE (some (1,1)) t1 fun t28 =>
 loadE 1 H3 t28 fun t29 =>
 buildE (some pl_plenumref04_Ring) (some zc_plenumref04_Ring) [(0,(V (.int .i64 7))),(1,t29)] fun t30 =>
 buildE (some pl_plenumref32_World) (some zc_plenumref32_World) [(1,t30)] fun t31 =>
 boxE ty_plenumref32_World H3 t31 fun t32 H4 =>
 plenumlaw32_set_r2 m n0k (ghS 9 0 ty_string 1 ⟨H4,[(1,t1),(6,t21),(7,t26),(8,t27),(9,t32)]⟩) := by
 refine (joinW_eq _ _ _ _ _ _ _ _ _).trans ?_
 kernel_rfl
theorem plenumlaw32_set_eq (m : Nat) (t0 : AV) (H : List AObj) : plenumlaw32_set m t0 H =
 boxE ty_plenumlaw32_Scene H t0 fun t1 H2 =>
 fieldE (some (1,1)) t1 fun t13 =>
 loadE 1 H2 t13 fun t14 =>
 lenE false true H2 t14 fun t15 =>
 binE none false false .gtr t15 (V (.int .i64 10)) fun t16 =>
 condE t16 (
  fieldE (some (1,1)) t1 fun t17 =>
  loadE 1 H2 t17 fun t18 =>
  sliceE false (some (ty_int,1)) H2 t18 none (some (V (.int .i64 10))) fun t19 =>
  fieldE (some (1,1)) t1 fun t20 =>
  storeE 1 H2 t20 t19 fun H3 =>
  plenumlaw32_set_r1 m H.length ⟨H3,[(1,t1)]⟩) (
  plenumlaw32_set_r1 m H.length ⟨H2,[(1,t1)]⟩) := by
 refine (openX Try.prog GG (plenumlaw32_set_env m) m ⟨131,[]⟩ H.length plenumlaw32_set_c plenumlaw32_set_h ⟨H,argsT 0 [t0]⟩ [.tmp 2, .tmp 3, .tmp 4, .tmp 5]).trans ?_
 kernel_rfl
noncomputable def plenumlaw32_set_t (m : Nat) : List AV → List AObj → RO|[t0],H=>plenumlaw32_set m t0 H|_,_=>none
theorem plenumlaw32_set_ok (m : Nat) : ∀ args H X H',plenumlaw32_set_t m args H = some (X,H') → AC Try.prog GG 8 args H (Is X H') := by
 intro args H X H' h
 unfold plenumlaw32_set_t at h
 split at h
 ·exact open_ok (n := H.length) MIX (by
  intro f e h
  simp only [plenumlaw32_set_env,Prod.mk.injEq,List.mem_cons,List.not_mem_nil,or_false] at h
  rcases h with ⟨rfl,rfl⟩|⟨rfl,rfl⟩|⟨rfl,rfl⟩|⟨rfl,rfl⟩|⟨rfl,rfl⟩|⟨rfl,rfl⟩
  ·exact term_New_ok m
  ·exact ring_New_ok m
  ·exact ring_Ring_Say_ok m
  ·exact plenumref04_Ring_Say_ok m
  ·exact term_Table_Of_ok m
  ·exact plenumref02_Of_ok m) (f := 8) (c := plenumlaw32_set_c) Try.func8 rfl (by kernel_rfl) _ rfl Try.ntmps8 (Nat.le_of_ble_eq_true rfl) plenumlaw32_set_h h
 ·cases h
end Go.Proofs.Ytaaogcnjfkgnoaa

namespace Go.Proofs.Ytaaogcnjfkgnoaa
open Go.RowKit
theorem natInt (k : Nat) : ((k : Int)).toNat = k := Int.toNat_natCast k
theorem u_addS {R : Type} {X : AV} {Y H : List AObj} {K : AV → List AObj → Option R} : addE (some (X,Y)) H K = K X (H ++ Y) := _root_.id rfl
theorem u_bi1 {R : Type} {t : TypeId} {a : Int} {K1 : AV → Option R} : buildSE (some (t,1)) 1 [(0,V (.int .i64 a))] K1 = K1 (SL [nA a]) := by
 first|rfl|(simp [buildSE,whenE];rfl)|simp [buildSE,whenE]
theorem u_bi2 {R : Type} {t : TypeId} {a b : Int} {K1 : AV → Option R} : buildSE (some (t,1)) 2 [(0,V (.int .i64 a)),(1,V (.int .i64 b))] K1 = K1 (SL [nA a,nA b]) := by
 first|rfl|(simp [buildSE,whenE];rfl)|simp [buildSE,whenE]
theorem u_bi3 {R : Type} {t : TypeId} {a b c : Int} {K1 : AV → Option R} : buildSE (some (t,1)) 3 [(0,V (.int .i64 a)),(1,V (.int .i64 b)),(2,V (.int .i64 c))] K1 = K1 (SL [nA a,nA b,nA c]) := by
 first|rfl|(simp [buildSE,whenE];rfl)|simp [buildSE,whenE]
theorem u_bi4 {R : Type} {t : TypeId} {a b c d : Int} {K1 : AV → Option R} : buildSE (some (t,1)) 4 [(0,V (.int .i64 a)),(1,V (.int .i64 b)),(2,V (.int .i64 c)),(3,V (.int .i64 d))] K1 = K1 (SL [nA a,nA b,nA c,nA d]) := by
 first|rfl|(simp [buildSE,whenE];rfl)|simp [buildSE,whenE]
theorem u_bi5 {R : Type} {t : TypeId} {a b c d e : Int} {K1 : AV → Option R} : buildSE (some (t,1)) 5 [(0,V (.int .i64 a)),(1,V (.int .i64 b)),(2,V (.int .i64 c)),(3,V (.int .i64 d)),(4,V (.int .i64 e))] K1 = K1 (SL [nA a,nA b,nA c,nA d,nA e]) := by
 first|rfl|(simp [buildSE,whenE];rfl)|simp [buildSE,whenE]
theorem u_bi6 {R : Type} {t : TypeId} {a b c d e f : Int} {K1 : AV → Option R} : buildSE (some (t,1)) 6 [(0,V (.int .i64 a)),(1,V (.int .i64 b)),(2,V (.int .i64 c)),(3,V (.int .i64 d)),(4,V (.int .i64 e)),(5,V (.int .i64 f))] K1 = K1 (SL [nA a,nA b,nA c,nA d,nA e,nA f]) := by
 first|rfl|(simp [buildSE,whenE];rfl)|simp [buildSE,whenE]
theorem u_bi7 {R : Type} {t : TypeId} {a b c d e f g : Int} {K1 : AV → Option R} : buildSE (some (t,1)) 7 [(0,V (.int .i64 a)),(1,V (.int .i64 b)),(2,V (.int .i64 c)),(3,V (.int .i64 d)),(4,V (.int .i64 e)),(5,V (.int .i64 f)),(6,V (.int .i64 g))] K1 = K1 (SL [nA a,nA b,nA c,nA d,nA e,nA f,nA g]) := by
 first|rfl|(simp [buildSE,whenE];rfl)|simp [buildSE,whenE]
theorem u_bz {R : Type} {t : TypeId} {z : Nat} {K1 : AV → Option R} : buildSE (some (t,z)) 0 [] K1 = K1 ZV := by
 first|rfl|(simp [buildSE,whenE];rfl)|simp [buildSE,whenE]
structure Sm where
 fr : Int
 kd : Int
 vw : Int
 sq : Int
 tm : Int
deriving DecidableEq
def Sm.zero : Sm := ⟨0,0,0,0,0⟩
def smC (x : Sm) : List AV := [nA x.fr,nA x.kd,nA x.vw,nA x.sq,nA x.tm]
def smE (x : Sm) : AV := .agg (smC x)
structure Ce where
 sq : Int
 vw : Int
 tm : Int
 body : List UInt8
 vs : List Sm
deriving DecidableEq
def Ce.zero : Ce := ⟨0,0,0,[],[]⟩
def ceC (x : Ce) : List AV := [nA x.sq,nA x.vw,nA x.tm,sA x.body,SL (x.vs.map smE)]
def ceE (x : Ce) : AV := .agg (ceC x)
structure Ch where
 fr : Int
 vw : Int
 st : Int
 rt : Int
 pf : List Sm
 cs : List Ce
deriving DecidableEq
def Ch.zero : Ch := ⟨0,0,0,0,[],[]⟩
def cgC (x : Ch) : List AV := [nA x.fr,nA x.vw,nA x.st,nA x.rt,SL (x.pf.map smE),SL (x.cs.map ceE)]
def cgE (x : Ch) : AV := .agg (cgC x)
structure Ms where
 kd : Int
 fr : Int
 vw : Int
 sq : Int
 tm : Int
 body : List UInt8
 vs : List Sm
 chs : List Ch
deriving DecidableEq
def Ms.zero : Ms := ⟨0,0,0,0,0,[],[],[]⟩
def msC (x : Ms) : List AV := [nA x.kd,nA x.fr,nA x.vw,nA x.sq,nA x.tm,sA x.body,SL (x.vs.map smE),SL (x.chs.map cgE)]
def msE (x : Ms) : AV := .agg (msC x)
structure Co where
 sq : Int
 tm : Int
 body : List UInt8
 nl : Bool
deriving DecidableEq
def Co.zero : Co := ⟨0,0,[],false⟩
def coC (x : Co) : List AV := [nA x.sq,nA x.tm,sA x.body,bA x.nl]
def coE (x : Co) : AV := .agg (coC x)
structure Sd where
 wh : Int
 fr : Int
 kd : Int
 vw : Int
 sq : Int
 tm : Int
deriving DecidableEq
def Sd.zero : Sd := ⟨0,0,0,0,0,0⟩
def sdC (x : Sd) : List AV := [nA x.wh,nA x.fr,nA x.kd,nA x.vw,nA x.sq,nA x.tm]
def sdE (x : Sd) : AV := .agg (sdC x)
section
variable {R : Type} {n : Nat} {H : List AObj} {K1 : AV → Option R}
theorem sm_it (x : Sm) : smE x = .agg (smC x) := _root_.id rfl
theorem sm_len {x : Sm} : (smC x).length = 5 := _root_.id rfl
theorem sm_sure {x : Sm} : (smC x).all sure = true := _root_.id rfl
theorem sm_ltA {x : Sm} : (smC x).all (ltA n) = true := _root_.id rfl
theorem sm_lt1 {x : Sm} : (smC x).all (lt1 n) = true := _root_.id rfl
theorem sm_all1 {x : Sm} : ((smC x).all fun y=>lt1 n (ro1 H y)) = true := _root_.id rfl
theorem sm_ro {x : Sm} : (smC x).map (ro1 H) = smC x := _root_.id rfl
theorem sm_take {x : Sm} : (smC x).take 5 = smC x := _root_.id rfl
theorem sm_sl {x : Sm} : ((smC x).all fun y=>sure y && lt1 n y) = true := _root_.id rfl
theorem sm_set {x y : Sm} : setCells (smC y) 0 (smC x) = smC x := _root_.id rfl
theorem sm_noT {x : Sm} : noT (.agg (smC x)) = .agg (smC x) := _root_.id rfl
theorem sm_fr {x : Sm} : nthE (smC x) 0 K1 = K1 (nA x.fr) := _root_.id rfl
theorem sm_st_fr {x : Sm} {q : Int} : (smC x).set 0 (nA q) = smC { x with fr := q } := _root_.id rfl
theorem sm_set_fr {x : Sm} {q : Int} : setCells (smC x) 0 [nA q] = smC { x with fr := q } := _root_.id rfl
theorem sm_kd {x : Sm} : nthE (smC x) 1 K1 = K1 (nA x.kd) := _root_.id rfl
theorem sm_st_kd {x : Sm} {q : Int} : (smC x).set 1 (nA q) = smC { x with kd := q } := _root_.id rfl
theorem sm_set_kd {x : Sm} {q : Int} : setCells (smC x) 1 [nA q] = smC { x with kd := q } := _root_.id rfl
theorem sm_vw {x : Sm} : nthE (smC x) 2 K1 = K1 (nA x.vw) := _root_.id rfl
theorem sm_st_vw {x : Sm} {q : Int} : (smC x).set 2 (nA q) = smC { x with vw := q } := _root_.id rfl
theorem sm_set_vw {x : Sm} {q : Int} : setCells (smC x) 2 [nA q] = smC { x with vw := q } := _root_.id rfl
theorem sm_sq {x : Sm} : nthE (smC x) 3 K1 = K1 (nA x.sq) := _root_.id rfl
theorem sm_st_sq {x : Sm} {q : Int} : (smC x).set 3 (nA q) = smC { x with sq := q } := _root_.id rfl
theorem sm_set_sq {x : Sm} {q : Int} : setCells (smC x) 3 [nA q] = smC { x with sq := q } := _root_.id rfl
theorem sm_tm {x : Sm} : nthE (smC x) 4 K1 = K1 (nA x.tm) := _root_.id rfl
theorem sm_st_tm {x : Sm} {q : Int} : (smC x).set 4 (nA q) = smC { x with tm := q } := _root_.id rfl
theorem sm_set_tm {x : Sm} {q : Int} : setCells (smC x) 4 [nA q] = smC { x with tm := q } := _root_.id rfl
theorem zsm_len : zc_api_Stmt.length = 5 := _root_.id rfl
theorem zsm_sure : zc_api_Stmt.all sure = true := _root_.id rfl
theorem zsm_lt1 : zc_api_Stmt.all (lt1 n) = true := _root_.id rfl
theorem zsm_sl : (zc_api_Stmt.all fun y=>sure y && lt1 n y) = true := _root_.id rfl
theorem zsm_ro : zc_api_Stmt.map (ro1 H) = smC Sm.zero := _root_.id rfl
theorem zsm_setz : setCells zc_api_Stmt 0 zc_api_Stmt = zc_api_Stmt := _root_.id rfl
theorem zsm_set {x : Sm} : setCells zc_api_Stmt 0 (smC x) = smC x := _root_.id rfl
theorem zsm_setr {x : Sm} : setCells (smC x) 0 zc_api_Stmt = zc_api_Stmt := _root_.id rfl
theorem zsm_take : zc_api_Stmt.take 5 = zc_api_Stmt := _root_.id rfl
theorem sms_ltA {l : List Sm} : (l.all fun x=>ltA n (smE x)) = true := List.all_eq_true.2 fun _ _=>rfl
theorem sms_len {l : List Sm} : (l.all fun x=>decide ((cellsOf (smE x)).length = 5)) = true := List.all_eq_true.2 fun _ _=>rfl
theorem ce_it (x : Ce) : ceE x = .agg (ceC x) := _root_.id rfl
theorem ce_len {x : Ce} : (ceC x).length = 5 := _root_.id rfl
theorem ce_sure {x : Ce} : (ceC x).all sure = true := _root_.id rfl
theorem ce_ltA {x : Ce} : (ceC x).all (ltA n) = true := _root_.id rfl
theorem ce_lt1 {x : Ce} : (ceC x).all (lt1 n) = true := _root_.id rfl
theorem ce_all1 {x : Ce} : ((ceC x).all fun y=>lt1 n (ro1 H y)) = true := _root_.id rfl
theorem ce_ro {x : Ce} : (ceC x).map (ro1 H) = ceC x := _root_.id rfl
theorem ce_take {x : Ce} : (ceC x).take 5 = ceC x := _root_.id rfl
theorem ce_sl {x : Ce} : ((ceC x).all fun y=>sure y && lt1 n y) = true := _root_.id rfl
theorem ce_set {x y : Ce} : setCells (ceC y) 0 (ceC x) = ceC x := _root_.id rfl
theorem ce_noT {x : Ce} : noT (.agg (ceC x)) = .agg (ceC x) := _root_.id rfl
theorem ce_sq {x : Ce} : nthE (ceC x) 0 K1 = K1 (nA x.sq) := _root_.id rfl
theorem ce_st_sq {x : Ce} {q : Int} : (ceC x).set 0 (nA q) = ceC { x with sq := q } := _root_.id rfl
theorem ce_set_sq {x : Ce} {q : Int} : setCells (ceC x) 0 [nA q] = ceC { x with sq := q } := _root_.id rfl
theorem ce_vw {x : Ce} : nthE (ceC x) 1 K1 = K1 (nA x.vw) := _root_.id rfl
theorem ce_st_vw {x : Ce} {q : Int} : (ceC x).set 1 (nA q) = ceC { x with vw := q } := _root_.id rfl
theorem ce_set_vw {x : Ce} {q : Int} : setCells (ceC x) 1 [nA q] = ceC { x with vw := q } := _root_.id rfl
theorem ce_tm {x : Ce} : nthE (ceC x) 2 K1 = K1 (nA x.tm) := _root_.id rfl
theorem ce_st_tm {x : Ce} {q : Int} : (ceC x).set 2 (nA q) = ceC { x with tm := q } := _root_.id rfl
theorem ce_set_tm {x : Ce} {q : Int} : setCells (ceC x) 2 [nA q] = ceC { x with tm := q } := _root_.id rfl
theorem ce_body {x : Ce} : nthE (ceC x) 3 K1 = K1 (sA x.body) := _root_.id rfl
theorem ce_st_body {x : Ce} {q : List UInt8} : (ceC x).set 3 (sA q) = ceC { x with body := q } := _root_.id rfl
theorem ce_set_body {x : Ce} {q : List UInt8} : setCells (ceC x) 3 [sA q] = ceC { x with body := q } := _root_.id rfl
theorem ce_vs {x : Ce} : nthE (ceC x) 4 K1 = K1 (SL (x.vs.map smE)) := _root_.id rfl
theorem ce_st_vs {x : Ce} {q : List Sm} : (ceC x).set 4 (SL (q.map smE)) = ceC { x with vs := q } := _root_.id rfl
theorem ce_set_vs {x : Ce} {q : List Sm} : setCells (ceC x) 4 [SL (q.map smE)] = ceC { x with vs := q } := _root_.id rfl
theorem zce_len : zc_api_Cert.length = 5 := _root_.id rfl
theorem zce_sure : zc_api_Cert.all sure = true := _root_.id rfl
theorem zce_lt1 : zc_api_Cert.all (lt1 n) = true := _root_.id rfl
theorem zce_sl : (zc_api_Cert.all fun y=>sure y && lt1 n y) = true := _root_.id rfl
theorem zce_ro : zc_api_Cert.map (ro1 H) = ceC Ce.zero := _root_.id rfl
theorem zce_setz : setCells zc_api_Cert 0 zc_api_Cert = zc_api_Cert := _root_.id rfl
theorem zce_set {x : Ce} : setCells zc_api_Cert 0 (ceC x) = ceC x := _root_.id rfl
theorem zce_setr {x : Ce} : setCells (ceC x) 0 zc_api_Cert = zc_api_Cert := _root_.id rfl
theorem zce_take : zc_api_Cert.take 5 = zc_api_Cert := _root_.id rfl
theorem ces_ltA {l : List Ce} : (l.all fun x=>ltA n (ceE x)) = true := List.all_eq_true.2 fun _ _=>rfl
theorem ces_len {l : List Ce} : (l.all fun x=>decide ((cellsOf (ceE x)).length = 5)) = true := List.all_eq_true.2 fun _ _=>rfl
theorem cg_it (x : Ch) : cgE x = .agg (cgC x) := _root_.id rfl
theorem cg_len {x : Ch} : (cgC x).length = 6 := _root_.id rfl
theorem cg_sure {x : Ch} : (cgC x).all sure = true := _root_.id rfl
theorem cg_ltA {x : Ch} : (cgC x).all (ltA n) = true := _root_.id rfl
theorem cg_lt1 {x : Ch} : (cgC x).all (lt1 n) = true := _root_.id rfl
theorem cg_all1 {x : Ch} : ((cgC x).all fun y=>lt1 n (ro1 H y)) = true := _root_.id rfl
theorem cg_ro {x : Ch} : (cgC x).map (ro1 H) = cgC x := _root_.id rfl
theorem cg_take {x : Ch} : (cgC x).take 6 = cgC x := _root_.id rfl
theorem cg_sl {x : Ch} : ((cgC x).all fun y=>sure y && lt1 n y) = true := _root_.id rfl
theorem cg_set {x y : Ch} : setCells (cgC y) 0 (cgC x) = cgC x := _root_.id rfl
theorem cg_noT {x : Ch} : noT (.agg (cgC x)) = .agg (cgC x) := _root_.id rfl
theorem cg_fr {x : Ch} : nthE (cgC x) 0 K1 = K1 (nA x.fr) := _root_.id rfl
theorem cg_st_fr {x : Ch} {q : Int} : (cgC x).set 0 (nA q) = cgC { x with fr := q } := _root_.id rfl
theorem cg_set_fr {x : Ch} {q : Int} : setCells (cgC x) 0 [nA q] = cgC { x with fr := q } := _root_.id rfl
theorem cg_vw {x : Ch} : nthE (cgC x) 1 K1 = K1 (nA x.vw) := _root_.id rfl
theorem cg_st_vw {x : Ch} {q : Int} : (cgC x).set 1 (nA q) = cgC { x with vw := q } := _root_.id rfl
theorem cg_set_vw {x : Ch} {q : Int} : setCells (cgC x) 1 [nA q] = cgC { x with vw := q } := _root_.id rfl
theorem cg_st {x : Ch} : nthE (cgC x) 2 K1 = K1 (nA x.st) := _root_.id rfl
theorem cg_st_st {x : Ch} {q : Int} : (cgC x).set 2 (nA q) = cgC { x with st := q } := _root_.id rfl
theorem cg_set_st {x : Ch} {q : Int} : setCells (cgC x) 2 [nA q] = cgC { x with st := q } := _root_.id rfl
theorem cg_rt {x : Ch} : nthE (cgC x) 3 K1 = K1 (nA x.rt) := _root_.id rfl
theorem cg_st_rt {x : Ch} {q : Int} : (cgC x).set 3 (nA q) = cgC { x with rt := q } := _root_.id rfl
theorem cg_set_rt {x : Ch} {q : Int} : setCells (cgC x) 3 [nA q] = cgC { x with rt := q } := _root_.id rfl
theorem cg_pf {x : Ch} : nthE (cgC x) 4 K1 = K1 (SL (x.pf.map smE)) := _root_.id rfl
theorem cg_st_pf {x : Ch} {q : List Sm} : (cgC x).set 4 (SL (q.map smE)) = cgC { x with pf := q } := _root_.id rfl
theorem cg_set_pf {x : Ch} {q : List Sm} : setCells (cgC x) 4 [SL (q.map smE)] = cgC { x with pf := q } := _root_.id rfl
theorem cg_cs {x : Ch} : nthE (cgC x) 5 K1 = K1 (SL (x.cs.map ceE)) := _root_.id rfl
theorem cg_st_cs {x : Ch} {q : List Ce} : (cgC x).set 5 (SL (q.map ceE)) = cgC { x with cs := q } := _root_.id rfl
theorem cg_set_cs {x : Ch} {q : List Ce} : setCells (cgC x) 5 [SL (q.map ceE)] = cgC { x with cs := q } := _root_.id rfl
theorem zcg_len : zc_api_Change.length = 6 := _root_.id rfl
theorem zcg_sure : zc_api_Change.all sure = true := _root_.id rfl
theorem zcg_lt1 : zc_api_Change.all (lt1 n) = true := _root_.id rfl
theorem zcg_sl : (zc_api_Change.all fun y=>sure y && lt1 n y) = true := _root_.id rfl
theorem zcg_ro : zc_api_Change.map (ro1 H) = cgC Ch.zero := _root_.id rfl
theorem zcg_setz : setCells zc_api_Change 0 zc_api_Change = zc_api_Change := _root_.id rfl
theorem zcg_set {x : Ch} : setCells zc_api_Change 0 (cgC x) = cgC x := _root_.id rfl
theorem zcg_setr {x : Ch} : setCells (cgC x) 0 zc_api_Change = zc_api_Change := _root_.id rfl
theorem zcg_take : zc_api_Change.take 6 = zc_api_Change := _root_.id rfl
theorem cgs_ltA {l : List Ch} : (l.all fun x=>ltA n (cgE x)) = true := List.all_eq_true.2 fun _ _=>rfl
theorem cgs_len {l : List Ch} : (l.all fun x=>decide ((cellsOf (cgE x)).length = 6)) = true := List.all_eq_true.2 fun _ _=>rfl
theorem ms_it (x : Ms) : msE x = .agg (msC x) := _root_.id rfl
theorem ms_len {x : Ms} : (msC x).length = 8 := _root_.id rfl
theorem ms_sure {x : Ms} : (msC x).all sure = true := _root_.id rfl
theorem ms_ltA {x : Ms} : (msC x).all (ltA n) = true := _root_.id rfl
theorem ms_lt1 {x : Ms} : (msC x).all (lt1 n) = true := _root_.id rfl
theorem ms_all1 {x : Ms} : ((msC x).all fun y=>lt1 n (ro1 H y)) = true := _root_.id rfl
theorem ms_ro {x : Ms} : (msC x).map (ro1 H) = msC x := _root_.id rfl
theorem ms_take {x : Ms} : (msC x).take 8 = msC x := _root_.id rfl
theorem ms_sl {x : Ms} : ((msC x).all fun y=>sure y && lt1 n y) = true := _root_.id rfl
theorem ms_set {x y : Ms} : setCells (msC y) 0 (msC x) = msC x := _root_.id rfl
theorem ms_noT {x : Ms} : noT (.agg (msC x)) = .agg (msC x) := _root_.id rfl
theorem ms_kd {x : Ms} : nthE (msC x) 0 K1 = K1 (nA x.kd) := _root_.id rfl
theorem ms_st_kd {x : Ms} {q : Int} : (msC x).set 0 (nA q) = msC { x with kd := q } := _root_.id rfl
theorem ms_set_kd {x : Ms} {q : Int} : setCells (msC x) 0 [nA q] = msC { x with kd := q } := _root_.id rfl
theorem ms_fr {x : Ms} : nthE (msC x) 1 K1 = K1 (nA x.fr) := _root_.id rfl
theorem ms_st_fr {x : Ms} {q : Int} : (msC x).set 1 (nA q) = msC { x with fr := q } := _root_.id rfl
theorem ms_set_fr {x : Ms} {q : Int} : setCells (msC x) 1 [nA q] = msC { x with fr := q } := _root_.id rfl
theorem ms_vw {x : Ms} : nthE (msC x) 2 K1 = K1 (nA x.vw) := _root_.id rfl
theorem ms_st_vw {x : Ms} {q : Int} : (msC x).set 2 (nA q) = msC { x with vw := q } := _root_.id rfl
theorem ms_set_vw {x : Ms} {q : Int} : setCells (msC x) 2 [nA q] = msC { x with vw := q } := _root_.id rfl
theorem ms_sq {x : Ms} : nthE (msC x) 3 K1 = K1 (nA x.sq) := _root_.id rfl
theorem ms_st_sq {x : Ms} {q : Int} : (msC x).set 3 (nA q) = msC { x with sq := q } := _root_.id rfl
theorem ms_set_sq {x : Ms} {q : Int} : setCells (msC x) 3 [nA q] = msC { x with sq := q } := _root_.id rfl
theorem ms_tm {x : Ms} : nthE (msC x) 4 K1 = K1 (nA x.tm) := _root_.id rfl
theorem ms_st_tm {x : Ms} {q : Int} : (msC x).set 4 (nA q) = msC { x with tm := q } := _root_.id rfl
theorem ms_set_tm {x : Ms} {q : Int} : setCells (msC x) 4 [nA q] = msC { x with tm := q } := _root_.id rfl
theorem ms_body {x : Ms} : nthE (msC x) 5 K1 = K1 (sA x.body) := _root_.id rfl
theorem ms_st_body {x : Ms} {q : List UInt8} : (msC x).set 5 (sA q) = msC { x with body := q } := _root_.id rfl
theorem ms_set_body {x : Ms} {q : List UInt8} : setCells (msC x) 5 [sA q] = msC { x with body := q } := _root_.id rfl
theorem ms_vs {x : Ms} : nthE (msC x) 6 K1 = K1 (SL (x.vs.map smE)) := _root_.id rfl
theorem ms_st_vs {x : Ms} {q : List Sm} : (msC x).set 6 (SL (q.map smE)) = msC { x with vs := q } := _root_.id rfl
theorem ms_set_vs {x : Ms} {q : List Sm} : setCells (msC x) 6 [SL (q.map smE)] = msC { x with vs := q } := _root_.id rfl
theorem ms_chs {x : Ms} : nthE (msC x) 7 K1 = K1 (SL (x.chs.map cgE)) := _root_.id rfl
theorem ms_st_chs {x : Ms} {q : List Ch} : (msC x).set 7 (SL (q.map cgE)) = msC { x with chs := q } := _root_.id rfl
theorem ms_set_chs {x : Ms} {q : List Ch} : setCells (msC x) 7 [SL (q.map cgE)] = msC { x with chs := q } := _root_.id rfl
theorem zms_len : zc_api_Msg.length = 8 := _root_.id rfl
theorem zms_sure : zc_api_Msg.all sure = true := _root_.id rfl
theorem zms_lt1 : zc_api_Msg.all (lt1 n) = true := _root_.id rfl
theorem zms_sl : (zc_api_Msg.all fun y=>sure y && lt1 n y) = true := _root_.id rfl
theorem zms_ro : zc_api_Msg.map (ro1 H) = msC Ms.zero := _root_.id rfl
theorem zms_setz : setCells zc_api_Msg 0 zc_api_Msg = zc_api_Msg := _root_.id rfl
theorem zms_set {x : Ms} : setCells zc_api_Msg 0 (msC x) = msC x := _root_.id rfl
theorem zms_setr {x : Ms} : setCells (msC x) 0 zc_api_Msg = zc_api_Msg := _root_.id rfl
theorem zms_take : zc_api_Msg.take 8 = zc_api_Msg := _root_.id rfl
theorem mss_ltA {l : List Ms} : (l.all fun x=>ltA n (msE x)) = true := List.all_eq_true.2 fun _ _=>rfl
theorem mss_len {l : List Ms} : (l.all fun x=>decide ((cellsOf (msE x)).length = 8)) = true := List.all_eq_true.2 fun _ _=>rfl
theorem co_it (x : Co) : coE x = .agg (coC x) := _root_.id rfl
theorem co_len {x : Co} : (coC x).length = 4 := _root_.id rfl
theorem co_sure {x : Co} : (coC x).all sure = true := _root_.id rfl
theorem co_ltA {x : Co} : (coC x).all (ltA n) = true := _root_.id rfl
theorem co_lt1 {x : Co} : (coC x).all (lt1 n) = true := _root_.id rfl
theorem co_all1 {x : Co} : ((coC x).all fun y=>lt1 n (ro1 H y)) = true := _root_.id rfl
theorem co_ro {x : Co} : (coC x).map (ro1 H) = coC x := _root_.id rfl
theorem co_take {x : Co} : (coC x).take 4 = coC x := _root_.id rfl
theorem co_sl {x : Co} : ((coC x).all fun y=>sure y && lt1 n y) = true := _root_.id rfl
theorem co_set {x y : Co} : setCells (coC y) 0 (coC x) = coC x := _root_.id rfl
theorem co_noT {x : Co} : noT (.agg (coC x)) = .agg (coC x) := _root_.id rfl
theorem co_sq {x : Co} : nthE (coC x) 0 K1 = K1 (nA x.sq) := _root_.id rfl
theorem co_st_sq {x : Co} {q : Int} : (coC x).set 0 (nA q) = coC { x with sq := q } := _root_.id rfl
theorem co_set_sq {x : Co} {q : Int} : setCells (coC x) 0 [nA q] = coC { x with sq := q } := _root_.id rfl
theorem co_tm {x : Co} : nthE (coC x) 1 K1 = K1 (nA x.tm) := _root_.id rfl
theorem co_st_tm {x : Co} {q : Int} : (coC x).set 1 (nA q) = coC { x with tm := q } := _root_.id rfl
theorem co_set_tm {x : Co} {q : Int} : setCells (coC x) 1 [nA q] = coC { x with tm := q } := _root_.id rfl
theorem co_body {x : Co} : nthE (coC x) 2 K1 = K1 (sA x.body) := _root_.id rfl
theorem co_st_body {x : Co} {q : List UInt8} : (coC x).set 2 (sA q) = coC { x with body := q } := _root_.id rfl
theorem co_set_body {x : Co} {q : List UInt8} : setCells (coC x) 2 [sA q] = coC { x with body := q } := _root_.id rfl
theorem co_nl {x : Co} : nthE (coC x) 3 K1 = K1 (bA x.nl) := _root_.id rfl
theorem co_st_nl {x : Co} {q : Bool} : (coC x).set 3 (bA q) = coC { x with nl := q } := _root_.id rfl
theorem co_set_nl {x : Co} {q : Bool} : setCells (coC x) 3 [bA q] = coC { x with nl := q } := _root_.id rfl
theorem zco_len : zc_api_Choice.length = 4 := _root_.id rfl
theorem zco_sure : zc_api_Choice.all sure = true := _root_.id rfl
theorem zco_lt1 : zc_api_Choice.all (lt1 n) = true := _root_.id rfl
theorem zco_sl : (zc_api_Choice.all fun y=>sure y && lt1 n y) = true := _root_.id rfl
theorem zco_ro : zc_api_Choice.map (ro1 H) = coC Co.zero := _root_.id rfl
theorem zco_setz : setCells zc_api_Choice 0 zc_api_Choice = zc_api_Choice := _root_.id rfl
theorem zco_set {x : Co} : setCells zc_api_Choice 0 (coC x) = coC x := _root_.id rfl
theorem zco_setr {x : Co} : setCells (coC x) 0 zc_api_Choice = zc_api_Choice := _root_.id rfl
theorem zco_take : zc_api_Choice.take 4 = zc_api_Choice := _root_.id rfl
theorem cos_ltA {l : List Co} : (l.all fun x=>ltA n (coE x)) = true := List.all_eq_true.2 fun _ _=>rfl
theorem cos_len {l : List Co} : (l.all fun x=>decide ((cellsOf (coE x)).length = 4)) = true := List.all_eq_true.2 fun _ _=>rfl
theorem sd_it (x : Sd) : sdE x = .agg (sdC x) := _root_.id rfl
theorem sd_len {x : Sd} : (sdC x).length = 6 := _root_.id rfl
theorem sd_sure {x : Sd} : (sdC x).all sure = true := _root_.id rfl
theorem sd_ltA {x : Sd} : (sdC x).all (ltA n) = true := _root_.id rfl
theorem sd_lt1 {x : Sd} : (sdC x).all (lt1 n) = true := _root_.id rfl
theorem sd_all1 {x : Sd} : ((sdC x).all fun y=>lt1 n (ro1 H y)) = true := _root_.id rfl
theorem sd_ro {x : Sd} : (sdC x).map (ro1 H) = sdC x := _root_.id rfl
theorem sd_take {x : Sd} : (sdC x).take 6 = sdC x := _root_.id rfl
theorem sd_sl {x : Sd} : ((sdC x).all fun y=>sure y && lt1 n y) = true := _root_.id rfl
theorem sd_set {x y : Sd} : setCells (sdC y) 0 (sdC x) = sdC x := _root_.id rfl
theorem sd_noT {x : Sd} : noT (.agg (sdC x)) = .agg (sdC x) := _root_.id rfl
theorem sd_wh {x : Sd} : nthE (sdC x) 0 K1 = K1 (nA x.wh) := _root_.id rfl
theorem sd_st_wh {x : Sd} {q : Int} : (sdC x).set 0 (nA q) = sdC { x with wh := q } := _root_.id rfl
theorem sd_set_wh {x : Sd} {q : Int} : setCells (sdC x) 0 [nA q] = sdC { x with wh := q } := _root_.id rfl
theorem sd_fr {x : Sd} : nthE (sdC x) 1 K1 = K1 (nA x.fr) := _root_.id rfl
theorem sd_st_fr {x : Sd} {q : Int} : (sdC x).set 1 (nA q) = sdC { x with fr := q } := _root_.id rfl
theorem sd_set_fr {x : Sd} {q : Int} : setCells (sdC x) 1 [nA q] = sdC { x with fr := q } := _root_.id rfl
theorem sd_kd {x : Sd} : nthE (sdC x) 2 K1 = K1 (nA x.kd) := _root_.id rfl
theorem sd_st_kd {x : Sd} {q : Int} : (sdC x).set 2 (nA q) = sdC { x with kd := q } := _root_.id rfl
theorem sd_set_kd {x : Sd} {q : Int} : setCells (sdC x) 2 [nA q] = sdC { x with kd := q } := _root_.id rfl
theorem sd_vw {x : Sd} : nthE (sdC x) 3 K1 = K1 (nA x.vw) := _root_.id rfl
theorem sd_st_vw {x : Sd} {q : Int} : (sdC x).set 3 (nA q) = sdC { x with vw := q } := _root_.id rfl
theorem sd_set_vw {x : Sd} {q : Int} : setCells (sdC x) 3 [nA q] = sdC { x with vw := q } := _root_.id rfl
theorem sd_sq {x : Sd} : nthE (sdC x) 4 K1 = K1 (nA x.sq) := _root_.id rfl
theorem sd_st_sq {x : Sd} {q : Int} : (sdC x).set 4 (nA q) = sdC { x with sq := q } := _root_.id rfl
theorem sd_set_sq {x : Sd} {q : Int} : setCells (sdC x) 4 [nA q] = sdC { x with sq := q } := _root_.id rfl
theorem sd_tm {x : Sd} : nthE (sdC x) 5 K1 = K1 (nA x.tm) := _root_.id rfl
theorem sd_st_tm {x : Sd} {q : Int} : (sdC x).set 5 (nA q) = sdC { x with tm := q } := _root_.id rfl
theorem sd_set_tm {x : Sd} {q : Int} : setCells (sdC x) 5 [nA q] = sdC { x with tm := q } := _root_.id rfl
theorem sds_ltA {l : List Sd} : (l.all fun x=>ltA n (sdE x)) = true := List.all_eq_true.2 fun _ _=>rfl
theorem sds_len {l : List Sd} : (l.all fun x=>decide ((cellsOf (sdE x)).length = 6)) = true := List.all_eq_true.2 fun _ _=>rfl
end
end Go.Proofs.Ytaaogcnjfkgnoaa

namespace Go.Proofs.Ytaaogcnjfkgnoaa
open Go.RowKit
attribute [local go_sem] Nat.zero_add Nat.add_zero Nat.mul_one Int.toNat_natCast Int.natCast_zero Int.cast_ofNat_Int or_false false_or or_true true_or Nat.sub_zero Int.natCast_nonneg Int.toNat_zero Bool.true_and Bool.and_true Bool.false_and Bool.and_false Bool.true_or Bool.or_true Bool.false_or Bool.or_false Bool.not_true Bool.not_false Bool.not_not true_and and_true false_and and_false not_true_eq_false not_false_eq_true eq_self decide_true decide_false ne_eq implies_true forall_const true_implies false_implies Bool.true_eq_false Bool.false_eq_true List.map_cons List.map_nil List.all_cons List.all_nil List.length_cons List.length_nil List.length_map List.length_append List.nil_append List.cons_append List.set_cons_zero List.set_cons_succ List.set_nil List.drop_zero List.drop_succ_cons List.drop_nil List.take_zero List.take_succ_cons List.take_nil Option.map_some Option.map_none Option.isSome_some List.all_append List.all_map Function.comp_def decide_eq_true_eq Bool.and_eq_true beq_self_eq_true or_self and_self ite_true ite_false Nat.le_refl Bool.not_eq_true decide_not Bool.not_eq_true' decide_eq_false_iff_not Bool.not_eq_false Bool.or_eq_true if_true if_false ite_self u_roF u_cvF u_cvC u_ceT u_ceK u_appS sm_it sm_len sm_sure sm_ltA sm_lt1 sm_all1 sm_ro sm_take sm_sl sm_set sm_noT sm_fr sm_st_fr sm_set_fr sm_kd sm_st_kd sm_set_kd sm_vw sm_st_vw sm_set_vw sm_sq sm_st_sq sm_set_sq sm_tm sm_st_tm sm_set_tm zsm_len zsm_sure zsm_lt1 zsm_sl zsm_ro zsm_setz zsm_set zsm_setr zsm_take sms_ltA sms_len ce_it ce_len ce_sure ce_ltA ce_lt1 ce_all1 ce_ro ce_take ce_sl ce_set ce_noT ce_sq ce_st_sq ce_set_sq ce_vw ce_st_vw ce_set_vw ce_tm ce_st_tm ce_set_tm ce_body ce_st_body ce_set_body ce_vs ce_st_vs ce_set_vs zce_len zce_sure zce_lt1 zce_sl zce_ro zce_setz zce_set zce_setr zce_take ces_ltA ces_len cg_it cg_len cg_sure cg_ltA cg_lt1 cg_all1 cg_ro cg_take cg_sl cg_set cg_noT cg_fr cg_st_fr cg_set_fr cg_vw cg_st_vw cg_set_vw cg_st cg_st_st cg_set_st cg_rt cg_st_rt cg_set_rt cg_pf cg_st_pf cg_set_pf cg_cs cg_st_cs cg_set_cs zcg_len zcg_sure zcg_lt1 zcg_sl zcg_ro zcg_setz zcg_set zcg_setr zcg_take cgs_ltA cgs_len ms_it ms_len ms_sure ms_ltA ms_lt1 ms_all1 ms_ro ms_take ms_sl ms_set ms_noT ms_kd ms_st_kd ms_set_kd ms_fr ms_st_fr ms_set_fr ms_vw ms_st_vw ms_set_vw ms_sq ms_st_sq ms_set_sq ms_tm ms_st_tm ms_set_tm ms_body ms_st_body ms_set_body ms_vs ms_st_vs ms_set_vs ms_chs ms_st_chs ms_set_chs zms_len zms_sure zms_lt1 zms_sl zms_ro zms_setz zms_set zms_setr zms_take mss_ltA mss_len co_it co_len co_sure co_ltA co_lt1 co_all1 co_ro co_take co_sl co_set co_noT co_sq co_st_sq co_set_sq co_tm co_st_tm co_set_tm co_body co_st_body co_set_body co_nl co_st_nl co_set_nl zco_len zco_sure zco_lt1 zco_sl zco_ro zco_setz zco_set zco_setr zco_take cos_ltA cos_len sd_it sd_len sd_sure sd_ltA sd_lt1 sd_all1 sd_ro sd_take sd_sl sd_set sd_noT sd_wh sd_st_wh sd_set_wh sd_fr sd_st_fr sd_set_fr sd_kd sd_st_kd sd_set_kd sd_vw sd_st_vw sd_set_vw sd_sq sd_st_sq sd_set_sq sd_tm sd_st_tm sd_set_tm sds_ltA sds_len natInt u_nthM u_bz u_bi1 u_bi2 u_bi3 u_bi4 u_bi5 u_bi6 u_bi7
attribute [local go_sem_proc] Nat.reduceAdd Nat.reduceSub Nat.reduceMul Nat.reduceLeDiff Nat.reduceLT Int.reduceEq Int.reduceNe Int.reduceLT Int.reduceLE Int.reduceAdd Int.reduceSub Int.reduceMul Int.reduceNeg Int.reduceToNat reduceCtorEq Nat.reduceEqDiff Nat.reduceBEq Nat.reduceGT
attribute [local go_sem_proc ↓] reduceIte
def numB (v : Int) : Bool := decide (0 ≤ v) && decide (v ≤ 2147483647)
def parB (v : Int) : Bool := decide (0 ≤ v) && decide (v ≤ 63)
def smB (x : Sm) : Bool := parB x.fr && [x.kd,x.vw,x.sq,x.tm].all numB
def smsB (l : List Sm) : Bool := decide (l.length ≤ 64) && l.all smB
def ceB (x : Ce) : Bool := [x.sq,x.vw,x.tm].all numB && (decide (x.body.length ≤ 65536) && smsB x.vs)
def cesB (l : List Ce) : Bool := decide (l.length ≤ 64) && l.all ceB
def cgB (x : Ch) : Bool := parB x.fr && ([x.vw,x.st,x.rt].all numB && (smsB x.pf && cesB x.cs))
theorem number_s (m : Nat) (l : List Int) (hm : l.length < m) (hl : l.length ≤ 34359738367) : wire_number m (SL (l.map nA)) = some (bA (l.all numB),[]) := by
 rw [wire_number_eq]
 simp (config := {maxSteps := 4000000,implicitDefEqProofs := false}) (disch := omega) only [go_sem,]
 generalize hg : l.all numB = g
 refine iter_go (ι := {k : Nat // k ≤ l.length ∧ (l.drop k).all numB = g}) (fun k=>⟨[],[(5,SL (l.map nA)),(6,nA l.length),(7,nA k.1)]⟩) (fun k=>l.length - k.1) (fun _=>some (bA g,[])) ?_ ⟨0,Nat.zero_le _,hg⟩ (by dsimp only;omega)
 rintro kx hkx ⟨k,hk,hG⟩ kc hkc
 dsimp only at hkc hG ⊢
 rw [wire_number_b1_eq]
 by_cases hlt : k < l.length
 ·have hlt' : (k : Int) < (l.length : Int) := by omega
  rw [List.drop_eq_getElem_cons hlt,List.all_cons] at hG
  by_cases h1 : l[k] < 0
  ·have e : numB l[k] = false := by unfold numB;rw [decide_eq_false (by omega)];rfl
   rw [e] at hG
   have hG2 : false = g := hG
   subst hG2
   simp (config := {maxSteps := 4000000,implicitDefEqProofs := false}) (disch := omega) only [go_sem,hlt',h1,w_i64,hkx,wire_number_r3_eq,wire_number_r2_eq,wire_number_r1_eq]
  ·by_cases h2 : l[k] > 2147483647
   ·have e : numB l[k] = false := by unfold numB;rw [decide_eq_false (p := l[k] ≤ 2147483647) (by omega)];simp
    rw [e] at hG
    have hG2 : false = g := hG
    subst hG2
    simp (config := {maxSteps := 4000000,implicitDefEqProofs := false}) (disch := omega) only [go_sem,hlt',h1,h2,w_i64,hkx,wire_number_r3_eq,wire_number_r2_eq,wire_number_r1_eq]
   ·have e : numB l[k] = true := by unfold numB;rw [decide_eq_true (by omega),decide_eq_true (by omega)];rfl
    rw [e] at hG
    have step := hkc ⟨k + 1,by omega,hG⟩ (by dsimp only;omega)
    simp (config := {maxSteps := 4000000,implicitDefEqProofs := false}) (disch := omega) only [go_sem,hlt',h1,h2,w_i64,wire_number_r3_eq,wire_number_r2_eq,wire_number_r1_eq]
    exact step
 ·have hlt' : ¬ (k : Int) < (l.length : Int) := by omega
  rw [List.drop_of_length_le (by omega)] at hG
  have hG2 : true = g := hG
  subst hG2
  simp (config := {maxSteps := 4000000,implicitDefEqProofs := false}) (disch := omega) only [go_sem,hlt',hkx,wire_number_r3_eq,wire_number_r2_eq,wire_number_r1_eq]
theorem party_s (m : Nat) (v : Int) : wire_party m (nA v) = some (bA (parB v),[]) := by
 rw [wire_party_eq]
 unfold parB
 have e : decide (v ≤ 63) = decide (v < 64) := by apply decide_eq_decide.2;omega
 rw [e]
 by_cases h1 : 0 ≤ v
 ·simp (config := {maxSteps := 4000000,implicitDefEqProofs := false}) (disch := omega) only [go_sem,h1]
 ·simp (config := {maxSteps := 4000000,implicitDefEqProofs := false}) (disch := omega) only [go_sem,h1]
theorem stmt_s (m : Nat) (x : Sm) (hm : 4 < m) : wire_stmt m (smE x) = some (bA (smB x),[]) := by
 have hN := number_s m [x.kd,x.vw,x.sq,x.tm] hm (by simp only [List.length_cons,List.length_nil];omega)
 have hP := party_s m x.fr
 rw [wire_stmt_eq,sm_it]
 unfold smB
 generalize [x.kd,x.vw,x.sq,x.tm].all numB = gn at hN ⊢
 simp only [List.map_cons,List.map_nil] at hN
 cases h : parB x.fr with
 |false=>rw [h] at hP;simp (config := {maxSteps := 4000000,implicitDefEqProofs := false}) (disch := omega) only [go_sem,hP,hN]
 |true=>rw [h] at hP;simp (config := {maxSteps := 4000000,implicitDefEqProofs := false}) (disch := omega) only [go_sem,hP,hN]
theorem listStmt_s (m : Nat) (l : List Sm) (hm : 70 < m) : wire_list_Stmt m (SL (l.map smE)) (V (.func (.func 82) #[] #[])) = some (bA (smsB l),[]) := by
 rw [wire_list_Stmt_eq]
 unfold smsB
 by_cases h64 : l.length ≤ 64
 rotate_left
 ·have h64' : (l.length : Int) > 64 := by omega
  simp (config := {maxSteps := 4000000,implicitDefEqProofs := false}) (disch := omega) only [go_sem,h64',h64]
 have h64' : ¬ (l.length : Int) > 64 := by omega
 simp (config := {maxSteps := 4000000,implicitDefEqProofs := false}) (disch := omega) only [go_sem,h64',h64]
 generalize hg : l.all smB = g
 refine iter_go (ι := {k : Nat // k ≤ l.length ∧ (l.drop k).all smB = g}) (fun k=>⟨[],[(1,V (.func (.func 82) #[] #[])),(10,SL (l.map smE)),(11,nA l.length),(12,nA k.1)]⟩) (fun k=>l.length - k.1) (fun _=>some (bA g,[])) ?_ ⟨0,Nat.zero_le _,hg⟩ (by dsimp only;omega)
 rintro kx hkx ⟨k,hk,hG⟩ kc hkc
 dsimp only at hkc hG ⊢
 rw [wire_list_Stmt_b1_eq]
 by_cases hlt : k < l.length
 ·have hlt' : (k : Int) < (l.length : Int) := by omega
  rw [List.drop_eq_getElem_cons hlt,List.all_cons] at hG
  have hV := stmt_s m l[k] (by omega)
  rw [sm_it] at hV
  have hF : findE (wire_list_Stmt_env m) 82 = some (.tell (wire_stmt_t m)) := rfl
  have hT : wire_stmt_t m [.agg (smC l[k])] = wire_stmt m (.agg (smC l[k])) := rfl
  cases h1 : smB l[k] with
  |false =>
   rw [h1] at hG hV
   have hG2 : false = g := hG
   subst hG2
   simp (config := {maxSteps := 4000000,implicitDefEqProofs := false}) (disch := omega) only [go_sem,hlt',hF,hT,hV,w_i64,hkx,wire_list_Stmt_r1_eq]
  |true =>
   rw [h1] at hG hV
   have step := hkc ⟨k + 1,by omega,hG⟩ (by dsimp only;omega)
   simp (config := {maxSteps := 4000000,implicitDefEqProofs := false}) (disch := omega) only [go_sem,hlt',hF,hT,hV,w_i64,wire_list_Stmt_r1_eq]
   exact step
 ·have hlt' : ¬ (k : Int) < (l.length : Int) := by omega
  rw [List.drop_of_length_le (by omega)] at hG
  have hG2 : true = g := hG
  subst hG2
  simp (config := {maxSteps := 4000000,implicitDefEqProofs := false}) (disch := omega) only [go_sem,hlt',hkx,wire_list_Stmt_r1_eq]
theorem cert_s (m : Nat) (x : Ce) (hm : 70 < m) : wire_cert m (ceE x) = some (bA (ceB x),[]) := by
 have hN := number_s m [x.sq,x.vw,x.tm] (by simp only [List.length_cons,List.length_nil];omega) (by simp only [List.length_cons,List.length_nil];omega)
 have hL := listStmt_s m x.vs hm
 rw [wire_cert_eq,ce_it]
 unfold ceB
 simp only [List.map_cons,List.map_nil] at hN
 cases h : [x.sq,x.vw,x.tm].all numB with
 |false=>rw [h] at hN;simp (config := {maxSteps := 4000000,implicitDefEqProofs := false}) (disch := omega) only [go_sem,hN]
 |true =>
  rw [h] at hN
  by_cases h1 : x.body.length ≤ 65536
  ·have h1' : (x.body.length : Int) ≤ 65536 := by omega
   simp (config := {maxSteps := 4000000,implicitDefEqProofs := false}) (disch := omega) only [go_sem,hN,h1,h1',hL]
  ·have h1' : ¬ (x.body.length : Int) ≤ 65536 := by omega
   simp (config := {maxSteps := 4000000,implicitDefEqProofs := false}) (disch := omega) only [go_sem,hN,h1,h1',hL]
theorem listCert_s (m : Nat) (l : List Ce) (hm : 70 < m) : wire_list_Cert m (SL (l.map ceE)) (V (.func (.func 84) #[] #[])) = some (bA (cesB l),[]) := by
 rw [wire_list_Cert_eq]
 unfold cesB
 by_cases h64 : l.length ≤ 64
 rotate_left
 ·have h64' : (l.length : Int) > 64 := by omega
  simp (config := {maxSteps := 4000000,implicitDefEqProofs := false}) (disch := omega) only [go_sem,h64',h64]
 have h64' : ¬ (l.length : Int) > 64 := by omega
 simp (config := {maxSteps := 4000000,implicitDefEqProofs := false}) (disch := omega) only [go_sem,h64',h64]
 generalize hg : l.all ceB = g
 refine iter_go (ι := {k : Nat // k ≤ l.length ∧ (l.drop k).all ceB = g}) (fun k=>⟨[],[(1,V (.func (.func 84) #[] #[])),(10,SL (l.map ceE)),(11,nA l.length),(12,nA k.1)]⟩) (fun k=>l.length - k.1) (fun _=>some (bA g,[])) ?_ ⟨0,Nat.zero_le _,hg⟩ (by dsimp only;omega)
 rintro kx hkx ⟨k,hk,hG⟩ kc hkc
 dsimp only at hkc hG ⊢
 rw [wire_list_Cert_b1_eq]
 by_cases hlt : k < l.length
 ·have hlt' : (k : Int) < (l.length : Int) := by omega
  rw [List.drop_eq_getElem_cons hlt,List.all_cons] at hG
  have hV := cert_s m l[k] hm
  rw [ce_it] at hV
  have hF : findE (wire_list_Cert_env m) 84 = some (.tell (wire_cert_t m)) := rfl
  have hT : wire_cert_t m [.agg (ceC l[k])] = wire_cert m (.agg (ceC l[k])) := rfl
  cases h1 : ceB l[k] with
  |false =>
   rw [h1] at hG hV
   have hG2 : false = g := hG
   subst hG2
   simp (config := {maxSteps := 4000000,implicitDefEqProofs := false}) (disch := omega) only [go_sem,hlt',hF,hT,hV,w_i64,hkx,wire_list_Cert_r1_eq]
  |true =>
   rw [h1] at hG hV
   have step := hkc ⟨k + 1,by omega,hG⟩ (by dsimp only;omega)
   simp (config := {maxSteps := 4000000,implicitDefEqProofs := false}) (disch := omega) only [go_sem,hlt',hF,hT,hV,w_i64,wire_list_Cert_r1_eq]
   exact step
 ·have hlt' : ¬ (k : Int) < (l.length : Int) := by omega
  rw [List.drop_of_length_le (by omega)] at hG
  have hG2 : true = g := hG
  subst hG2
  simp (config := {maxSteps := 4000000,implicitDefEqProofs := false}) (disch := omega) only [go_sem,hlt',hkx,wire_list_Cert_r1_eq]
theorem change_s (m : Nat) (x : Ch) (hm : 70 < m) : wire_change m (cgE x) = some (bA (cgB x),[]) := by
 have hN := number_s m [x.vw,x.st,x.rt] (by simp only [List.length_cons,List.length_nil];omega) (by simp only [List.length_cons,List.length_nil];omega)
 have hP := party_s m x.fr
 have hL := listStmt_s m x.pf hm
 have hC := listCert_s m x.cs hm
 rw [wire_change_eq,cg_it]
 unfold cgB
 simp only [List.map_cons,List.map_nil] at hN
 cases h0 : parB x.fr with
 |false=>rw [h0] at hP;simp (config := {maxSteps := 4000000,implicitDefEqProofs := false}) (disch := omega) only [go_sem,hP]
 |true =>
  rw [h0] at hP
  cases h : [x.vw,x.st,x.rt].all numB with
  |false=>rw [h] at hN;simp (config := {maxSteps := 4000000,implicitDefEqProofs := false}) (disch := omega) only [go_sem,hP,hN]
  |true =>
   rw [h] at hN
   cases h1 : smsB x.pf with
   |false=>rw [h1] at hL;simp (config := {maxSteps := 4000000,implicitDefEqProofs := false}) (disch := omega) only [go_sem,hP,hN,hL]
   |true=>rw [h1] at hL;simp (config := {maxSteps := 4000000,implicitDefEqProofs := false}) (disch := omega) only [go_sem,hP,hN,hL,hC]
end Go.Proofs.Ytaaogcnjfkgnoaa

