/- The abstract machine, part 32: calls, loops and returns that do not look into the blocks that they are told to leave shut. -/
import Derived.Test.YtdjnjchpgccbiaaGreatC16
namespace Go.Proofs.YtdjnjchpgccbiaaGreat.Abs
set_option linter.unusedVariables false
set_option linter.unusedSimpArgs false
def lieCons (h : List (Nat × B)) (p : Nat × B) (ih : Prop → Prop) : Prop → Prop:=fun K=>match hAt h p.1 with
 | some b=>CB (b = p.2) (ih K)
 | none=>okK (!p.2.real) (ih K)
noncomputable def lieK (h : List (Nat × B)) (A : List (Nat × B)) : Prop → Prop:=List.rec (motive:=fun _=>Prop → Prop) (fun K=>K) (fun p _ ih=>lieCons h p ih) A
theorem lieK_of {h : List (Nat × B)} : ∀ {A : List (Nat × B)} {K : Prop},lieK h A K → K ∧ ∀ p ∈ A,hAt h p.1 = some p.2 ∨ (hAt h p.1 = none ∧ p.2.real = false)
 | [],K,hk=>⟨hk,by simp⟩
 | p :: A,K,hk=>by
  have hk : (match hAt h p.1 with
   | some b=>CB (b = p.2) (lieK h A K)
   | none=>okK (!p.2.real) (lieK h A K)):=hk
  split at hk
  · next b hb=>
    obtain ⟨e,hk⟩:=hk
    obtain ⟨h1,h2⟩:=lieK_of hk
    refine ⟨h1,fun q hq=>?_⟩
    rcases List.mem_cons.1 hq with rfl | hq
    · exact .inl (by rw [hb,e])
    · exact h2 q hq
  · next hb=>
    obtain ⟨e,hk⟩:=okK_of hk
    obtain ⟨h1,h2⟩:=lieK_of hk
    refine ⟨h1,fun q hq=>?_⟩
    rcases List.mem_cons.1 hq with rfl | hq
    · exact .inr ⟨hb,by simpa using e⟩
    · exact h2 q hq
def effOCons (p : Nat × Option B) (u : List (Nat × Option B)) (ih : EffT) : EffT:=fun h K=>
 natK p.1 fun n=>match p.2 with
  | none=>hDel h n fun h=>ih h K
  | some b=>hSet h n b fun h=>ih h K
noncomputable def effO (u : List (Nat × Option B)) : EffT:=List.rec (motive:=fun _=>EffT) effNil effOCons u
theorem effO_of : ∀ {u : List (Nat × Option B)} {h : List (Nat × B)} {K : List (Nat × B) → Prop},effO u h K → ∃ l,K l ∧ hAt l = appU (hAt h) u
 | [],h,K,hk=>⟨h,hk,rfl⟩
 | (n,none) :: u,h,K,hk=>by
  obtain ⟨h',h1,h2⟩:=hDel_of (natK_of (K:=fun n=>hDel h n fun h=>effO u h K) hk)
  obtain ⟨l,h3,h4⟩:=effO_of h1
  exact ⟨l,h3,by rw [h4,h2];rfl⟩
 | (n,some b) :: u,h,K,hk=>by
  obtain ⟨h',h1,h2⟩:=hSet_of (natK_of (K:=fun n=>hSet h n b fun h=>effO u h K) hk)
  obtain ⟨l,h3,h4⟩:=effO_of h1
  exact ⟨l,h3,by rw [h4,h2];rfl⟩
def effA (Z : List Nat) (A A' : List (Nat × B)) : List (Nat × Option B):=(Z ++ A.map fun p=>p.1).map (fun z=>(z,none)) ++ A'.map fun p=>(p.1,some p.2)
noncomputable def ocallK (args : List V) (N : Nat) (v : V) (A A' : List (Nat × B)) (N' : Nat) (xs : List V) (h : List (Nat × B)) (nm : Nat) (L : List (Option Nat)) (Z : List Nat) (K : V → List (Nat × B) → Dyn → Prop) : Prop:=
 natsK (A.map fun p=>p.1) fun a=>natsK (A'.map fun p=>p.1) fun a'=>
 okK (Nat.beq L.length N) (okK (Nat.ble N 32) (okK (Nat.ble N' (N + 32)) (okK (L.all fun o=>match o with
  | some x=>(a.contains x && (Nat.blt x nm && (hAt h x).isSome)) || (namesOf xs).contains x
  | none=>true) (okK (noTwice a) (okK (noTwice a') (okK (a.all fun n=>!Z.contains n) (okK (A.all fun p=>Nat.blt p.1 nm || !p.2.real) (okK (((a ++ a').filter fun n=>Nat.ble nm n).all fun n=>Nat.blt n (nm + 64))
 (passT (sgm L nm 0) N Z h args xs (lieK h A (effO (effA Z A A') h fun l=>listK (Z ++ (a ++ a').filter fun n=>Nat.blt n nm) fun hw=>listK ((a ++ a').filter fun n=>Nat.ble nm n) fun nw=>K v l ⟨[],hw,nw,false⟩)))))))))))
section
variable {P : Program} {tab : Tab}
theorem ocallK_of {f : FuncId} {args : List V} {H : List (Nat × B)} {r : V} {H' : List (Nat × B)} {N N' : Nat} (hs : LSpec P f args H N r H' N') {xs : List V} {h : List (Nat × B)} {nm : Nat} {L : List (Option Nat)} {Z : List Nat} {K : V → List (Nat × B) → Dyn → Prop}
 {A A' : List (Nat × B)} {v : V} (hA : (H.map fun p=>(sgm L nm 0 p.1,renB (sgm L nm 0) p.2)) = A) (hA' : (H'.map fun p=>(sgm L nm 0 p.1,renB (sgm L nm 0) p.2)) = A') (hv : renV (sgm L nm 0) r = v)
 (hk : ocallK args N v A A' N' xs h nm L Z K) : ∃ nw l,LCall P f xs ⟨[],Z ++ ((A.map fun p=>p.1) ++ A'.map fun p=>p.1).filter (fun n=>Nat.blt n nm),nw,false⟩ nm (effA Z A A') v (hAt h) ∧ hAt l = appU (hAt h) (effA Z A A') ∧
  K v l ⟨[],Z ++ ((A.map fun p=>p.1) ++ A'.map fun p=>p.1).filter (fun n=>Nat.blt n nm),nw,false⟩:=by
 replace hk:=natsK_of (natsK_of (K:=fun A=>natsK _ fun A'=>_) hk)
 subst hA hA' hv
 have e1 : ((H.map fun p=>(sgm L nm 0 p.1,renB (sgm L nm 0) p.2)).map fun p=>p.1) = H.map fun p=>sgm L nm 0 p.1:=by rw [List.map_map];rfl
 have e2 : ((H'.map fun p=>(sgm L nm 0 p.1,renB (sgm L nm 0) p.2)).map fun p=>p.1) = H'.map fun p=>sgm L nm 0 p.1:=by rw [List.map_map];rfl
 have e3 : effA Z (H.map fun p=>(sgm L nm 0 p.1,renB (sgm L nm 0) p.2)) (H'.map fun p=>(sgm L nm 0 p.1,renB (sgm L nm 0) p.2)) = effOf (sgm L nm 0) Z H H':=by
  unfold effA effOf
  rw [e1,List.map_map];rfl
 rw [e1,e2] at hk ⊢
 rw [e3] at hk ⊢
 generalize hσ : sgm L nm 0 = σ at *
 obtain ⟨g1,hk⟩:=okK_of hk
 obtain ⟨g2,hk⟩:=okK_of hk
 obtain ⟨g3,hk⟩:=okK_of hk
 obtain ⟨g4,hk⟩:=okK_of hk
 obtain ⟨g5,hk⟩:=okK_of hk
 obtain ⟨g6,hk⟩:=okK_of hk
 obtain ⟨g7,hk⟩:=okK_of hk
 obtain ⟨g7',hk⟩:=okK_of hk
 obtain ⟨g8,hk⟩:=okK_of hk
 obtain ⟨hk,g9,g10⟩:=passT_of hk
 obtain ⟨hk,g11⟩:=lieK_of hk
 obtain ⟨l,hk,g12⟩:=effO_of hk
 replace hk:=listK_of (listK_of hk)
 refine ⟨_,l,⟨?_,?_,?_⟩,g12,hk⟩
 · intro n hn
   simp only [namesU,effOf,List.map_append,List.map_map,List.mem_append,List.mem_map,Function.comp] at hn
   simp only [List.mem_append,List.mem_filter,List.mem_map,Nat.blt_eq,Nat.ble_eq]
   by_cases hlt : n < nm
   · rcases hn with (⟨z,hz,rfl⟩ | ⟨p,hp,rfl⟩) | ⟨p,hp,rfl⟩
     · exact .inl (.inl hz)
     · exact .inl (.inr ⟨.inl ⟨p,hp,rfl⟩,hlt⟩)
     · exact .inl (.inr ⟨.inr ⟨p,hp,rfl⟩,hlt⟩)
   · rcases hn with (⟨z,hz,rfl⟩ | ⟨p,hp,rfl⟩) | ⟨p,hp,rfl⟩
     · exact .inl (.inl hz)
     · exact .inr ⟨.inl ⟨p,hp,rfl⟩,by omega⟩
     · exact .inr ⟨.inr ⟨p,hp,rfl⟩,by omega⟩
 · intro n hn
   have h1:=List.all_eq_true.1 g8 n hn
   rw [List.mem_filter] at hn
   exact ⟨Nat.le_of_ble_eq_true hn.2,by simpa using h1⟩
 · intro h2 he M hfresh hbel
   have eZ : ∀ n ∈ Z,h2 n = hAt h n:=fun n hn=>he n (.inr (by simp [hn]))
   have hin : ∀ p ∈ H,h2 (σ p.1) = some (renB σ p.2) ∨ p.2.real = false:=fun p hp=>by
    have h0:=List.all_eq_true.1 g7' (σ p.1,renB σ p.2) (List.mem_map.2 ⟨p,hp,rfl⟩)
    rw [Bool.or_eq_true] at h0
    rcases h0 with h0 | h0
    · have h1 : h2 (σ p.1) = hAt h (σ p.1):=he _ (.inr (List.mem_append_right _ (List.mem_filter.2 ⟨List.mem_append_left _ (List.mem_map.2 ⟨p,hp,rfl⟩),h0⟩)))
      rw [h1]
      rcases g11 (σ p.1,renB σ p.2) (List.mem_map.2 ⟨p,hp,rfl⟩) with h3 | h3
      · exact .inl h3
      · right
        have:=h3.2
        rwa [renB_real] at this
    · right
      simpa [renB_real] using h0
   have hH : ∀ p ∈ H,((∃ b',h2 (σ p.1) = some b' ∧ WkB h2 (fun n=>n ∉ Z) σ p.2 b') ∨ p.2.real = false) ∧ σ p.1 ∉ Z:=fun p hp=>
    ⟨(hin p hp).imp (fun e=>⟨_,e,WkB.ren σ p.2⟩) id,by simpa using List.all_eq_true.1 g7 _ (List.mem_map.2 ⟨p,hp,rfl⟩)⟩
   subst hσ
   intro F ids w vals hh hsz hv
   refine LSpec.run hs L Z hfresh (Nat.eq_of_beq_eq_true g1) ?_ (Nat.le_of_ble_eq_true g2) (Nat.le_of_ble_eq_true g3) g9 ?_ hH (noTwice_nodup g5) (noTwice_nodup g6) F ids w vals hh hsz hv
   · intro x hx
     have h1:=List.all_eq_true.1 g4 (some x) hx
     dsimp only at h1
     rw [Bool.or_eq_true] at h1
     rcases h1 with h1 | h1
     · rw [Bool.and_eq_true,Bool.and_eq_true] at h1
       obtain ⟨h1,h3,h4⟩:=h1
       have h1 : x ∈ H.map fun p=>sgm L nm 0 p.1:=by simpa using h1
       obtain ⟨b',hb'⟩:=Option.isSome_iff_exists.1 h4
       have h5 : h2 x = hAt h x:=he _ (.inr (List.mem_append_right _ (List.mem_filter.2 ⟨List.mem_append_left _ h1,h3⟩)))
       exact hh.lt x b' (by rw [h5,hb'])
     · obtain ⟨y,hy,hn⟩:=mem_namesOf.1 (by simpa using h1)
       exact Below_name (hbel y hy) x hn
   · exact g10 h2 eZ
theorem callO {f : FuncId} {args : List V} {H : List (Nat × B)} {r : V} {H' : List (Nat × B)} {N N' : Nat} {xs : List V} {h : List (Nat × B)} {nm : Nat} {K : V → List (Nat × B) → Prop} (hs : LSpec P f args H N r H' N') (L : List (Option Nat)) (Z : List Nat)
 (A A' : List (Nat × B)) (v : V) (hA : (H.map fun p=>(sgm L nm 0 p.1,renB (sgm L nm 0) p.2)) = A) (hA' : (H'.map fun p=>(sgm L nm 0 p.1,renB (sgm L nm 0) p.2)) = A') (hv : renV (sgm L nm 0) r = v)
 (hb : ltAll nm (namesOf xs) = true) (hk : ocallK args N v A A' N' xs h nm L Z fun v l d=>K v l) : CallB P f xs h nm K:=by
 obtain ⟨nw,l,h2,h3,h4⟩:=ocallK_of hs hA hA' hv hk
 refine ⟨ACall.mono (h2.run _ (fun _ _=>rfl) (Lt nm) (fun k k1 k2 k3=>?_) (all_belows hb)) ?_⟩
 · exact absurd k3 (Nat.not_lt.2 k1)
 · rintro v h' ⟨rfl,rfl⟩
   exact ⟨l,h3.symm,h4⟩
inductive BO (ρ : Nat → Nat) (b : Nat) (x : B) (o : Option B) (K : Prop) : Prop
 | mk (x' : B) (ho : o = some x') (h : x' = renB ρ x) (hb : x.Below (Lt b)) (k : K)
 | no (h : x.real = false) (hb : x.Below (Lt b)) (k : K)
noncomputable def subHOCons (O : List Nat) (ρ : Nat → Nat) (fr : Nat → Bool) (b : Nat) (h : List (Nat × B)) (p : Nat × B) (H : List (Nat × B)) (ih : Prop → Prop) : Prop → Prop:=fun K=>
 match O.contains p.1 with
 | true=>okK (Nat.blt p.1 b) (BO ρ b p.2 (hAt h (ρ p.1)) (ih K))
 | false=>subHCons ρ fr b h p H ih K
noncomputable def subHO (O : List Nat) (ρ : Nat → Nat) (fr : Nat → Bool) (b : Nat) (H h : List (Nat × B)) : Prop → Prop:=List.rec (motive:=fun _=>Prop → Prop) subHNil (subHOCons O ρ fr b h) H
theorem subHO_of {O : List Nat} {ρ : Nat → Nat} {fr : Nat → Bool} {b : Nat} : ∀ {H h : List (Nat × B)} {K : Prop},subHO O ρ fr b H h K → K ∧ ∀ p ∈ H,p.1 < b ∧ p.2.Below (Lt b) ∧ ((∃ b',hAt h (ρ p.1) = some b' ∧ WeakB fr h ρ p.2 b') ∨ p.2.real = false)
 | [],h,K,hk=>⟨hk,by simp⟩
 | p :: H,h,K,hk=>by
  have hk : (match O.contains p.1 with
   | true=>okK (Nat.blt p.1 b) (BO ρ b p.2 (hAt h (ρ p.1)) (subHO O ρ fr b H h K))
   | false=>subH ρ fr b [p] h (subHO O ρ fr b H h K)):=hk
  split at hk
  · obtain ⟨e1,hk⟩:=okK_of hk
    have e1 : p.1 < b:=by simpa [Nat.blt_eq] using e1
    cases hk with
    | mk x' ho h1 hb k=>
     obtain ⟨g1,g2⟩:=subHO_of k
     refine ⟨g1,fun q hq=>?_⟩
     rcases List.mem_cons.1 hq with rfl | hq
     · exact ⟨e1,hb,.inl ⟨x',ho,fun _ _=>by rw [h1];exact WkB.ren ρ _⟩⟩
     · exact g2 q hq
    | no h1 hb k=>
     obtain ⟨g1,g2⟩:=subHO_of k
     refine ⟨g1,fun q hq=>?_⟩
     rcases List.mem_cons.1 hq with rfl | hq
     · exact ⟨e1,hb,.inr h1⟩
     · exact g2 q hq
  · obtain ⟨k,h1⟩:=subH_of hk
    obtain ⟨g1,g2⟩:=subHO_of k
    refine ⟨g1,fun q hq=>?_⟩
    rcases List.mem_cons.1 hq with rfl | hq
    · exact h1 q (by simp)
    · exact g2 q hq
noncomputable def subKO (O : List Nat) (ρ : List (Nat × Nat)) (N b : Nat) (T : List V) (H : List (Nat × B)) (t : List V) (h : List (Nat × B)) : Prop:=
 okK (ρ.all fun p=>Nat.ble N p.1) (okK (noTwice (H.map fun p=>ren1 ρ p.1)) (subT (ren1 ρ) (frOf (ren1 ρ) H) h b T t (subHO O (ren1 ρ) (frOf (ren1 ρ) H) b H h True)))
theorem subKO_of {O : List Nat} {ρ : List (Nat × Nat)} {N b b' : Nat} {T t : List V} {H h : List (Nat × B)} (hk : subKO O ρ N b T H t h) : Sub (Lt N) ⟨tAt t,hAt h,b',t.length⟩ ⟨tAt T,hAt H,b,T.length⟩ ∧ T.length = t.length:=by
 obtain ⟨e1,hk⟩:=okK_of hk
 obtain ⟨e2,hk⟩:=okK_of hk
 obtain ⟨hk,hlen,hT⟩:=subT_of hk
 obtain ⟨_,hH⟩:=subHO_of hk
 refine ⟨?_,hlen⟩
 have hren : Ren (ren1 ρ) (hAt h) (hAt H) (Lt b):=subH_ren (noTwice_nodup e2) hH
 intro F ids w a hr
 refine ⟨fun n=>ids (ren1 ρ n),⟨hren.heap hr.heap,fun i=>?_,by rw [hlen];exact hr.size,fun i hi=>?_,fun i=>(hT i).1,hr.defers⟩,⟨Goes.refl _ _,fun b _ x=>?_,fun n hn=>by rw [ren1_id e1 hn]⟩⟩
 · exact (hT i).2.rep hren hr.heap (hr.tmps i)
 · show tAt T i = .un
   rw [tAt_get,List.getElem?_eq_none hi];rfl
 · obtain ⟨n,c,hn,hcr,hb⟩:=x
   obtain ⟨b',h1,h2,_⟩:=hren.real hn hcr
   exact ⟨ren1 ρ n,_,h1,h2,hb⟩
inductive NextO {α : Type} (O : List Nat) (I : α → Prop) (μ : α → Nat) (x : α) (N b : Nat) (T : α → List V) (H : α → List (Nat × B)) (t : List V) (h : List (Nat × B)) : Prop
 | mk (ρ : List (Nat × Nat)) (y : α) (hI : I y) (hμ : μ y < μ x) (hs : subKO O ρ N b (T y) (H y) t h) : NextO O I μ x N b T H t h
noncomputable def roundO {α : Type} (O : List Nat) (P : Program) (tab : Tab) (N : Nat) (c : Code) (b : Nat) (K : Ex → List V → List (Nat × B) → Nat → Prop) (I : α → Prop) (μ : α → Nat) (T : α → List V) (H : α → List (Nat × B)) (x : α) : Prop:=
 headsK (T x) fun t=>listK (H x) fun h=>codeK P tab N c t h b fun e t' h' b'=>match e with
  | .normal=>NextO O I μ x N b T H t' h'
  | .exit i=>K (.exit i) t' h' b'
  | .ret=>K .ret t' h' b'
theorem loopO (ht : TabOk P tab) (hmix : P.follows .mixedOrders = true) {α : Type} {N : Nat} {c : Code} {t : List V} {h : List (Nat × B)} {b : Nat} {K : Ex → List V → List (Nat × B) → Nat → Prop}
 (O : List Nat) (ks : List Nat) (kh : List Nat) (ch : α → List (Nat × V)) (hc : α → List (Nat × B)) (I : α → Prop) (μ : α → Nat) (ρ : List (Nat × Nat)) (x : α) (hb : Nat.ble N b = true) (h0 : I x)
 (hs : subKO O ρ N b (putsT (ch x) (keepT 0 ks t)) (hc x ++ keepH kh h) t h)
 (round : ∀ x,I x → roundO O P tab N c b K I μ (fun x=>putsT (ch x) (keepT 0 ks t)) (fun x=>hc x ++ keepH kh h) x) : LoopB P tab N c t h b K:=by
 have hb:=Nat.le_of_ble_eq_true hb
 refine ⟨hb,?_⟩
 obtain ⟨hs,hs2⟩:=subKO_of (b':=b) hs
 refine AWP.sub hs ?_
 refine awp_loop (fun x=>⟨tAt (putsT (ch x) (keepT 0 ks t)),hAt (hc x ++ keepH kh h),b,(putsT (ch x) (keepT 0 ks t)).length⟩) I μ (fun x hx=>?_) h0
 have hr:=listK_of (headsK_of (round x hx))
 refine AWP.mono (codeK_of ht hmix c _ _ b _ hb hr) ?_
 rintro e s ⟨t',h',b',rfl,e1,hb',hk⟩
 cases e with
 | normal=>
  obtain ⟨ρ,y,hI,hμ,hs⟩:=hk
  exact ⟨y,hI,hμ,(subKO_of hs).1⟩
 | exit i=>exact ⟨t',h',b',rfl,by rw [e1,putsT_len,keepT_len],hb',hk⟩
 | ret=>exact ⟨t',h',b',rfl,by rw [e1,putsT_len,keepT_len],hb',hk⟩
noncomputable def retKO (O : List Nat) (ρ : List (Nat × Nat)) (N N' : Nat) (r : V) (H' : List (Nat × B)) (v : V) (h : List (Nat × B)) : Prop:=
 okK (ρ.all fun p=>Nat.ble N p.1) (okK (noTwice (H'.map fun p=>ren1 ρ p.1)) (subV (ren1 ρ) (frOf (ren1 ρ) H') h N' r v (subHO O (ren1 ρ) (frOf (ren1 ρ) H') N' H' h True)))
inductive RetLO (O : List Nat) (N N' : Nat) (r : V) (H' : List (Nat × B)) (v : V) (h : List (Nat × B)) : Prop
 | mk (ρ : List (Nat × Nat)) (hk : retKO O ρ N N' r H' v h) : RetLO O N N' r H' v h
theorem lspecO (O : List Nat) (ht : TabOk P tab) (hmix : P.follows .mixedOrders = true) {f : FuncId} {fn : Func} (hf : P.funcs[f]? = some fn) (hname : (fn.name == "runtime.NumGoroutine") = false)
 {args : List V} {H : List (Nat × B)} {N : Nat} {r : V} {H' : List (Nat × B)} {N' : Nat} (ha : ltAll N (namesOf args) = true) (hH : ∀ p ∈ H,p.1 < N ∧ p.2.Below (Lt N)) (hNN : Nat.ble N N' = true) (hN : Nat.ble N 64 = true)
 (h : fnK P tab N fn args H 64 fun v h' b=>RetLO O N N' r H' v h') : LSpec P f args H N r H' N':=by
 have hN:=Nat.le_of_ble_eq_true hN
 have hNN:=Nat.le_of_ble_eq_true hNN
 have ha:=all_belows ha
 obtain ⟨c,hc,hlen,hw0⟩:=fnK_of ht hmix hN h
 refine ⟨ha,hH,fun F ids w vals hh hsz hv=>⟨?_,?_⟩⟩
 · simp only [callFunc,Sem.run_bind,run_program,Result.andThen_ok,hf,hname,Bool.false_eq_true,if_false,hc,Option.isNone_some,Sem.run_pure]
 · have hbody':=hc
   have hget : ∀ i,args.length ≤ i → args.getD i .un = .un:=fun i hi=>by simp [List.getD_eq_getElem?_getD,hi]
   have hrep : Rep F ids w ⟨fun i=>args.getD i .un,hAt H,64,fn.ntmps⟩ { tmps:=vals ++ Array.replicate (fn.ntmps - vals.size) undef,defers:=[] }:=by
    refine ⟨hh.nx (Lt_le hN),fun i=>?_,by simp;omega,fun i hi=>hget i (Nat.le_trans hlen hi),fun i=>?_,.nil⟩
    · show RepV _ _ _ (args.getD i .un) _
      by_cases hi : i < args.length
      · have hx : args[i]? = some args[i]:=by simp [hi]
        have hvi : vals[i]? = some (vals[i]'(by omega)):=by simp [hsz,hi]
        have:=hv i args[i] _ hx hvi
        simp only [List.getD_eq_getElem?_getD,hx,Option.getD_some,Array.getD_eq_getD_getElem?,Array.getElem?_append_left (show i < vals.size by omega),hvi]
        exact this
      · rw [hget i (by omega)];exact .un _
    · show V.Below _ (args.getD i .un)
      by_cases hi : i < args.length
      · have hx : args[i]? = some args[i]:=by simp [hi]
        simp only [List.getD_eq_getElem?_getD,hx,Option.getD_some]
        exact (ha _ (List.getElem_mem hi)).mono (Lt_le hN)
      · rw [hget i (by omega)];exact .un
   refine calls_of_awp hf hbody' hw0 hrep (fun k s' hq=>False.elim hq.1) ?_
   rintro x s' ids' w' a' ⟨hx',hq⟩ hr' hk
   obtain ⟨y,v,⟨h',eh,_,ρ,hret⟩,k2,k3,k4⟩:=results_sound (P:=P) ht hr' fn (fun y=>∃ h',s'.h = hAt h' ∧ N ≤ s'.b ∧ RetLO O N N' r H' y h') hq
   obtain ⟨g1,hret⟩:=okK_of hret
   obtain ⟨g2,hret⟩:=okK_of hret
   obtain ⟨hret,g3,g4⟩:=subV_of hret
   obtain ⟨_,g5⟩:=subHO_of hret
   have hren0 : Ren (ren1 ρ) (hAt h') (hAt H') (Lt N'):=subH_ren (noTwice_nodup g2) g5
   have hren : Ren (ren1 ρ) s'.h (hAt H') (Lt N'):=by rw [eh];exact hren0
   have hend : ∃ v,(results fn a'.tmps).run P w' = .ok v w' ∧ ∃ v' ids2,Ending.returned v = .returned v' ∧ Chg F ids w (hAt H) (Lt N) ids2 w' (hAt H') (Lt N') ∧ RepV (Avoid F (hAt H') ids2) ids2 w' r v' ∧ r.Below (Lt N'):=by
    refine ⟨v,k2,v,fun n=>ids' (ren1 ρ n),rfl,⟨hren.heap hr'.heap,hk.goes,fun b hb x=>hk.live b hb ?_,fun n hn=>by rw [ren1_id g1 hn];exact hk.ids n hn,fun k hk=>Nat.lt_of_lt_of_le hk hNN⟩,?_,g3⟩
    · obtain ⟨n,c,hn,hcr,hb⟩:=x
      obtain ⟨b',q1,q2,_⟩:=hren.real hn hcr
      exact ⟨_,_,q1,q2,hb⟩
    · have hrh:=hr'.heap
      rw [eh] at k3 hrh
      exact g4.rep hren0 hrh k3
   exact hend
end
set_option linter.unusedVariables false
set_option linter.unusedSimpArgs false
def joinH (h g : Hp) : Hp:=fun n=>match h n with
 | some b=>some b
 | none=>g n
theorem joinH_l {h g : Hp} {n : Nat} {b : B} (e : h n = some b) : joinH h g n = some b:=by unfold joinH;rw [e]
theorem joinH_r {h g : Hp} {n : Nat} (e : h n = none) : joinH h g n = g n:=by unfold joinH;rw [e]
theorem joinH_or {h g : Hp} {n : Nat} {b : B} (e : joinH h g n = some b) : h n = some b ∨ (h n = none ∧ g n = some b):=by
 unfold joinH at e
 cases hn : h n with
 | some c=>rw [hn] at e;exact .inl e
 | none=>rw [hn] at e;exact .inr ⟨rfl,e⟩
theorem hAt_app : ∀ (l m : List (Nat × B)),hAt (l ++ m) = joinH (hAt l) (hAt m)
 | [],m=>by funext n;exact (joinH_r rfl).symm
 | p :: l,m=>by
  funext n
  show hAt (p :: (l ++ m)) n = _
  simp only [hAt]
  split
  · next e=>exact (joinH_l (by simp only [hAt,e])).symm
  · next e=>
    rw [hAt_app l m]
    unfold joinH
    simp only [hAt,e]
def Apart (h g : Hp) : Prop:=∀ k b c,h k = some b → g k = some c → False
theorem Apart.get {h g : Hp} (hd : Apart h g) {k : Nat} {c : B} (e : g k = some c) : joinH h g k = some c:=by
 cases hk : h k with
 | none=>rw [joinH_r hk,e]
 | some b=>exact (hd k b c hk e).elim
theorem live_join {h g : Hp} (hd : Apart h g) {ids : Nat → Nat × Nat} {b : Nat} : Live (joinH h g) ids b ↔ Live h ids b ∨ Live g ids b:=by
 constructor
 · rintro ⟨n,x,hn,hx,e⟩
   rcases joinH_or hn with h1 | ⟨_,h1⟩
   · exact .inl ⟨n,x,h1,hx,e⟩
   · exact .inr ⟨n,x,h1,hx,e⟩
 · rintro (⟨n,x,hn,hx,e⟩ | ⟨n,x,hn,hx,e⟩)
   · exact ⟨n,x,joinH_l hn,hx,e⟩
   · exact ⟨n,x,hd.get hn,hx,e⟩
theorem rep_hide {F : Nat → Prop} {ids : Nat → Nat × Nat} {w : World} {M : Nm} {t : Nat → V} {h g : Hp} {n : Nat} {a : Act} (hr : RepT F ids w M t (joinH h g) n a) (hd : Apart h g) : RepT (fun b=>F b ∨ Live g ids b) ids w M t h n a:=by
 have hh:=hr.heap
 have hav : ∀ b,Avoid (fun b=>F b ∨ Live g ids b) h ids b → Avoid F (joinH h g) ids b:=by
  rintro b ((x | x) | x)
  · exact .inl x
  · exact .inr ((live_join hd).2 (.inr x))
  · exact .inr ((live_join hd).2 (.inl x))
 refine ⟨⟨fun k b hk=>hh.lt k b (joinH_l hk),fun k b hk=>?_,fun k b hk=>hh.below k b (joinH_l hk),fun k m b c hk hm hb hc e=>hh.inj k m b c (joinH_l hk) (joinH_l hm) hb hc e,fun k b hk hb=>?_,fun b x=>?_⟩,fun i=>(hr.tmps i).sub hav,hr.size,hr.out,hr.below,hr.defers⟩
 · exact (hh.blk k b (joinH_l hk)).mono (Goes.refl _ _) (fun b _ x=>hav b x) (fun _ _=>rfl) (hh.below k b (joinH_l hk)) (fun _=>rfl)
 · rintro (x | ⟨m,c,hm,hc,e⟩)
   · exact hh.out k b (joinH_l hk) hb x
   · have:=hh.inj m k c b (hd.get hm) (joinH_l hk) hc hb e
     subst this
     exact hd m b c hk hm
 · rcases x with x | ⟨m,c,hm,hc,rfl⟩
   · exact hh.fsz b x
   · exact (hh.blk m c (hd.get hm)).lt hc
theorem rep_show {F : Nat → Prop} {ids ids' : Nat → Nat × Nat} {w w' : World} {M M' : Nm} {t t' : Nat → V} {h h' g : Hp} {n n' b0 : Nat} {a a' : Act} (hr : RepT F ids w M t (joinH h g) n a) (hd : Apart h g) (hd' : Apart h' g)
 (hg : ∀ k c,g k = some c → k < b0 ∧ c.Below (Lt b0)) (hM : ∀ k,k < b0 → M' k) (hr' : RepT (fun b=>F b ∨ Live g ids b) ids' w' M' t' h' n' a') (hk : Keep (Lt b0) ids w h ids' w' h') : RepT F ids' w' M' t' (joinH h' g) n' a' ∧ Keep (Lt b0) ids w (joinH h g) ids' w' (joinH h' g):=by
 have hh:=hr.heap
 have hh':=hr'.heap
 have hlg : ∀ b,Live g ids' b ↔ Live g ids b:=fun b=>by
  constructor
  · rintro ⟨m,c,hm,hc,e⟩
    exact ⟨m,c,hm,hc,by rw [← hk.ids m (hg m c hm).1];exact e⟩
  · rintro ⟨m,c,hm,hc,e⟩
    exact ⟨m,c,hm,hc,by rw [hk.ids m (hg m c hm).1];exact e⟩
 have hav : ∀ b,Avoid F (joinH h' g) ids' b → Avoid (fun b=>F b ∨ Live g ids b) h' ids' b:=by
  rintro b (x | x)
  · exact .inl (.inl x)
  · rcases (live_join hd').1 x with x | x
    · exact .inr x
    · exact .inl (.inr ((hlg b).1 x))
 have hlv : ∀ b,b < w.heap.size → Live (joinH h' g) ids' b → Live (joinH h g) ids b:=fun b hb x=>by
  rcases (live_join hd').1 x with x | x
  · exact (live_join hd).2 (.inl (hk.live b hb x))
  · exact (live_join hd).2 (.inr ((hlg b).1 x))
 have hnl : ∀ k c,g k = some c → c.real = true → ¬ Live h ids (ids k).1:=fun k c hc hcr ⟨m,d,hm,hdr,e⟩=>by
  have:=hh.inj m k d c (joinH_l hm) (hd.get hc) hdr hcr e
  subst this
  exact hd m d c hm hc
 refine ⟨⟨⟨fun k b e=>?_,fun k b e=>?_,fun k b e=>?_,fun k m b c e f hb hc he=>?_,fun k b e hb=>?_,fun b x=>Nat.lt_of_lt_of_le (hh.fsz b x) hk.goes.size⟩,fun i=>(hr'.tmps i).sub hav,hr'.size,hr'.out,hr'.below,hr'.defers⟩,
  ⟨hk.goes.weaken fun b _ x=>(live_join hd).2 (.inl x),hlv,hk.ids⟩⟩
 · rcases joinH_or e with e | ⟨_,e⟩
   · exact hh'.lt k b e
   · exact hM k (hg k b e).1
 · rcases joinH_or e with e | ⟨_,e⟩
   · exact (hh'.blk k b e).mono (Goes.refl _ _) (fun b _ x=>hav b x) (fun _ _=>rfl) (hh'.below k b e) (fun _=>rfl)
   · have h1:=hh.blk k b (hd.get e)
     rw [hk.ids k (hg k b e).1]
     exact h1.mono (hk.goes.weaken (A':=Avoid F (joinH h g) ids) fun c _ x=>.inr ((live_join hd).2 (.inl x))) (fun c hc x=>x.imp id (hlv c hc)) hk.ids (hg k b e).2 fun hb=>hk.goes.same _ (h1.lt hb) (hnl k b e hb)
 · rcases joinH_or e with e | ⟨_,e⟩
   · exact hh'.below k b e
   · exact (hg k b e).2.mono fun j hj=>hM j hj
 · rcases joinH_or e with e | ⟨_,e⟩
   · rcases joinH_or f with f | ⟨_,f⟩
     · exact hh'.inj k m b c e f hb hc he
     · exact (hh'.out k b e hb (.inr ⟨m,c,f,hc,by rw [he,hk.ids m (hg m c f).1]⟩)).elim
   · rcases joinH_or f with f | ⟨_,f⟩
     · exact (hh'.out m c f hc (.inr ⟨k,b,e,hb,by rw [← he,hk.ids k (hg k b e).1]⟩)).elim
     · rw [hk.ids k (hg k b e).1,hk.ids m (hg m c f).1] at he
       exact hh.inj k m b c (hd.get e) (hd.get f) hb hc he
 · rcases joinH_or e with e | ⟨_,e⟩
   · exact fun x=>hh'.out k b e hb (.inl x)
   · rw [hk.ids k (hg k b e).1]
     exact hh.out k b (hd.get e) hb
section
variable {P : Program} {tab : Tab}
theorem AWP.hide {c : Code} {b0 N n b : Nat} {Q : Ex → St → Prop} {t : Nat → V} {h g : Hp} (hd : Apart h g) (hg : ∀ k c,g k = some c → k < b0 ∧ c.Below (Lt b0)) (hN : N ≤ b0) (hr : AWP P (Lt b0) c Q ⟨t,h,b,n⟩)
 (hQ : ∀ x s',Q x s' → b0 ≤ s'.b ∧ Apart s'.h g) : AWP P (Lt N) c (fun x s'=>∃ h',s'.h = joinH h' g ∧ Q x { s' with h:=h' }) ⟨t,joinH h g,b,n⟩:=by
 intro rd hrd dep F ids w a hrep
 refine wpIn_mono (hr rd hrd dep _ ids w a (rep_hide hrep hd)) ?_
 rintro e a' w' ⟨x,s',ids',hx,hq,hr',hk⟩
 obtain ⟨q1,q2⟩:=hQ x s' hq
 obtain ⟨r1,r2⟩:=rep_show hrep hd q2 hg (M':=Lt s'.b) (fun k hk=>Nat.lt_of_lt_of_le hk q1) hr' hk.toKeep
 exact ⟨x,{ s' with h:=joinH s'.h g },ids',hx,⟨s'.h,rfl,hq⟩,r1,⟨⟨r2.goes,r2.live,fun m hm=>r2.ids m (Nat.lt_of_lt_of_le hm hN)⟩,hk.news⟩⟩
end
set_option linter.unusedVariables false
set_option linter.unusedSimpArgs false
mutual
theorem below_names {b : Nat} : ∀ {x : V},(∀ n ∈ nameOf x,n < b) → x.Below (Lt b)
 | .un,_=>.un
 | .c v,_=>.c v
 | .lst _ _ _,_=>.lst ..
 | .q _ _,_=>.q ..
 | .sl n _ _ _,h=>.sl _ _ _ _ (h n (by simp [nameOf]))
 | .ac n _ _,h=>.ac _ _ _ (h n (by simp [nameOf]))
 | .sx n _ _ _ _,h=>.sx _ _ _ _ _ (h n (by simp [nameOf]))
 | .p n _ _ _,h=>.p _ _ _ _ (h n (by simp [nameOf]))
 | .mp n,h=>.mp _ (h n (by simp [nameOf]))
 | .agg xs,h=>.agg _ (belows_names fun n hn=>h n (by rw [nameOf];exact hn))
 | .tup xs,h=>.tup _ (belows_names fun n hn=>h n (by rw [nameOf];exact hn))
 | .fn f a c,h=>.fn _ _ _ (belows_names fun n hn=>h n (by rw [nameOf];exact List.mem_append_left _ hn)) (belows_names fun n hn=>h n (by rw [nameOf];exact List.mem_append_right _ hn))
 | .ifc t x,h=>.ifc _ _ (below_names fun n hn=>h n (by rw [nameOf];exact hn))
theorem belows_names {b : Nat} : ∀ {xs : List V},(∀ n ∈ namesOf xs,n < b) → ∀ x ∈ xs,x.Below (Lt b)
 | [],_,x,hx=>by cases hx
 | y :: ys,h,x,hx=>by
  rcases List.mem_cons.1 hx with e | hx
  · rw [e];exact below_names fun n hn=>h n (by rw [namesOf];exact List.mem_append_left _ hn)
  · exact belows_names (fun n hn=>h n (by rw [namesOf];exact List.mem_append_right _ hn)) x hx
end
theorem belowB_names {b : Nat} {c : B} (h : ∀ n ∈ namesB c,n < b) : c.Below (Lt b):=by
 cases c with
 | rows sz r=>exact fun row hr x hx=>below_names fun n hn=>h n (List.mem_flatMap.2 ⟨row,hr,mem_namesOf.2 ⟨x,hx,hn⟩⟩)
 | dat sz r=>trivial
 | map es=>exact fun e he=>below_names fun n hn=>h n (List.mem_flatMap.2 ⟨e,he,hn⟩)
mutual
theorem renV_fix {σ : Nat → Nat} : ∀ {x : V},(∀ n ∈ nameOf x,σ n = n) → renV σ x = x
 | .un,_=>rfl
 | .c v,_=>rfl
 | .lst _ _ _,_=>rfl
 | .q _ _,_=>rfl
 | .sl n _ _ _,h=>by rw [renV,h n (by simp [nameOf])]
 | .ac n _ _,h=>by rw [renV,h n (by simp [nameOf])]
 | .sx n _ _ _ _,h=>by rw [renV,h n (by simp [nameOf])]
 | .p n _ _ _,h=>by rw [renV,h n (by simp [nameOf])]
 | .mp n,h=>by rw [renV,h n (by simp [nameOf])]
 | .agg xs,h=>by rw [renV,renVs_fix fun n hn=>h n (by rw [nameOf];exact hn)]
 | .tup xs,h=>by rw [renV,renVs_fix fun n hn=>h n (by rw [nameOf];exact hn)]
 | .fn f a c,h=>by rw [renV,renVs_fix fun n hn=>h n (by rw [nameOf];exact List.mem_append_left _ hn),renVs_fix fun n hn=>h n (by rw [nameOf];exact List.mem_append_right _ hn)]
 | .ifc t x,h=>by rw [renV,renV_fix fun n hn=>h n (by rw [nameOf];exact hn)]
theorem renVs_fix {σ : Nat → Nat} : ∀ {xs : List V},(∀ n ∈ namesOf xs,σ n = n) → renVs σ xs = xs
 | [],_=>rfl
 | y :: ys,h=>by rw [renVs,renV_fix fun n hn=>h n (by rw [namesOf];exact List.mem_append_left _ hn),renVs_fix fun n hn=>h n (by rw [namesOf];exact List.mem_append_right _ hn)]
end
theorem map_fix {α : Type} {f : α → α} : ∀ {l : List α},(∀ x ∈ l,f x = x) → l.map f = l
 | [],_=>rfl
 | x :: l,h=>by rw [List.map_cons,h x (by simp),map_fix fun y hy=>h y (by simp [hy])]
theorem renB_fix {σ : Nat → Nat} {c : B} (h : ∀ n ∈ namesB c,σ n = n) : renB σ c = c:=by
 cases c with
 | rows sz r=>rw [renB,map_fix fun row hr=>renVs_fix fun n hn=>h n (List.mem_flatMap.2 ⟨row,hr,hn⟩)]
 | dat sz r=>rfl
 | map es=>rw [renB,map_fix fun e he=>by rw [renV_fix fun n hn=>h n (List.mem_flatMap.2 ⟨e,he,hn⟩)]]
section
variable {P : Program} {tab : Tab}
end
def outN (lo hi n : Nat) : Bool:=Nat.blt n lo || Nat.ble hi n
theorem outN_iff {lo hi n : Nat} : outN lo hi n = true ↔ n < lo ∨ hi ≤ n:=by
 unfold outN
 rw [Bool.or_eq_true,Nat.blt_eq,Nat.ble_eq]
structure Shut (lo hi : Nat) (S : List Nat) (b : Nat) (G : List (Nat × B)) : Prop where
 nm : ∀ p ∈ G,lo ≤ p.1 ∧ p.1 < hi
 inb : ∀ p ∈ G,∀ n ∈ namesB p.2,(lo ≤ n ∧ n < hi) ∨ n ∈ S
 nd : (G.map Prod.fst).Nodup
 hi : hi ≤ b
 lt : ∀ n ∈ S,n < b
theorem Shut.below {lo hi : Nat} {S : List Nat} {b : Nat} {G : List (Nat × B)} (h : Shut lo hi S b G) {p : Nat × B} (hp : p ∈ G) : p.1 < b ∧ p.2.Below (Lt b):=
 ⟨by have:=(h.nm p hp).2;have:=h.hi;omega,belowB_names fun n hn=>by
  rcases h.inb p hp n hn with e | e
  · have:=h.hi;omega
  · exact h.lt n e⟩
theorem Shut.apart {lo hi : Nat} {S : List Nat} {b : Nat} {G : List (Nat × B)} (h : Shut lo hi S b G) {H : List (Nat × B)} (hH : (H.all fun p=>outN lo hi p.1) = true) : Apart (hAt H) (hAt G):=by
 intro k x y h1 h2
 have h3:=outN_iff.1 (List.all_eq_true.1 hH _ (hAt_mem h1))
 have h4:=h.nm _ (hAt_mem h2)
 dsimp only at h3 h4
 omega
theorem ren1_out {lo hi : Nat} : ∀ {ρ : List (Nat × Nat)} (h : (ρ.all fun p=>outN lo hi p.1) = true) {n : Nat},lo ≤ n → n < hi → ren1 ρ n = n
 | [],_,_,_,_=>rfl
 | p :: l,h,n,h1,h2=>by
  simp only [List.all_cons,Bool.and_eq_true] at h
  have h3:=outN_iff.1 h.1
  unfold ren1
  cases hb : Nat.beq n p.1 with
  | true=>have:=Nat.eq_of_beq_eq_true hb;omega
  | false=>exact ren1_out h.2 h1 h2
def frG (lo hi : Nat) (ρ : Nat → Nat) (H : List (Nat × B)) (n : Nat) : Bool:=outN lo hi n && !(H.any fun p=>Nat.beq (ρ p.1) n)
theorem nf {f g : Nat → Bool} (hle : ∀ n,f n = true → g n = true) {n : Nat} (hg : g n = false) : f n = false:=by
 cases he : f n with
 | false=>rfl
 | true=>rw [hle n he] at hg;cases hg
theorem Weak.le {f g : Nat → Bool} {h : List (Nat × B)} {ρ : Nat → Nat} {v u : V} (hle : ∀ n,f n = true → g n = true) (hw : Weak f h ρ v u) : Weak g h ρ v u:=
 fun h2 hh F A' ids w M hr hA hX=>hw h2 (fun n hn=>hh n (hle n hn)) F A' ids w M hr hA fun n x hn hx hf=>hX n x hn hx fun hg=>hf (nf hle hg)
theorem WeakB.le {f g : Nat → Bool} {h : List (Nat × B)} {ρ : Nat → Nat} {v u : B} (hle : ∀ n,f n = true → g n = true) (hw : WeakB f h ρ v u) : WeakB g h ρ v u:=
 fun h2 hh=>⟨(hw h2 fun n hn=>hh n (hle n hn)).1,fun F A' ids w M hr hA hX=>(hw h2 fun n hn=>hh n (hle n hn)).2 F A' ids w M hr hA fun n x hn hx hf=>hX n x hn hx fun hg=>hf (nf hle hg)⟩
noncomputable def subKG (lo hi : Nat) (S : List Nat) (O : List Nat) (ρ : List (Nat × Nat)) (N b : Nat) (T : List V) (H : List (Nat × B)) (t : List V) (h : List (Nat × B)) : Prop:=
 okK (ρ.all fun p=>Nat.ble N p.1) (okK (ρ.all fun p=>outN lo hi p.1) (okK (S.all fun n=>Nat.beq (ren1 ρ n) n) (okK (noTwice (H.map fun p=>ren1 ρ p.1)) (okK ((H.map fun p=>ren1 ρ p.1).all (outN lo hi)) (okK (H.all fun p=>outN lo hi p.1) (okK (h.all fun p=>outN lo hi p.1)
  (subT (ren1 ρ) (frG lo hi (ren1 ρ) H) h b T t (subHO O (ren1 ρ) (frG lo hi (ren1 ρ) H) b H h True))))))))
theorem subKG_of {lo hi : Nat} {S O : List Nat} {ρ : List (Nat × Nat)} {N b b' : Nat} {T t : List V} {H G h : List (Nat × B)} (hk : subKG lo hi S O ρ N b T H t h) (hG : Shut lo hi S b G) :
 Sub (Lt N) ⟨tAt t,hAt (h ++ G),b',t.length⟩ ⟨tAt T,hAt (H ++ G),b,T.length⟩ ∧ T.length = t.length:=by
 obtain ⟨e1,hk⟩:=okK_of hk
 obtain ⟨e2,hk⟩:=okK_of hk
 obtain ⟨e3,hk⟩:=okK_of hk
 obtain ⟨e4,hk⟩:=okK_of hk
 obtain ⟨e5,hk⟩:=okK_of hk
 obtain ⟨e6,hk⟩:=okK_of hk
 obtain ⟨e7,hk⟩:=okK_of hk
 obtain ⟨hk,hlen,hT⟩:=subT_of hk
 obtain ⟨_,hH⟩:=subHO_of hk
 refine ⟨?_,hlen⟩
 have hfx : ∀ n,(lo ≤ n ∧ n < hi) ∨ n ∈ S → ren1 ρ n = n:=by
  rintro n (⟨h1,h2⟩ | h1)
  · exact ren1_out e2 h1 h2
  · exact Nat.eq_of_beq_eq_true (List.all_eq_true.1 e3 n h1)
 have hGr : ∀ p ∈ G,ren1 ρ p.1 = p.1:=fun p hp=>hfx _ (.inl (hG.nm p hp))
 have hle : ∀ n,frG lo hi (ren1 ρ) H n = true → frOf (ren1 ρ) (H ++ G) n = true:=fun n hn=>by
  unfold frG at hn
  rw [Bool.and_eq_true,outN_iff] at hn
  cases hf : frOf (ren1 ρ) (H ++ G) n with
  | true=>rfl
  | false=>
   unfold frOf at hf
   rw [Bool.not_eq_false',List.any_append,Bool.or_eq_true] at hf
   rcases hf with hf | hf
   · rw [hf] at hn;cases hn.2
   · obtain ⟨q,hq,e⟩:=List.any_eq_true.1 hf
     rw [hGr q hq] at e
     have e:=Nat.eq_of_beq_eq_true e
     have:=hG.nm q hq
     omega
 have hap:=hG.apart e7
 have hag : ∀ n,frOf (ren1 ρ) (H ++ G) n = true → hAt (h ++ G) n = hAt h n:=fun n hn=>by
  rw [hAt_app]
  cases hg : hAt G n with
  | none=>
   cases hx : hAt h n with
   | none=>rw [joinH_r hx,hg]
   | some c=>exact joinH_l hx
  | some c=>
   exfalso
   have h1:=hGr _ (hAt_mem hg)
   dsimp only at h1
   have h2 : frOf (ren1 ρ) (H ++ G) n = false:=by
    unfold frOf
    rw [List.any_eq_true.2 ⟨(n,c),List.mem_append_right _ (hAt_mem hg),by dsimp only;rw [h1];exact Nat.beq_refl n⟩]
    rfl
   rw [h2] at hn;cases hn
 have hweak : ∀ {v u : V},Weak (frOf (ren1 ρ) (H ++ G)) h (ren1 ρ) v u → Weak (frOf (ren1 ρ) (H ++ G)) (h ++ G) (ren1 ρ) v u:=fun hw h2 hh=>hw h2 fun n hn=>(hh n hn).trans (hag n hn)
 have hnd : ((H ++ G).map fun p=>ren1 ρ p.1).Nodup:=by
  rw [List.map_append,List.nodup_append]
  refine ⟨noTwice_nodup e4,?_,fun a ha c hc e=>?_⟩
  · rw [List.map_congr_left (g:=Prod.fst) hGr];exact hG.nd
  · subst e
    have h1:=outN_iff.1 (List.all_eq_true.1 e5 a ha)
    obtain ⟨q,hq,rfl⟩:=List.mem_map.1 hc
    rw [hGr q hq] at h1
    have:=hG.nm q hq
    omega
 have hren : Ren (ren1 ρ) (hAt (h ++ G)) (hAt (H ++ G)) (Lt b):=by
  refine subH_ren hnd fun p hp=>?_
  rcases List.mem_append.1 hp with hp | hp
  · obtain ⟨a1,a2,a3⟩:=hH p hp
    refine ⟨a1,a2,a3.imp ?_ id⟩
    rintro ⟨b1,c1,c2⟩
    exact ⟨b1,by rw [hAt_app];exact joinH_l c1,fun h2 hh=>(WeakB.le hle c2) h2 fun n hn=>(hh n hn).trans (hag n hn)⟩
  · obtain ⟨a1,a2⟩:=hG.below hp
    have a3:=hGr p hp
    have a4 : renB (ren1 ρ) p.2 = p.2:=renB_fix fun n hn=>hfx n (hG.inb p hp n hn)
    refine ⟨a1,a2,.inl ⟨p.2,?_,fun h2 _=>?_⟩⟩
    · rw [a3,hAt_app]
      exact hap.get (hAt_of_mem hG.nd p hp)
    · have:=WkB.ren (h:=h2) (X:=fun n=>frOf (ren1 ρ) (H ++ G) n = false) (ren1 ρ) p.2
      rwa [a4] at this
 intro F ids w a hr
 refine ⟨fun n=>ids (ren1 ρ n),⟨hren.heap hr.heap,fun i=>?_,by rw [hlen];exact hr.size,fun i hi=>?_,fun i=>(hT i).1,hr.defers⟩,⟨Goes.refl _ _,fun b _ x=>?_,fun n hn=>by rw [ren1_id e1 hn]⟩⟩
 · exact (hweak (Weak.le hle (hT i).2)).rep hren hr.heap (hr.tmps i)
 · show tAt T i = .un
   rw [tAt_get,List.getElem?_eq_none hi];rfl
 · obtain ⟨n,c,hn,hcr,hb⟩:=x
   obtain ⟨b',h1,h2,_⟩:=hren.real hn hcr
   exact ⟨ren1 ρ n,_,h1,h2,hb⟩
inductive NextG {α : Type} (lo hi : Nat) (S O : List Nat) (I : α → Prop) (μ : α → Nat) (x : α) (N b : Nat) (T : α → List V) (H Fm : α → List (Nat × B)) (G : List (Nat × B)) (t : List V) (h : List (Nat × B)) : Prop
 | mk (ρ : List (Nat × Nat)) (y : α) (E : List (Nat × B)) (hI : I y) (hμ : μ y < μ x) (hG : hAt (Fm y) = hAt (E ++ G)) (hs : subKG lo hi S O ρ N b (T y) (H y ++ E) t h) : NextG lo hi S O I μ x N b T H Fm G t h
inductive RoundG {α : Type} (lo hi : Nat) (S O : List Nat) (P : Program) (tab : Tab) (N : Nat) (c : Code) (b : Nat) (K : Ex → List V → List (Nat × B) → Nat → Prop) (I : α → Prop) (μ : α → Nat) (T : α → List V) (H Fm : α → List (Nat × B)) (x : α) : Prop
 | mk (x' : α) (E G : List (Nat × B)) (hx : Sub (Lt N) ⟨tAt (T x),hAt (H x ++ Fm x),b,(T x).length⟩ ⟨tAt (T x'),hAt (H x' ++ Fm x'),b,(T x').length⟩) (hF : hAt (Fm x') = hAt (E ++ G)) (hG : Shut lo hi S b G) (hap : ((H x' ++ E).all fun p=>outN lo hi p.1) = true)
  (run : headsK (T x') fun t=>listK (H x' ++ E) fun h=>codeK P tab b c t h b fun e t' h' b'=>okK (h'.all fun p=>outN lo hi p.1) (match e with
   | .normal=>NextG lo hi S O I μ x N b T H Fm G t' h'
   | .exit i=>K (.exit i) t' h' b'
   | .ret=>K .ret t' h' b')) : RoundG lo hi S O P tab N c b K I μ T H Fm x
section
variable {P : Program} {tab : Tab}
theorem Sub.drop {M0 : Nm} {t : Nat → V} {h g : Hp} {b n : Nat} : Sub M0 ⟨t,joinH h g,b,n⟩ ⟨t,h,b,n⟩:=by
 intro F ids w a hr
 have hh:=hr.heap
 have hav : ∀ b,Avoid F h ids b → Avoid F (joinH h g) ids b:=by
  rintro b (x | ⟨n,c,hn,hc,e⟩)
  · exact .inl x
  · exact .inr ⟨n,c,joinH_l hn,hc,e⟩
 refine ⟨ids,⟨⟨fun k b hk=>hh.lt k b (joinH_l hk),fun k b hk=>?_,fun k b hk=>hh.below k b (joinH_l hk),fun k m b c hk hm hb hc e=>hh.inj k m b c (joinH_l hk) (joinH_l hm) hb hc e,fun k b hk hb=>hh.out k b (joinH_l hk) hb,hh.fsz⟩,
  fun i=>(hr.tmps i).sub hav,hr.size,hr.out,hr.below,hr.defers⟩,⟨Goes.refl _ _,fun b _ x=>?_,fun n hn=>rfl⟩⟩
 · exact (hh.blk k b (joinH_l hk)).mono (Goes.refl _ _) (fun b _ x=>hav b x) (fun _ _=>rfl) (hh.below k b (joinH_l hk)) (fun _=>rfl)
 · obtain ⟨n,c,hn,hc,e⟩:=x
   exact ⟨n,c,joinH_l hn,hc,e⟩
theorem AWP.post {M0 : Nm} {c : Code} {Q Q' : Ex → St → Prop} {s : St} (h : AWP P M0 c Q s) (hq : ∀ x s,Q x s → ∃ s',Sub M0 s s' ∧ Q' x s') : AWP P M0 c Q' s:=by
 intro rd hrd dep F ids w a hr
 refine wpIn_mono (h rd hrd dep F ids w a hr) ?_
 rintro e a' w' ⟨x,s',ids',hx,hq',hr',hkp⟩
 obtain ⟨s2,hsub,hq2⟩:=hq x s' hq'
 obtain ⟨ids2,hr2,hk2⟩:=hsub F ids' w' a' hr'
 exact ⟨x,s2,ids2,hx,hq2,hr2,hkp.step hk2 rfl⟩
theorem loopG (ht : TabOk P tab) (hmix : P.follows .mixedOrders = true) {α : Type} {N : Nat} {c : Code} {t : List V} {h : List (Nat × B)} {b : Nat} {K : Ex → List V → List (Nat × B) → Nat → Prop}
 (lo hi : Nat) (S O ks kh : List Nat) (ch : α → List (Nat × V)) (hc Fm : α → List (Nat × B)) (I : α → Prop) (μ : α → Nat) (x : α) (hb : Nat.ble N b = true) (h0 : I x)
 (hs : Sub (Lt N) ⟨tAt t,hAt h,b,t.length⟩ ⟨tAt (putsT (ch x) (keepT 0 ks t)),hAt ((hc x ++ keepH kh h) ++ Fm x),b,(putsT (ch x) (keepT 0 ks t)).length⟩)
 (round : ∀ x,I x → RoundG lo hi S O P tab N c b K I μ (fun x=>putsT (ch x) (keepT 0 ks t)) (fun x=>hc x ++ keepH kh h) Fm x) : LoopB P tab N c t h b K:=by
 have hb:=Nat.le_of_ble_eq_true hb
 refine ⟨hb,?_⟩
 refine AWP.sub hs ?_
 refine awp_loop (fun x=>⟨tAt (putsT (ch x) (keepT 0 ks t)),hAt ((hc x ++ keepH kh h) ++ Fm x),b,(putsT (ch x) (keepT 0 ks t)).length⟩) I μ (fun x hx=>?_) h0
 obtain ⟨x',E,G,hsx,hF,hG,hap,run⟩:=round x hx
 refine AWP.sub hsx ?_
 have hr:=listK_of (headsK_of run)
 have hap:=hG.apart hap
 have he : hAt ((hc x' ++ keepH kh h) ++ Fm x') = joinH (hAt ((hc x' ++ keepH kh h) ++ E)) (hAt G):=by
  rw [hAt_app,hF,← hAt_app,← List.append_assoc,hAt_app]
 have hgf : ∀ k c,hAt G k = some c → k < b ∧ c.Below (Lt b):=fun k c hk=>hG.below (hAt_mem hk)
 have haw:=codeK_of ht hmix c _ _ b _ (Nat.le_refl b) hr
 rw [he]
 refine AWP.post (AWP.hide hap hgf hb haw ?_) ?_
 · rintro e s ⟨t',h',b',rfl,e1,hb',hk⟩
   exact ⟨hb',hG.apart (okK_of hk).1⟩
 · rintro e s ⟨h1,hsh,⟨t',h',b',hse,e1,hb',hk⟩⟩
   have hst : s = ⟨tAt t',joinH (hAt h') (hAt G),b',t'.length⟩:=by
    obtain ⟨st,sh,sb,sn⟩:=s
    simp only [St.mk.injEq] at hse
    obtain ⟨a1,a2,a3,a4⟩:=hse
    dsimp only at hsh
    subst a1 a2 a3 a4 hsh
    rfl
   subst hst
   obtain ⟨_,hk⟩:=okK_of hk
   cases e with
   | normal=>
    rw [← hAt_app]
    obtain ⟨ρ,y,E',hI,hμ,hGy,hs⟩:=hk
    refine ⟨_,Sub.refl,y,hI,hμ,?_⟩
    have:=(subKG_of (b':=b') hs hG).1
    have he2 : hAt ((hc y ++ keepH kh h) ++ Fm y) = hAt (((hc y ++ keepH kh h) ++ E') ++ G):=by
     rw [hAt_app,hGy,← hAt_app,← List.append_assoc]
    rw [he2]
    exact this
   | exit i=>exact ⟨_,Sub.drop,t',h',b',rfl,by rw [e1,putsT_len,keepT_len],Nat.le_trans hb hb',hk⟩
   | ret=>exact ⟨_,Sub.drop,t',h',b',rfl,by rw [e1,putsT_len,keepT_len],Nat.le_trans hb hb',hk⟩
end
set_option linter.unusedVariables false
set_option linter.unusedSimpArgs false
def bs (eo lo k cur j : Nat) : Nat:=if j = cur then eo else lo + k * j
section
variable {eo lo k m cur t : Nat} (ho : eo + k ≤ lo) (hc : cur < m) (ht : t < m)
include ho in
end
section
variable {P : Program} {tab : Tab}
end
set_option linter.unusedVariables false
set_option linter.unusedSimpArgs false
theorem renB_nil (c : B) : renB (ren1 []) c = c:=renB_fix fun n _=>rfl
theorem subHO_all {O : List Nat} {fr : Nat → Bool} {b : Nat} {K : Prop} : ∀ {H h : List (Nat × B)},(∀ p ∈ H,O.contains p.1 = true ∧ p.1 < b ∧ p.2.Below (Lt b) ∧ (hAt h p.1 = some p.2 ∨ p.2.real = false)) → K → subHO O (ren1 []) fr b H h K
 | [],_,_,k=>k
 | p :: H,h,hp,k=>by
  obtain ⟨h1,h2,h3,h4⟩:=hp p (by simp)
  show (match O.contains p.1 with
   | true=>okK (Nat.blt p.1 b) (BO (ren1 []) b p.2 (hAt h (ren1 [] p.1)) (subHO O (ren1 []) fr b H h K))
   | false=>subHCons (ren1 []) fr b h p H (fun K=>subHO O (ren1 []) fr b H h K) K)
  rw [h1]
  show okK (Nat.blt p.1 b) _
  rw [show Nat.blt p.1 b = true by rw [Nat.blt_eq];exact h2]
  rcases h4 with h4 | h4
  · exact .mk p.2 h4 (renB_nil _).symm h3 (subHO_all (fun q hq=>hp q (by simp [hq])) k)
  · exact .no h4 h3 (subHO_all (fun q hq=>hp q (by simp [hq])) k)
theorem retR {N : Nat} {r : V} {H : List (Nat × B)} {v : V} {h : List (Nat × B)} (hH : ∀ p ∈ H,p.1 < N ∧ p.2.Below (Lt N)) (hnd : noTwice (H.map fun p=>p.1) = true)
 (hv : ∀ K : Prop,K → subV (ren1 []) (frOf (ren1 []) H) h N r v K) (hl : lieK h H True) : RetLO (H.map fun p=>p.1) N N r H v h:=by
 refine ⟨[],?_⟩
 show okK (noTwice (H.map fun p=>p.1)) _
 rw [hnd]
 obtain ⟨_,h3⟩:=lieK_of hl
 refine hv _ (subHO_all (fun p hp=>⟨?_,(hH p hp).1,(hH p hp).2,(h3 p hp).imp id And.right⟩) True.intro)
 rw [List.contains_iff_mem]
 exact List.mem_map.2 ⟨p,hp,rfl⟩
section
variable {P : Program} {tab : Tab}
end
open Go.Proofs
section
variable {P : Program} {tab : Tab}
end
end Go.Proofs.YtdjnjchpgccbiaaGreat.Abs
