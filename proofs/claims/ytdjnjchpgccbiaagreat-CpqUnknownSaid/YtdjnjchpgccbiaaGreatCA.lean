/- The abstract machine, part 32: calls, loops and returns that do not ZuH into the blocks that they are told to leave shut. -/
import Derived.Test.YtdjnjchpgccbiaaGreatC16
namespace Go.Proofs.YtdjnjchpgccbiaaGreat.Abs
set_option linter.unusedVariables false
set_option linter.unusedSimpArgs false
def ZqN (h : List (Nat × B)) (p : Nat × B) (ih : Prop → Prop) : Prop → Prop:=fun K=>match hAt h p.1 with
 | some b=>CB (b = p.2) (ih K)
 | none=>okK (!p.2.real) (ih K)
noncomputable def Zth (h : List (Nat × B)) (A : List (Nat × B)) : Prop → Prop:=List.rec (motive:=fun _=>Prop → Prop) (fun K=>K) (fun p _ ih=>ZqN h p ih) A
theorem Zf5 {h : List (Nat × B)} : ∀ {A : List (Nat × B)} {K : Prop},Zth h A K → K ∧ ∀ p ∈ A,hAt h p.1 = some p.2 ∨ (hAt h p.1 = none ∧ p.2.real = false)
 | [],K,hk=>⟨hk,by simp⟩
 | p :: A,K,hk=>by
  have hk : (match hAt h p.1 with
   | some b=>CB (b = p.2) (Zth h A K)
   | none=>okK (!p.2.real) (Zth h A K)):=hk
  split at hk
  · next b hb=>
    obtain ⟨e,hk⟩:=hk
    obtain ⟨h1,h2⟩:=Zf5 hk
    refine ⟨h1,fun q hq=>?_⟩
    rcases List.mem_cons.1 hq with rfl | hq
    · exact .inl (by rw [hb,e])
    · exact h2 q hq
  · next hb=>
    obtain ⟨e,hk⟩:=Zd hk
    obtain ⟨h1,h2⟩:=Zf5 hk
    refine ⟨h1,fun q hq=>?_⟩
    rcases List.mem_cons.1 hq with rfl | hq
    · exact .inr ⟨hb,by simpa using e⟩
    · exact h2 q hq
def Zpl (p : Nat × Option B) (u : List (Nat × Option B)) (ih : Zoy) : Zoy:=fun h K=>
 Zoi p.1 fun n=>match p.2 with
  | none=>ZlQ h n fun h=>ih h K
  | some b=>Zc2 h n b fun h=>ih h K
noncomputable def Ztv (u : List (Nat × Option B)) : Zoy:=List.rec (motive:=fun _=>Zoy) ZpN Zpl u
theorem ZhF : ∀ {u : List (Nat × Option B)} {h : List (Nat × B)} {K : List (Nat × B) → Prop},Ztv u h K → ∃ l,K l ∧ hAt l = Q1 (hAt h) u
 | [],h,K,hk=>⟨h,hk,rfl⟩
 | (n,none) :: u,h,K,hk=>by
  obtain ⟨h',h1,h2⟩:=ZbR (Zaa (K:=fun n=>ZlQ h n fun h=>Ztv u h K) hk)
  obtain ⟨l,h3,h4⟩:=ZhF h1
  exact ⟨l,h3,by rw [h4,h2];rfl⟩
 | (n,some b) :: u,h,K,hk=>by
  obtain ⟨h',h1,h2⟩:=ZX (Zaa (K:=fun n=>Zc2 h n b fun h=>Ztv u h K) hk)
  obtain ⟨l,h3,h4⟩:=ZhF h1
  exact ⟨l,h3,by rw [h4,h2];rfl⟩
def ZsW (Z : List Nat) (A A' : List (Nat × B)) : List (Nat × Option B):=(Z ++ A.map fun p=>p.1).map (fun z=>(z,none)) ++ A'.map fun p=>(p.1,some p.2)
noncomputable def ZpD (args : List V) (N : Nat) (v : V) (A A' : List (Nat × B)) (N' : Nat) (xs : List V) (h : List (Nat × B)) (nm : Nat) (L : List (Option Nat)) (Z : List Nat) (K : V → List (Nat × B) → Dyn → Prop) : Prop:=
 Zkb (A.map fun p=>p.1) fun a=>Zkb (A'.map fun p=>p.1) fun a'=>
 okK (Nat.beq L.length N) (okK (Nat.ble N 32) (okK (Nat.ble N' (N + 32)) (okK (L.all fun o=>match o with
  | some x=>(a.contains x && (Nat.blt x nm && (hAt h x).isSome)) || (Zp xs).contains x
  | none=>true) (okK (YJ a) (okK (YJ a') (okK (a.all fun n=>!Z.contains n) (okK (A.all fun p=>Nat.blt p.1 nm || !p.2.real) (okK (((a ++ a').filter fun n=>Nat.ble nm n).all fun n=>Nat.blt n (nm + 64))
 (Zq4 (sgm L nm 0) N Z h args xs (Zth h A (Ztv (ZsW Z A A') h fun l=>YC (Z ++ (a ++ a').filter fun n=>Nat.blt n nm) fun hw=>YC ((a ++ a').filter fun n=>Nat.ble nm n) fun nw=>K v l ⟨[],hw,nw,false⟩)))))))))))
section
variable {P : Program} {tab : Tab}
theorem ZlP {f : FuncId} {args : List V} {H : List (Nat × B)} {r : V} {H' : List (Nat × B)} {N N' : Nat} (hs : LSpec P f args H N r H' N') {xs : List V} {h : List (Nat × B)} {nm : Nat} {L : List (Option Nat)} {Z : List Nat} {K : V → List (Nat × B) → Dyn → Prop}
 {A A' : List (Nat × B)} {v : V} (hA : (H.map fun p=>(sgm L nm 0 p.1,ZC (sgm L nm 0) p.2)) = A) (hA' : (H'.map fun p=>(sgm L nm 0 p.1,ZC (sgm L nm 0) p.2)) = A') (hv : ZZ (sgm L nm 0) r = v)
 (hk : ZpD args N v A A' N' xs h nm L Z K) : ∃ nw l,LCall P f xs ⟨[],Z ++ ((A.map fun p=>p.1) ++ A'.map fun p=>p.1).filter (fun n=>Nat.blt n nm),nw,false⟩ nm (ZsW Z A A') v (hAt h) ∧ hAt l = Q1 (hAt h) (ZsW Z A A') ∧
  K v l ⟨[],Z ++ ((A.map fun p=>p.1) ++ A'.map fun p=>p.1).filter (fun n=>Nat.blt n nm),nw,false⟩:=by
 replace hk:=Zdz (Zdz (K:=fun A=>Zkb _ fun A'=>_) hk)
 subst hA hA' hv
 have e1 : ((H.map fun p=>(sgm L nm 0 p.1,ZC (sgm L nm 0) p.2)).map fun p=>p.1) = H.map fun p=>sgm L nm 0 p.1:=by rw [List.map_map];rfl
 have e2 : ((H'.map fun p=>(sgm L nm 0 p.1,ZC (sgm L nm 0) p.2)).map fun p=>p.1) = H'.map fun p=>sgm L nm 0 p.1:=by rw [List.map_map];rfl
 have e3 : ZsW Z (H.map fun p=>(sgm L nm 0 p.1,ZC (sgm L nm 0) p.2)) (H'.map fun p=>(sgm L nm 0 p.1,ZC (sgm L nm 0) p.2)) = Zdf (sgm L nm 0) Z H H':=by
  unfold ZsW Zdf
  rw [e1,List.map_map];rfl
 rw [e1,e2] at hk ⊢
 rw [e3] at hk ⊢
 generalize hσ : sgm L nm 0 = σ at *
 obtain ⟨g1,hk⟩:=Zd hk
 obtain ⟨g2,hk⟩:=Zd hk
 obtain ⟨g3,hk⟩:=Zd hk
 obtain ⟨g4,hk⟩:=Zd hk
 obtain ⟨g5,hk⟩:=Zd hk
 obtain ⟨g6,hk⟩:=Zd hk
 obtain ⟨g7,hk⟩:=Zd hk
 obtain ⟨g7',hk⟩:=Zd hk
 obtain ⟨g8,hk⟩:=Zd hk
 obtain ⟨hk,g9,g10⟩:=Zf6 hk
 obtain ⟨hk,g11⟩:=Zf5 hk
 obtain ⟨l,hk,g12⟩:=ZhF hk
 replace hk:=Zt (Zt hk)
 refine ⟨_,l,⟨?_,?_,?_⟩,g12,hk⟩
 · intro n hn
   simp only [Zw,Zdf,List.map_append,List.map_map,List.mem_append,List.mem_map,Function.comp] at hn
   simp only [List.mem_append,List.mem_filter,List.mem_map,Nat.blt_eq,Nat.ble_eq]
   by_cases hlt : n < nm
   · rcases hn with (⟨z,hz,rfl⟩ | ⟨p,hp,rfl⟩) | ⟨p,hp,rfl⟩
     · exact .inl (.inl hz)
     · exact .inl (.inr ⟨.inl ⟨p,hp,rfl⟩,hlt⟩)
     · exact .inl (.inr ⟨.inr ⟨p,hp,rfl⟩,hlt⟩)
   · rcases hn with (⟨z,hz,rfl⟩ | ⟨p,hp,rfl⟩) | ⟨p,hp,rfl⟩
     · exact .inl (.inl hz)
     · exact .inr ⟨.inl ⟨p,hp,rfl⟩,by omega⟩
     · exact .inr ⟨.inr ⟨p,hp,rfl⟩,by omega⟩
 · intro n hn
   have h1:=List.all_eq_true.1 g8 n hn
   rw [List.mem_filter] at hn
   exact ⟨Nat.le_of_ble_eq_true hn.2,by simpa using h1⟩
 · intro h2 he M hfresh hbel
   have eZ : ∀ n ∈ Z,h2 n = hAt h n:=fun n hn=>he n (.inr (by simp [hn]))
   have hin : ∀ p ∈ H,h2 (σ p.1) = some (ZC σ p.2) ∨ p.2.real = false:=fun p hp=>by
    have h0:=List.all_eq_true.1 g7' (σ p.1,ZC σ p.2) (List.mem_map.2 ⟨p,hp,rfl⟩)
    rw [Bool.or_eq_true] at h0
    rcases h0 with h0 | h0
    · have h1 : h2 (σ p.1) = hAt h (σ p.1):=he _ (.inr (List.mem_append_right _ (List.mem_filter.2 ⟨List.mem_append_left _ (List.mem_map.2 ⟨p,hp,rfl⟩),h0⟩)))
      rw [h1]
      rcases g11 (σ p.1,ZC σ p.2) (List.mem_map.2 ⟨p,hp,rfl⟩) with h3 | h3
      · exact .inl h3
      · right
        have:=h3.2
        rwa [Yv] at this
    · right
      simpa [Yv] using h0
   have hH : ∀ p ∈ H,((∃ b',h2 (σ p.1) = some b' ∧ WkB h2 (fun n=>n ∉ Z) σ p.2 b') ∨ p.2.real = false) ∧ σ p.1 ∉ Z:=fun p hp=>
    ⟨(hin p hp).imp (fun e=>⟨_,e,WkB.ren σ p.2⟩) id,by simpa using List.all_eq_true.1 g7 _ (List.mem_map.2 ⟨p,hp,rfl⟩)⟩
   subst hσ
   intro F ids w vals hh hsz hv
   refine LSpec.run hs L Z hfresh (Nat.eq_of_beq_eq_true g1) ?_ (Nat.le_of_ble_eq_true g2) (Nat.le_of_ble_eq_true g3) g9 ?_ hH (ZA g5) (ZA g6) F ids w vals hh hsz hv
   · intro x hx
     have h1:=List.all_eq_true.1 g4 (some x) hx
     dsimp only at h1
     rw [Bool.or_eq_true] at h1
     rcases h1 with h1 | h1
     · rw [Bool.and_eq_true,Bool.and_eq_true] at h1
       obtain ⟨h1,h3,h4⟩:=h1
       have h1 : x ∈ H.map fun p=>sgm L nm 0 p.1:=by simpa using h1
       obtain ⟨b',hb'⟩:=Option.isSome_iff_exists.1 h4
       have h5 : h2 x = hAt h x:=he _ (.inr (List.mem_append_right _ (List.mem_filter.2 ⟨List.mem_append_left _ h1,h3⟩)))
       exact hh.lt x b' (by rw [h5,hb'])
     · obtain ⟨y,hy,hn⟩:=ZG.1 (by simpa using h1)
       exact Below_name (hbel y hy) x hn
   · exact g10 h2 eZ
theorem Qd {f : FuncId} {args : List V} {H : List (Nat × B)} {r : V} {H' : List (Nat × B)} {N N' : Nat} {xs : List V} {h : List (Nat × B)} {nm : Nat} {K : V → List (Nat × B) → Prop} (hs : LSpec P f args H N r H' N') (L : List (Option Nat)) (Z : List Nat)
 (A A' : List (Nat × B)) (v : V) (hA : (H.map fun p=>(sgm L nm 0 p.1,ZC (sgm L nm 0) p.2)) = A) (hA' : (H'.map fun p=>(sgm L nm 0 p.1,ZC (sgm L nm 0) p.2)) = A') (hv : ZZ (sgm L nm 0) r = v)
 (hb : ZdN nm (Zp xs) = true) (hk : ZpD args N v A A' N' xs h nm L Z fun v l d=>K v l) : CallB P f xs h nm K:=by
 obtain ⟨nw,l,h2,h3,h4⟩:=ZlP hs hA hA' hv hk
 refine ⟨ACall.mono (h2.run _ (fun _ _=>rfl) (Lt nm) (fun k k1 k2 k3=>?_) (Ym hb)) ?_⟩
 · exact absurd k3 (Nat.not_lt.2 k1)
 · rintro v h' ⟨rfl,rfl⟩
   exact ⟨l,h3.symm,h4⟩
inductive BO (ρ : Nat → Nat) (b : Nat) (x : B) (o : Option B) (K : Prop) : Prop
 | mk (x' : B) (ho : o = some x') (h : x' = ZC ρ x) (hb : x.Below (Lt b)) (k : K)
 | no (h : x.real = false) (hb : x.Below (Lt b)) (k : K)
noncomputable def ZmF (O : List Nat) (ρ : Nat → Nat) (fr : Nat → Bool) (b : Nat) (h : List (Nat × B)) (p : Nat × B) (H : List (Nat × B)) (ih : Prop → Prop) : Prop → Prop:=fun K=>
 match O.contains p.1 with
 | true=>okK (Nat.blt p.1 b) (BO ρ b p.2 (hAt h (ρ p.1)) (ih K))
 | false=>ZfP ρ fr b h p H ih K
noncomputable def Zf1 (O : List Nat) (ρ : Nat → Nat) (fr : Nat → Bool) (b : Nat) (H h : List (Nat × B)) : Prop → Prop:=List.rec (motive:=fun _=>Prop → Prop) Zmn (ZmF O ρ fr b h) H
theorem Zbf {O : List Nat} {ρ : Nat → Nat} {fr : Nat → Bool} {b : Nat} : ∀ {H h : List (Nat × B)} {K : Prop},Zf1 O ρ fr b H h K → K ∧ ∀ p ∈ H,p.1 < b ∧ p.2.Below (Lt b) ∧ ((∃ b',hAt h (ρ p.1) = some b' ∧ WeakB fr h ρ p.2 b') ∨ p.2.real = false)
 | [],h,K,hk=>⟨hk,by simp⟩
 | p :: H,h,K,hk=>by
  have hk : (match O.contains p.1 with
   | true=>okK (Nat.blt p.1 b) (BO ρ b p.2 (hAt h (ρ p.1)) (Zf1 O ρ fr b H h K))
   | false=>Zny ρ fr b [p] h (Zf1 O ρ fr b H h K)):=hk
  split at hk
  · obtain ⟨e1,hk⟩:=Zd hk
    have e1 : p.1 < b:=by simpa [Nat.blt_eq] using e1
    cases hk with
    | mk x' ho h1 hb k=>
     obtain ⟨g1,g2⟩:=Zbf k
     refine ⟨g1,fun q hq=>?_⟩
     rcases List.mem_cons.1 hq with rfl | hq
     · exact ⟨e1,hb,.inl ⟨x',ho,fun _ _=>by rw [h1];exact WkB.ren ρ _⟩⟩
     · exact g2 q hq
    | no h1 hb k=>
     obtain ⟨g1,g2⟩:=Zbf k
     refine ⟨g1,fun q hq=>?_⟩
     rcases List.mem_cons.1 hq with rfl | hq
     · exact ⟨e1,hb,.inr h1⟩
     · exact g2 q hq
  · obtain ⟨k,h1⟩:=ZcT hk
    obtain ⟨g1,g2⟩:=Zbf k
    refine ⟨g1,fun q hq=>?_⟩
    rcases List.mem_cons.1 hq with rfl | hq
    · exact h1 q (by simp)
    · exact g2 q hq
noncomputable def ZqC (O : List Nat) (ρ : List (Nat × Nat)) (N b : Nat) (T : List V) (H : List (Nat × B)) (t : List V) (h : List (Nat × B)) : Prop:=
 okK (ρ.all fun p=>Nat.ble N p.1) (okK (YJ (H.map fun p=>Yi ρ p.1)) (Zs9 (Yi ρ) (ZdM (Yi ρ) H) h b T t (Zf1 O (Yi ρ) (ZdM (Yi ρ) H) b H h True)))
theorem ZiZ {O : List Nat} {ρ : List (Nat × Nat)} {N b b' : Nat} {T t : List V} {H h : List (Nat × B)} (hk : ZqC O ρ N b T H t h) : Sub (Lt N) ⟨tAt t,hAt h,b',t.length⟩ ⟨tAt T,hAt H,b,T.length⟩ ∧ T.length = t.length:=by
 obtain ⟨e1,hk⟩:=Zd hk
 obtain ⟨e2,hk⟩:=Zd hk
 obtain ⟨hk,hlen,hT⟩:=Ziw hk
 obtain ⟨_,hH⟩:=Zbf hk
 refine ⟨?_,hlen⟩
 have hren : Ren (Yi ρ) (hAt h) (hAt H) (Lt b):=Zcm (ZA e2) hH
 intro F ids w a hr
 refine ⟨fun n=>ids (Yi ρ n),⟨hren.heap hr.heap,fun i=>?_,by rw [hlen];exact hr.size,fun i hi=>?_,fun i=>(hT i).1,hr.defers⟩,⟨Goes.refl _ _,fun b _ x=>?_,fun n hn=>by rw [Zep e1 hn]⟩⟩
 · exact (hT i).2.rep hren hr.heap (hr.tmps i)
 · show tAt T i = .un
   rw [ZcC,List.getElem?_eq_none hi];rfl
 · obtain ⟨n,c,hn,hcr,hb⟩:=x
   obtain ⟨b',h1,h2,_⟩:=hren.real hn hcr
   exact ⟨Yi ρ n,_,h1,h2,hb⟩
inductive NextO {α : Type} (O : List Nat) (I : α → Prop) (μ : α → Nat) (x : α) (N b : Nat) (T : α → List V) (H : α → List (Nat × B)) (t : List V) (h : List (Nat × B)) : Prop
 | mk (ρ : List (Nat × Nat)) (y : α) (hI : I y) (hμ : μ y < μ x) (hs : ZqC O ρ N b (T y) (H y) t h) : NextO O I μ x N b T H t h
noncomputable def Ztq {α : Type} (O : List Nat) (P : Program) (tab : Tab) (N : Nat) (c : Code) (b : Nat) (K : Ex → List V → List (Nat × B) → Nat → Prop) (I : α → Prop) (μ : α → Nat) (T : α → List V) (H : α → List (Nat × B)) (x : α) : Prop:=
 QO (T x) fun t=>YC (H x) fun h=>Zcz P tab N c t h b fun e t' h' b'=>match e with
  | .normal=>NextO O I μ x N b T H t' h'
  | .exit i=>K (.exit i) t' h' b'
  | .ret=>K .ret t' h' b'
theorem Ztd (ht : Zk P tab) (hmix : P.follows .mixedOrders = true) {α : Type} {N : Nat} {c : Code} {t : List V} {h : List (Nat × B)} {b : Nat} {K : Ex → List V → List (Nat × B) → Nat → Prop}
 (O : List Nat) (ks : List Nat) (kh : List Nat) (ch : α → List (Nat × V)) (hc : α → List (Nat × B)) (I : α → Prop) (μ : α → Nat) (ρ : List (Nat × Nat)) (x : α) (hb : Nat.ble N b = true) (h0 : I x)
 (hs : ZqC O ρ N b (YT (ch x) (YR 0 ks t)) (hc x ++ Qk kh h) t h)
 (round : ∀ x,I x → Ztq O P tab N c b K I μ (fun x=>YT (ch x) (YR 0 ks t)) (fun x=>hc x ++ Qk kh h) x) : LoopB P tab N c t h b K:=by
 have hb:=Nat.le_of_ble_eq_true hb
 refine ⟨hb,?_⟩
 obtain ⟨hs,hs2⟩:=ZiZ (b':=b) hs
 refine AWP.sub hs ?_
 refine Zbc (fun x=>⟨tAt (YT (ch x) (YR 0 ks t)),hAt (hc x ++ Qk kh h),b,(YT (ch x) (YR 0 ks t)).length⟩) I μ (fun x hx=>?_) h0
 have hr:=Zt (Z9 (round x hx))
 refine AWP.mono (Qa ht hmix c _ _ b _ hb hr) ?_
 rintro e s ⟨t',h',b',rfl,e1,hb',hk⟩
 cases e with
 | normal=>
  obtain ⟨ρ,y,hI,hμ,hs⟩:=hk
  exact ⟨y,hI,hμ,(ZiZ hs).1⟩
 | exit i=>exact ⟨t',h',b',rfl,by rw [e1,Yb,Ya],hb',hk⟩
 | ret=>exact ⟨t',h',b',rfl,by rw [e1,Yb,Ya],hb',hk⟩
noncomputable def Zuo (O : List Nat) (ρ : List (Nat × Nat)) (N N' : Nat) (r : V) (H' : List (Nat × B)) (v : V) (h : List (Nat × B)) : Prop:=
 okK (ρ.all fun p=>Nat.ble N p.1) (okK (YJ (H'.map fun p=>Yi ρ p.1)) (Zn0 (Yi ρ) (ZdM (Yi ρ) H') h N' r v (Zf1 O (Yi ρ) (ZdM (Yi ρ) H') N' H' h True)))
inductive RetLO (O : List Nat) (N N' : Nat) (r : V) (H' : List (Nat × B)) (v : V) (h : List (Nat × B)) : Prop
 | mk (ρ : List (Nat × Nat)) (hk : Zuo O ρ N N' r H' v h) : RetLO O N N' r H' v h
theorem YP (O : List Nat) (ht : Zk P tab) (hmix : P.follows .mixedOrders = true) {f : FuncId} {fn : Func} (hf : P.funcs[f]? = some fn) (hname : (fn.name == "runtime.NumGoroutine") = false)
 {args : List V} {H : List (Nat × B)} {N : Nat} {r : V} {H' : List (Nat × B)} {N' : Nat} (ha : ZdN N (Zp args) = true) (hH : ∀ p ∈ H,p.1 < N ∧ p.2.Below (Lt N)) (hNN : Nat.ble N N' = true) (hN : Nat.ble N 64 = true)
 (h : fnK P tab N fn args H 64 fun v h' b=>RetLO O N N' r H' v h') : LSpec P f args H N r H' N':=by
 have hN:=Nat.le_of_ble_eq_true hN
 have hNN:=Nat.le_of_ble_eq_true hNN
 have ha:=Ym ha
 obtain ⟨c,hc,hlen,hw0⟩:=Zlq ht hmix hN h
 refine ⟨ha,hH,fun F ids w vals hh hsz hv=>⟨?_,?_⟩⟩
 · simp only [callFunc,Sem.run_bind,run_program,Result.andThen_ok,hf,hname,Bool.false_eq_true,if_false,hc,Option.isNone_some,Sem.run_pure]
 · have hbody':=hc
   have hget : ∀ i,args.length ≤ i → args.getD i .un = .un:=fun i hi=>by simp [List.getD_eq_getElem?_getD,hi]
   have hrep : Rep F ids w ⟨fun i=>args.getD i .un,hAt H,64,fn.ntmps⟩ { tmps:=vals ++ Array.replicate (fn.ntmps - vals.size) undef,defers:=[] }:=by
    refine ⟨hh.nx (Zes hN),fun i=>?_,by simp;omega,fun i hi=>hget i (Nat.le_trans hlen hi),fun i=>?_,.nil⟩
    · show RepV _ _ _ (args.getD i .un) _
      by_cases hi : i < args.length
      · have hx : args[i]? = some args[i]:=by simp [hi]
        have hvi : vals[i]? = some (vals[i]'(by omega)):=by simp [hsz,hi]
        have:=hv i args[i] _ hx hvi
        simp only [List.getD_eq_getElem?_getD,hx,Option.getD_some,Array.getD_eq_getD_getElem?,Array.getElem?_append_left (show i < vals.size by omega),hvi]
        exact this
      · rw [hget i (by omega)];exact .un _
    · show V.Below _ (args.getD i .un)
      by_cases hi : i < args.length
      · have hx : args[i]? = some args[i]:=by simp [hi]
        simp only [List.getD_eq_getElem?_getD,hx,Option.getD_some]
        exact (ha _ (List.getElem_mem hi)).mono (Zes hN)
      · rw [hget i (by omega)];exact .un
   refine ZaS hf hbody' hw0 hrep (fun k s' hq=>False.elim hq.1) ?_
   rintro x s' ids' w' a' ⟨hx',hq⟩ hr' hk
   obtain ⟨y,v,⟨h',eh,_,ρ,hret⟩,k2,k3,k4⟩:=Zas (P:=P) ht hr' fn (fun y=>∃ h',s'.h = hAt h' ∧ N ≤ s'.b ∧ RetLO O N N' r H' y h') hq
   obtain ⟨g1,hret⟩:=Zd hret
   obtain ⟨g2,hret⟩:=Zd hret
   obtain ⟨hret,g3,g4⟩:=ZcU hret
   obtain ⟨_,g5⟩:=Zbf hret
   have hren0 : Ren (Yi ρ) (hAt h') (hAt H') (Lt N'):=Zcm (ZA g2) g5
   have hren : Ren (Yi ρ) s'.h (hAt H') (Lt N'):=by rw [eh];exact hren0
   have hend : ∃ v,(results fn a'.tmps).run P w' = .ok v w' ∧ ∃ v' ids2,Ending.returned v = .returned v' ∧ Chg F ids w (hAt H) (Lt N) ids2 w' (hAt H') (Lt N') ∧ RepV (Ze F (hAt H') ids2) ids2 w' r v' ∧ r.Below (Lt N'):=by
    refine ⟨v,k2,v,fun n=>ids' (Yi ρ n),rfl,⟨hren.heap hr'.heap,hk.goes,fun b hb x=>hk.live b hb ?_,fun n hn=>by rw [Zep g1 hn];exact hk.ids n hn,fun k hk=>Nat.lt_of_lt_of_le hk hNN⟩,?_,g3⟩
    · obtain ⟨n,c,hn,hcr,hb⟩:=x
      obtain ⟨b',q1,q2,_⟩:=hren.real hn hcr
      exact ⟨_,_,q1,q2,hb⟩
    · have hrh:=hr'.heap
      rw [eh] at k3 hrh
      exact g4.rep hren0 hrh k3
   exact hend
end
set_option linter.unusedVariables false
set_option linter.unusedSimpArgs false
def Y4 (h g : Hp) : Hp:=fun n=>match h n with
 | some b=>some b
 | none=>g n
theorem ZT {h g : Hp} {n : Nat} {b : B} (e : h n = some b) : Y4 h g n = some b:=by unfold Y4;rw [e]
theorem Zii {h g : Hp} {n : Nat} (e : h n = none) : Y4 h g n = g n:=by unfold Y4;rw [e]
theorem QY {h g : Hp} {n : Nat} {b : B} (e : Y4 h g n = some b) : h n = some b ∨ (h n = none ∧ g n = some b):=by
 unfold Y4 at e
 cases hn : h n with
 | some c=>rw [hn] at e;exact .inl e
 | none=>rw [hn] at e;exact .inr ⟨rfl,e⟩
theorem Q4 : ∀ (l m : List (Nat × B)),hAt (l ++ m) = Y4 (hAt l) (hAt m)
 | [],m=>by funext n;exact (Zii rfl).symm
 | p :: l,m=>by
  funext n
  show hAt (p :: (l ++ m)) n = _
  simp only [hAt]
  split
  · next e=>exact (ZT (by simp only [hAt,e])).symm
  · next e=>
    rw [Q4 l m]
    unfold Y4
    simp only [hAt,e]
def Apart (h g : Hp) : Prop:=∀ k b c,h k = some b → g k = some c → False
theorem Apart.get {h g : Hp} (hd : Apart h g) {k : Nat} {c : B} (e : g k = some c) : Y4 h g k = some c:=by
 cases hk : h k with
 | none=>rw [Zii hk,e]
 | some b=>exact (hd k b c hk e).elim
theorem Qb {h g : Hp} (hd : Apart h g) {ids : Nat → Nat × Nat} {b : Nat} : Zbs (Y4 h g) ids b ↔ Zbs h ids b ∨ Zbs g ids b:=by
 constructor
 · rintro ⟨n,x,hn,hx,e⟩
   rcases QY hn with h1 | ⟨_,h1⟩
   · exact .inl ⟨n,x,h1,hx,e⟩
   · exact .inr ⟨n,x,h1,hx,e⟩
 · rintro (⟨n,x,hn,hx,e⟩ | ⟨n,x,hn,hx,e⟩)
   · exact ⟨n,x,ZT hn,hx,e⟩
   · exact ⟨n,x,hd.get hn,hx,e⟩
theorem Zpc {F : Nat → Prop} {ids : Nat → Nat × Nat} {w : World} {M : Nm} {t : Nat → V} {h g : Hp} {n : Nat} {a : Act} (hr : RepT F ids w M t (Y4 h g) n a) (hd : Apart h g) : RepT (fun b=>F b ∨ Zbs g ids b) ids w M t h n a:=by
 have hh:=hr.heap
 have hav : ∀ b,Ze (fun b=>F b ∨ Zbs g ids b) h ids b → Ze F (Y4 h g) ids b:=by
  rintro b ((x | x) | x)
  · exact .inl x
  · exact .inr ((Qb hd).2 (.inr x))
  · exact .inr ((Qb hd).2 (.inl x))
 refine ⟨⟨fun k b hk=>hh.lt k b (ZT hk),fun k b hk=>?_,fun k b hk=>hh.below k b (ZT hk),fun k m b c hk hm hb hc e=>hh.inj k m b c (ZT hk) (ZT hm) hb hc e,fun k b hk hb=>?_,fun b x=>?_⟩,fun i=>(hr.tmps i).sub hav,hr.size,hr.out,hr.below,hr.defers⟩
 · exact (hh.blk k b (ZT hk)).mono (Goes.refl _ _) (fun b _ x=>hav b x) (fun _ _=>rfl) (hh.below k b (ZT hk)) (fun _=>rfl)
 · rintro (x | ⟨m,c,hm,hc,e⟩)
   · exact hh.out k b (ZT hk) hb x
   · have:=hh.inj m k c b (hd.get hm) (ZT hk) hc hb e
     subst this
     exact hd m b c hk hm
 · rcases x with x | ⟨m,c,hm,hc,rfl⟩
   · exact hh.fsz b x
   · exact (hh.blk m c (hd.get hm)).lt hc
theorem ZnF {F : Nat → Prop} {ids ids' : Nat → Nat × Nat} {w w' : World} {M M' : Nm} {t t' : Nat → V} {h h' g : Hp} {n n' b0 : Nat} {a a' : Act} (hr : RepT F ids w M t (Y4 h g) n a) (hd : Apart h g) (hd' : Apart h' g)
 (hg : ∀ k c,g k = some c → k < b0 ∧ c.Below (Lt b0)) (hM : ∀ k,k < b0 → M' k) (hr' : RepT (fun b=>F b ∨ Zbs g ids b) ids' w' M' t' h' n' a') (hk : Keep (Lt b0) ids w h ids' w' h') : RepT F ids' w' M' t' (Y4 h' g) n' a' ∧ Keep (Lt b0) ids w (Y4 h g) ids' w' (Y4 h' g):=by
 have hh:=hr.heap
 have hh':=hr'.heap
 have hlg : ∀ b,Zbs g ids' b ↔ Zbs g ids b:=fun b=>by
  constructor
  · rintro ⟨m,c,hm,hc,e⟩
    exact ⟨m,c,hm,hc,by rw [← hk.ids m (hg m c hm).1];exact e⟩
  · rintro ⟨m,c,hm,hc,e⟩
    exact ⟨m,c,hm,hc,by rw [hk.ids m (hg m c hm).1];exact e⟩
 have hav : ∀ b,Ze F (Y4 h' g) ids' b → Ze (fun b=>F b ∨ Zbs g ids b) h' ids' b:=by
  rintro b (x | x)
  · exact .inl (.inl x)
  · rcases (Qb hd').1 x with x | x
    · exact .inr x
    · exact .inl (.inr ((hlg b).1 x))
 have hlv : ∀ b,b < w.heap.size → Zbs (Y4 h' g) ids' b → Zbs (Y4 h g) ids b:=fun b hb x=>by
  rcases (Qb hd').1 x with x | x
  · exact (Qb hd).2 (.inl (hk.live b hb x))
  · exact (Qb hd).2 (.inr ((hlg b).1 x))
 have hnl : ∀ k c,g k = some c → c.real = true → ¬ Zbs h ids (ids k).1:=fun k c hc hcr ⟨m,d,hm,hdr,e⟩=>by
  have:=hh.inj m k d c (ZT hm) (hd.get hc) hdr hcr e
  subst this
  exact hd m d c hm hc
 refine ⟨⟨⟨fun k b e=>?_,fun k b e=>?_,fun k b e=>?_,fun k m b c e f hb hc he=>?_,fun k b e hb=>?_,fun b x=>Nat.lt_of_lt_of_le (hh.fsz b x) hk.goes.size⟩,fun i=>(hr'.tmps i).sub hav,hr'.size,hr'.out,hr'.below,hr'.defers⟩,
  ⟨hk.goes.weaken fun b _ x=>(Qb hd).2 (.inl x),hlv,hk.ids⟩⟩
 · rcases QY e with e | ⟨_,e⟩
   · exact hh'.lt k b e
   · exact hM k (hg k b e).1
 · rcases QY e with e | ⟨_,e⟩
   · exact (hh'.blk k b e).mono (Goes.refl _ _) (fun b _ x=>hav b x) (fun _ _=>rfl) (hh'.below k b e) (fun _=>rfl)
   · have h1:=hh.blk k b (hd.get e)
     rw [hk.ids k (hg k b e).1]
     exact h1.mono (hk.goes.weaken (A':=Ze F (Y4 h g) ids) fun c _ x=>.inr ((Qb hd).2 (.inl x))) (fun c hc x=>x.imp id (hlv c hc)) hk.ids (hg k b e).2 fun hb=>hk.goes.same _ (h1.lt hb) (hnl k b e hb)
 · rcases QY e with e | ⟨_,e⟩
   · exact hh'.below k b e
   · exact (hg k b e).2.mono fun j hj=>hM j hj
 · rcases QY e with e | ⟨_,e⟩
   · rcases QY f with f | ⟨_,f⟩
     · exact hh'.inj k m b c e f hb hc he
     · exact (hh'.out k b e hb (.inr ⟨m,c,f,hc,by rw [he,hk.ids m (hg m c f).1]⟩)).elim
   · rcases QY f with f | ⟨_,f⟩
     · exact (hh'.out m c f hc (.inr ⟨k,b,e,hb,by rw [← he,hk.ids k (hg k b e).1]⟩)).elim
     · rw [hk.ids k (hg k b e).1,hk.ids m (hg m c f).1] at he
       exact hh.inj k m b c (hd.get e) (hd.get f) hb hc he
 · rcases QY e with e | ⟨_,e⟩
   · exact fun x=>hh'.out k b e hb (.inl x)
   · rw [hk.ids k (hg k b e).1]
     exact hh.out k b (hd.get e) hb
section
variable {P : Program} {tab : Tab}
theorem AWP.hide {c : Code} {b0 N n b : Nat} {Q : Ex → St → Prop} {t : Nat → V} {h g : Hp} (hd : Apart h g) (hg : ∀ k c,g k = some c → k < b0 ∧ c.Below (Lt b0)) (hN : N ≤ b0) (hr : AWP P (Lt b0) c Q ⟨t,h,b,n⟩)
 (hQ : ∀ x s',Q x s' → b0 ≤ s'.b ∧ Apart s'.h g) : AWP P (Lt N) c (fun x s'=>∃ h',s'.h = Y4 h' g ∧ Q x { s' with h:=h' }) ⟨t,Y4 h g,b,n⟩:=by
 intro rd hrd dep F ids w a hrep
 refine wpIn_mono (hr rd hrd dep _ ids w a (Zpc hrep hd)) ?_
 rintro e a' w' ⟨x,s',ids',hx,hq,hr',hk⟩
 obtain ⟨q1,q2⟩:=hQ x s' hq
 obtain ⟨r1,r2⟩:=ZnF hrep hd q2 hg (M':=Lt s'.b) (fun k hk=>Nat.lt_of_lt_of_le hk q1) hr' hk.toKeep
 exact ⟨x,{ s' with h:=Y4 s'.h g },ids',hx,⟨s'.h,rfl,hq⟩,r1,⟨⟨r2.goes,r2.live,fun m hm=>r2.ids m (Nat.lt_of_lt_of_le hm hN)⟩,hk.news⟩⟩
end
set_option linter.unusedVariables false
set_option linter.unusedSimpArgs false
mutual
theorem ZaB {b : Nat} : ∀ {x : V},(∀ n ∈ Zc x,n < b) → x.Below (Lt b)
 | .un,_=>.un
 | .c v,_=>.c v
 | .lst _ _ _,_=>.lst ..
 | .q _ _,_=>.q ..
 | .sl n _ _ _,h=>.sl _ _ _ _ (h n (by simp [Zc]))
 | .ac n _ _,h=>.ac _ _ _ (h n (by simp [Zc]))
 | .sx n _ _ _ _,h=>.sx _ _ _ _ _ (h n (by simp [Zc]))
 | .p n _ _ _,h=>.p _ _ _ _ (h n (by simp [Zc]))
 | .mp n,h=>.mp _ (h n (by simp [Zc]))
 | .agg xs,h=>.agg _ (Qf fun n hn=>h n (by rw [Zc];exact hn))
 | .tup xs,h=>.tup _ (Qf fun n hn=>h n (by rw [Zc];exact hn))
 | .fn f a c,h=>.fn _ _ _ (Qf fun n hn=>h n (by rw [Zc];exact List.mem_append_left _ hn)) (Qf fun n hn=>h n (by rw [Zc];exact List.mem_append_right _ hn))
 | .ifc t x,h=>.ifc _ _ (ZaB fun n hn=>h n (by rw [Zc];exact hn))
theorem Qf {b : Nat} : ∀ {xs : List V},(∀ n ∈ Zp xs,n < b) → ∀ x ∈ xs,x.Below (Lt b)
 | [],_,x,hx=>by cases hx
 | y :: ys,h,x,hx=>by
  rcases List.mem_cons.1 hx with e | hx
  · rw [e];exact ZaB fun n hn=>h n (by rw [Zp];exact List.mem_append_left _ hn)
  · exact Qf (fun n hn=>h n (by rw [Zp];exact List.mem_append_right _ hn)) x hx
end
theorem QT {b : Nat} {c : B} (h : ∀ n ∈ ZR c,n < b) : c.Below (Lt b):=by
 cases c with
 | rows sz r=>exact fun row hr x hx=>ZaB fun n hn=>h n (List.mem_flatMap.2 ⟨row,hr,ZG.2 ⟨x,hx,hn⟩⟩)
 | dat sz r=>trivial
 | map es=>exact fun e he=>ZaB fun n hn=>h n (List.mem_flatMap.2 ⟨e,he,hn⟩)
mutual
theorem Zgk {σ : Nat → Nat} : ∀ {x : V},(∀ n ∈ Zc x,σ n = n) → ZZ σ x = x
 | .un,_=>rfl
 | .c v,_=>rfl
 | .lst _ _ _,_=>rfl
 | .q _ _,_=>rfl
 | .sl n _ _ _,h=>by rw [ZZ,h n (by simp [Zc])]
 | .ac n _ _,h=>by rw [ZZ,h n (by simp [Zc])]
 | .sx n _ _ _ _,h=>by rw [ZZ,h n (by simp [Zc])]
 | .p n _ _ _,h=>by rw [ZZ,h n (by simp [Zc])]
 | .mp n,h=>by rw [ZZ,h n (by simp [Zc])]
 | .agg xs,h=>by rw [ZZ,Zac fun n hn=>h n (by rw [Zc];exact hn)]
 | .tup xs,h=>by rw [ZZ,Zac fun n hn=>h n (by rw [Zc];exact hn)]
 | .fn f a c,h=>by rw [ZZ,Zac fun n hn=>h n (by rw [Zc];exact List.mem_append_left _ hn),Zac fun n hn=>h n (by rw [Zc];exact List.mem_append_right _ hn)]
 | .ifc t x,h=>by rw [ZZ,Zgk fun n hn=>h n (by rw [Zc];exact hn)]
theorem Zac {σ : Nat → Nat} : ∀ {xs : List V},(∀ n ∈ Zp xs,σ n = n) → ZbM σ xs = xs
 | [],_=>rfl
 | y :: ys,h=>by rw [ZbM,Zgk fun n hn=>h n (by rw [Zp];exact List.mem_append_left _ hn),Zac fun n hn=>h n (by rw [Zp];exact List.mem_append_right _ hn)]
end
theorem ZhV {α : Type} {f : α → α} : ∀ {l : List α},(∀ x ∈ l,f x = x) → l.map f = l
 | [],_=>rfl
 | x :: l,h=>by rw [List.map_cons,h x (by simp),ZhV fun y hy=>h y (by simp [hy])]
theorem Zjl {σ : Nat → Nat} {c : B} (h : ∀ n ∈ ZR c,σ n = n) : ZC σ c = c:=by
 cases c with
 | rows sz r=>rw [ZC,ZhV fun row hr=>Zac fun n hn=>h n (List.mem_flatMap.2 ⟨row,hr,hn⟩)]
 | dat sz r=>rfl
 | map es=>rw [ZC,ZhV fun e he=>by rw [Zgk fun n hn=>h n (List.mem_flatMap.2 ⟨e,he,hn⟩)]]
section
variable {P : Program} {tab : Tab}
end
def ZmL (lo hi n : Nat) : Bool:=Nat.blt n lo || Nat.ble hi n
theorem Zdl {lo hi n : Nat} : ZmL lo hi n = true ↔ n < lo ∨ hi ≤ n:=by
 unfold ZmL
 rw [Bool.or_eq_true,Nat.blt_eq,Nat.ble_eq]
structure Shut (lo hi : Nat) (S : List Nat) (b : Nat) (G : List (Nat × B)) : Prop where
 nm : ∀ p ∈ G,lo ≤ p.1 ∧ p.1 < hi
 inb : ∀ p ∈ G,∀ n ∈ ZR p.2,(lo ≤ n ∧ n < hi) ∨ n ∈ S
 nd : (G.map Prod.fst).Nodup
 hi : hi ≤ b
 lt : ∀ n ∈ S,n < b
theorem Shut.below {lo hi : Nat} {S : List Nat} {b : Nat} {G : List (Nat × B)} (h : Shut lo hi S b G) {p : Nat × B} (hp : p ∈ G) : p.1 < b ∧ p.2.Below (Lt b):=
 ⟨by have:=(h.nm p hp).2;have:=h.hi;omega,QT fun n hn=>by
  rcases h.inb p hp n hn with e | e
  · have:=h.hi;omega
  · exact h.lt n e⟩
theorem Shut.apart {lo hi : Nat} {S : List Nat} {b : Nat} {G : List (Nat × B)} (h : Shut lo hi S b G) {H : List (Nat × B)} (hH : (H.all fun p=>ZmL lo hi p.1) = true) : Apart (hAt H) (hAt G):=by
 intro k x y h1 h2
 have h3:=Zdl.1 (List.all_eq_true.1 hH _ (Z1 h1))
 have h4:=h.nm _ (Z1 h2)
 dsimp only at h3 h4
 omega
theorem Zi5 {lo hi : Nat} : ∀ {ρ : List (Nat × Nat)} (h : (ρ.all fun p=>ZmL lo hi p.1) = true) {n : Nat},lo ≤ n → n < hi → Yi ρ n = n
 | [],_,_,_,_=>rfl
 | p :: l,h,n,h1,h2=>by
  simp only [List.all_cons,Bool.and_eq_true] at h
  have h3:=Zdl.1 h.1
  unfold Yi
  cases hb : Nat.beq n p.1 with
  | true=>have:=Nat.eq_of_beq_eq_true hb;omega
  | false=>exact Zi5 h.2 h1 h2
def frG (lo hi : Nat) (ρ : Nat → Nat) (H : List (Nat × B)) (n : Nat) : Bool:=ZmL lo hi n && !(H.any fun p=>Nat.beq (ρ p.1) n)
theorem nf {f g : Nat → Bool} (hle : ∀ n,f n = true → g n = true) {n : Nat} (hg : g n = false) : f n = false:=by
 cases he : f n with
 | false=>rfl
 | true=>rw [hle n he] at hg;cases hg
theorem Weak.le {f g : Nat → Bool} {h : List (Nat × B)} {ρ : Nat → Nat} {v u : V} (hle : ∀ n,f n = true → g n = true) (hw : Weak f h ρ v u) : Weak g h ρ v u:=
 fun h2 hh F A' ids w M hr hA hX=>hw h2 (fun n hn=>hh n (hle n hn)) F A' ids w M hr hA fun n x hn hx hf=>hX n x hn hx fun hg=>hf (nf hle hg)
theorem WeakB.le {f g : Nat → Bool} {h : List (Nat × B)} {ρ : Nat → Nat} {v u : B} (hle : ∀ n,f n = true → g n = true) (hw : WeakB f h ρ v u) : WeakB g h ρ v u:=
 fun h2 hh=>⟨(hw h2 fun n hn=>hh n (hle n hn)).1,fun F A' ids w M hr hA hX=>(hw h2 fun n hn=>hh n (hle n hn)).2 F A' ids w M hr hA fun n x hn hx hf=>hX n x hn hx fun hg=>hf (nf hle hg)⟩
noncomputable def Zsx (lo hi : Nat) (S : List Nat) (O : List Nat) (ρ : List (Nat × Nat)) (N b : Nat) (T : List V) (H : List (Nat × B)) (t : List V) (h : List (Nat × B)) : Prop:=
 okK (ρ.all fun p=>Nat.ble N p.1) (okK (ρ.all fun p=>ZmL lo hi p.1) (okK (S.all fun n=>Nat.beq (Yi ρ n) n) (okK (YJ (H.map fun p=>Yi ρ p.1)) (okK ((H.map fun p=>Yi ρ p.1).all (ZmL lo hi)) (okK (H.all fun p=>ZmL lo hi p.1) (okK (h.all fun p=>ZmL lo hi p.1)
  (Zs9 (Yi ρ) (frG lo hi (Yi ρ) H) h b T t (Zf1 O (Yi ρ) (frG lo hi (Yi ρ) H) b H h True))))))))
theorem Zon {lo hi : Nat} {S O : List Nat} {ρ : List (Nat × Nat)} {N b b' : Nat} {T t : List V} {H G h : List (Nat × B)} (hk : Zsx lo hi S O ρ N b T H t h) (hG : Shut lo hi S b G) :
 Sub (Lt N) ⟨tAt t,hAt (h ++ G),b',t.length⟩ ⟨tAt T,hAt (H ++ G),b,T.length⟩ ∧ T.length = t.length:=by
 obtain ⟨e1,hk⟩:=Zd hk
 obtain ⟨e2,hk⟩:=Zd hk
 obtain ⟨e3,hk⟩:=Zd hk
 obtain ⟨e4,hk⟩:=Zd hk
 obtain ⟨e5,hk⟩:=Zd hk
 obtain ⟨e6,hk⟩:=Zd hk
 obtain ⟨e7,hk⟩:=Zd hk
 obtain ⟨hk,hlen,hT⟩:=Ziw hk
 obtain ⟨_,hH⟩:=Zbf hk
 refine ⟨?_,hlen⟩
 have hfx : ∀ n,(lo ≤ n ∧ n < hi) ∨ n ∈ S → Yi ρ n = n:=by
  rintro n (⟨h1,h2⟩ | h1)
  · exact Zi5 e2 h1 h2
  · exact Nat.eq_of_beq_eq_true (List.all_eq_true.1 e3 n h1)
 have hGr : ∀ p ∈ G,Yi ρ p.1 = p.1:=fun p hp=>hfx _ (.inl (hG.nm p hp))
 have hle : ∀ n,frG lo hi (Yi ρ) H n = true → ZdM (Yi ρ) (H ++ G) n = true:=fun n hn=>by
  unfold frG at hn
  rw [Bool.and_eq_true,Zdl] at hn
  cases hf : ZdM (Yi ρ) (H ++ G) n with
  | true=>rfl
  | false=>
   unfold ZdM at hf
   rw [Bool.not_eq_false',List.any_append,Bool.or_eq_true] at hf
   rcases hf with hf | hf
   · rw [hf] at hn;cases hn.2
   · obtain ⟨q,hq,e⟩:=List.any_eq_true.1 hf
     rw [hGr q hq] at e
     have e:=Nat.eq_of_beq_eq_true e
     have:=hG.nm q hq
     omega
 have hap:=hG.apart e7
 have hag : ∀ n,ZdM (Yi ρ) (H ++ G) n = true → hAt (h ++ G) n = hAt h n:=fun n hn=>by
  rw [Q4]
  cases hg : hAt G n with
  | none=>
   cases hx : hAt h n with
   | none=>rw [Zii hx,hg]
   | some c=>exact ZT hx
  | some c=>
   exfalso
   have h1:=hGr _ (Z1 hg)
   dsimp only at h1
   have h2 : ZdM (Yi ρ) (H ++ G) n = false:=by
    unfold ZdM
    rw [List.any_eq_true.2 ⟨(n,c),List.mem_append_right _ (Z1 hg),by dsimp only;rw [h1];exact Nat.beq_refl n⟩]
    rfl
   rw [h2] at hn;cases hn
 have hweak : ∀ {v u : V},Weak (ZdM (Yi ρ) (H ++ G)) h (Yi ρ) v u → Weak (ZdM (Yi ρ) (H ++ G)) (h ++ G) (Yi ρ) v u:=fun hw h2 hh=>hw h2 fun n hn=>(hh n hn).trans (hag n hn)
 have hnd : ((H ++ G).map fun p=>Yi ρ p.1).Nodup:=by
  rw [List.map_append,List.nodup_append]
  refine ⟨ZA e4,?_,fun a ha c hc e=>?_⟩
  · rw [List.map_congr_left (g:=Prod.fst) hGr];exact hG.nd
  · subst e
    have h1:=Zdl.1 (List.all_eq_true.1 e5 a ha)
    obtain ⟨q,hq,rfl⟩:=List.mem_map.1 hc
    rw [hGr q hq] at h1
    have:=hG.nm q hq
    omega
 have hren : Ren (Yi ρ) (hAt (h ++ G)) (hAt (H ++ G)) (Lt b):=by
  refine Zcm hnd fun p hp=>?_
  rcases List.mem_append.1 hp with hp | hp
  · obtain ⟨a1,a2,a3⟩:=hH p hp
    refine ⟨a1,a2,a3.imp ?_ id⟩
    rintro ⟨b1,c1,c2⟩
    exact ⟨b1,by rw [Q4];exact ZT c1,fun h2 hh=>(WeakB.le hle c2) h2 fun n hn=>(hh n hn).trans (hag n hn)⟩
  · obtain ⟨a1,a2⟩:=hG.below hp
    have a3:=hGr p hp
    have a4 : ZC (Yi ρ) p.2 = p.2:=Zjl fun n hn=>hfx n (hG.inb p hp n hn)
    refine ⟨a1,a2,.inl ⟨p.2,?_,fun h2 _=>?_⟩⟩
    · rw [a3,Q4]
      exact hap.get (ZcS hG.nd p hp)
    · have:=WkB.ren (h:=h2) (X:=fun n=>ZdM (Yi ρ) (H ++ G) n = false) (Yi ρ) p.2
      rwa [a4] at this
 intro F ids w a hr
 refine ⟨fun n=>ids (Yi ρ n),⟨hren.heap hr.heap,fun i=>?_,by rw [hlen];exact hr.size,fun i hi=>?_,fun i=>(hT i).1,hr.defers⟩,⟨Goes.refl _ _,fun b _ x=>?_,fun n hn=>by rw [Zep e1 hn]⟩⟩
 · exact (hweak (Weak.le hle (hT i).2)).rep hren hr.heap (hr.tmps i)
 · show tAt T i = .un
   rw [ZcC,List.getElem?_eq_none hi];rfl
 · obtain ⟨n,c,hn,hcr,hb⟩:=x
   obtain ⟨b',h1,h2,_⟩:=hren.real hn hcr
   exact ⟨Yi ρ n,_,h1,h2,hb⟩
inductive NextG {α : Type} (lo hi : Nat) (S O : List Nat) (I : α → Prop) (μ : α → Nat) (x : α) (N b : Nat) (T : α → List V) (H Fm : α → List (Nat × B)) (G : List (Nat × B)) (t : List V) (h : List (Nat × B)) : Prop
 | mk (ρ : List (Nat × Nat)) (y : α) (E : List (Nat × B)) (hI : I y) (hμ : μ y < μ x) (hG : hAt (Fm y) = hAt (E ++ G)) (hs : Zsx lo hi S O ρ N b (T y) (H y ++ E) t h) : NextG lo hi S O I μ x N b T H Fm G t h
inductive RoundG {α : Type} (lo hi : Nat) (S O : List Nat) (P : Program) (tab : Tab) (N : Nat) (c : Code) (b : Nat) (K : Ex → List V → List (Nat × B) → Nat → Prop) (I : α → Prop) (μ : α → Nat) (T : α → List V) (H Fm : α → List (Nat × B)) (x : α) : Prop
 | mk (x' : α) (E G : List (Nat × B)) (hx : Sub (Lt N) ⟨tAt (T x),hAt (H x ++ Fm x),b,(T x).length⟩ ⟨tAt (T x'),hAt (H x' ++ Fm x'),b,(T x').length⟩) (hF : hAt (Fm x') = hAt (E ++ G)) (hG : Shut lo hi S b G) (hap : ((H x' ++ E).all fun p=>ZmL lo hi p.1) = true)
  (run : QO (T x') fun t=>YC (H x' ++ E) fun h=>Zcz P tab b c t h b fun e t' h' b'=>okK (h'.all fun p=>ZmL lo hi p.1) (match e with
   | .normal=>NextG lo hi S O I μ x N b T H Fm G t' h'
   | .exit i=>K (.exit i) t' h' b'
   | .ret=>K .ret t' h' b')) : RoundG lo hi S O P tab N c b K I μ T H Fm x
section
variable {P : Program} {tab : Tab}
theorem Sub.drop {M0 : Nm} {t : Nat → V} {h g : Hp} {b n : Nat} : Sub M0 ⟨t,Y4 h g,b,n⟩ ⟨t,h,b,n⟩:=by
 intro F ids w a hr
 have hh:=hr.heap
 have hav : ∀ b,Ze F h ids b → Ze F (Y4 h g) ids b:=by
  rintro b (x | ⟨n,c,hn,hc,e⟩)
  · exact .inl x
  · exact .inr ⟨n,c,ZT hn,hc,e⟩
 refine ⟨ids,⟨⟨fun k b hk=>hh.lt k b (ZT hk),fun k b hk=>?_,fun k b hk=>hh.below k b (ZT hk),fun k m b c hk hm hb hc e=>hh.inj k m b c (ZT hk) (ZT hm) hb hc e,fun k b hk hb=>hh.out k b (ZT hk) hb,hh.fsz⟩,
  fun i=>(hr.tmps i).sub hav,hr.size,hr.out,hr.below,hr.defers⟩,⟨Goes.refl _ _,fun b _ x=>?_,fun n hn=>rfl⟩⟩
 · exact (hh.blk k b (ZT hk)).mono (Goes.refl _ _) (fun b _ x=>hav b x) (fun _ _=>rfl) (hh.below k b (ZT hk)) (fun _=>rfl)
 · obtain ⟨n,c,hn,hc,e⟩:=x
   exact ⟨n,c,ZT hn,hc,e⟩
theorem AWP.post {M0 : Nm} {c : Code} {Q Q' : Ex → St → Prop} {s : St} (h : AWP P M0 c Q s) (hq : ∀ x s,Q x s → ∃ s',Sub M0 s s' ∧ Q' x s') : AWP P M0 c Q' s:=by
 intro rd hrd dep F ids w a hr
 refine wpIn_mono (h rd hrd dep F ids w a hr) ?_
 rintro e a' w' ⟨x,s',ids',hx,hq',hr',hkp⟩
 obtain ⟨s2,hsub,hq2⟩:=hq x s' hq'
 obtain ⟨ids2,hr2,hk2⟩:=hsub F ids' w' a' hr'
 exact ⟨x,s2,ids2,hx,hq2,hr2,hkp.step hk2 rfl⟩
theorem ZuN (ht : Zk P tab) (hmix : P.follows .mixedOrders = true) {α : Type} {N : Nat} {c : Code} {t : List V} {h : List (Nat × B)} {b : Nat} {K : Ex → List V → List (Nat × B) → Nat → Prop}
 (lo hi : Nat) (S O ks kh : List Nat) (ch : α → List (Nat × V)) (hc Fm : α → List (Nat × B)) (I : α → Prop) (μ : α → Nat) (x : α) (hb : Nat.ble N b = true) (h0 : I x)
 (hs : Sub (Lt N) ⟨tAt t,hAt h,b,t.length⟩ ⟨tAt (YT (ch x) (YR 0 ks t)),hAt ((hc x ++ Qk kh h) ++ Fm x),b,(YT (ch x) (YR 0 ks t)).length⟩)
 (round : ∀ x,I x → RoundG lo hi S O P tab N c b K I μ (fun x=>YT (ch x) (YR 0 ks t)) (fun x=>hc x ++ Qk kh h) Fm x) : LoopB P tab N c t h b K:=by
 have hb:=Nat.le_of_ble_eq_true hb
 refine ⟨hb,?_⟩
 refine AWP.sub hs ?_
 refine Zbc (fun x=>⟨tAt (YT (ch x) (YR 0 ks t)),hAt ((hc x ++ Qk kh h) ++ Fm x),b,(YT (ch x) (YR 0 ks t)).length⟩) I μ (fun x hx=>?_) h0
 obtain ⟨x',E,G,hsx,hF,hG,hap,run⟩:=round x hx
 refine AWP.sub hsx ?_
 have hr:=Zt (Z9 run)
 have hap:=hG.apart hap
 have he : hAt ((hc x' ++ Qk kh h) ++ Fm x') = Y4 (hAt ((hc x' ++ Qk kh h) ++ E)) (hAt G):=by
  rw [Q4,hF,← Q4,← List.append_assoc,Q4]
 have hgf : ∀ k c,hAt G k = some c → k < b ∧ c.Below (Lt b):=fun k c hk=>hG.below (Z1 hk)
 have haw:=Qa ht hmix c _ _ b _ (Nat.le_refl b) hr
 rw [he]
 refine AWP.post (AWP.hide hap hgf hb haw ?_) ?_
 · rintro e s ⟨t',h',b',rfl,e1,hb',hk⟩
   exact ⟨hb',hG.apart (Zd hk).1⟩
 · rintro e s ⟨h1,hsh,⟨t',h',b',hse,e1,hb',hk⟩⟩
   have hst : s = ⟨tAt t',Y4 (hAt h') (hAt G),b',t'.length⟩:=by
    obtain ⟨st,sh,sb,sn⟩:=s
    simp only [St.mk.injEq] at hse
    obtain ⟨a1,a2,a3,a4⟩:=hse
    dsimp only at hsh
    subst a1 a2 a3 a4 hsh
    rfl
   subst hst
   obtain ⟨_,hk⟩:=Zd hk
   cases e with
   | normal=>
    rw [← Q4]
    obtain ⟨ρ,y,E',hI,hμ,hGy,hs⟩:=hk
    refine ⟨_,Sub.refl,y,hI,hμ,?_⟩
    have:=(Zon (b':=b') hs hG).1
    have he2 : hAt ((hc y ++ Qk kh h) ++ Fm y) = hAt (((hc y ++ Qk kh h) ++ E') ++ G):=by
     rw [Q4,hGy,← Q4,← List.append_assoc]
    rw [he2]
    exact this
   | exit i=>exact ⟨_,Sub.drop,t',h',b',rfl,by rw [e1,Yb,Ya],Nat.le_trans hb hb',hk⟩
   | ret=>exact ⟨_,Sub.drop,t',h',b',rfl,by rw [e1,Yb,Ya],Nat.le_trans hb hb',hk⟩
end
set_option linter.unusedVariables false
set_option linter.unusedSimpArgs false
def bs (eo lo k cur j : Nat) : Nat:=if j = cur then eo else lo + k * j
section
variable {eo lo k m cur t : Nat} (ho : eo + k ≤ lo) (hc : cur < m) (ht : t < m)
include ho in
end
section
variable {P : Program} {tab : Tab}
end
set_option linter.unusedVariables false
set_option linter.unusedSimpArgs false
theorem Zpm (c : B) : ZC (Yi []) c = c:=Zjl fun n _=>rfl
theorem ZdK {O : List Nat} {fr : Nat → Bool} {b : Nat} {K : Prop} : ∀ {H h : List (Nat × B)},(∀ p ∈ H,O.contains p.1 = true ∧ p.1 < b ∧ p.2.Below (Lt b) ∧ (hAt h p.1 = some p.2 ∨ p.2.real = false)) → K → Zf1 O (Yi []) fr b H h K
 | [],_,_,k=>k
 | p :: H,h,hp,k=>by
  obtain ⟨h1,h2,h3,h4⟩:=hp p (by simp)
  show (match O.contains p.1 with
   | true=>okK (Nat.blt p.1 b) (BO (Yi []) b p.2 (hAt h (Yi [] p.1)) (Zf1 O (Yi []) fr b H h K))
   | false=>ZfP (Yi []) fr b h p H (fun K=>Zf1 O (Yi []) fr b H h K) K)
  rw [h1]
  show okK (Nat.blt p.1 b) _
  rw [show Nat.blt p.1 b = true by rw [Nat.blt_eq];exact h2]
  rcases h4 with h4 | h4
  · exact .mk p.2 h4 (Zpm _).symm h3 (ZdK (fun q hq=>hp q (by simp [hq])) k)
  · exact .no h4 h3 (ZdK (fun q hq=>hp q (by simp [hq])) k)
theorem ZiB {N : Nat} {r : V} {H : List (Nat × B)} {v : V} {h : List (Nat × B)} (hH : ∀ p ∈ H,p.1 < N ∧ p.2.Below (Lt N)) (hnd : YJ (H.map fun p=>p.1) = true)
 (hv : ∀ K : Prop,K → Zn0 (Yi []) (ZdM (Yi []) H) h N r v K) (hl : Zth h H True) : RetLO (H.map fun p=>p.1) N N r H v h:=by
 refine ⟨[],?_⟩
 show okK (YJ (H.map fun p=>p.1)) _
 rw [hnd]
 obtain ⟨_,h3⟩:=Zf5 hl
 refine hv _ (ZdK (fun p hp=>⟨?_,(hH p hp).1,(hH p hp).2,(h3 p hp).imp id And.right⟩) True.intro)
 rw [List.contains_iff_mem]
 exact List.mem_map.2 ⟨p,hp,rfl⟩
section
variable {P : Program} {tab : Tab}
end
open Go.Proofs
section
variable {P : Program} {tab : Tab}
end
set_option linter.unusedVariables false
set_option linter.unusedSimpArgs false
section
variable {P : Program} {tab : Tab}
def Yp (P : Program) (ty : TypeId) (name : String) (g : FuncId) : Prop:=∀ (v : Value) (w : World),(method (P.types.size + Made.depth) ty v name).run P w = .ok (g,v) w
theorem Qr {ty : TypeId} {name : String} {g : FuncId} {el : TypeId} (h : (P.info? ty).map (fun i=>(i.methods.find? (·.name == name)).map fun m=>(m.path.toList,m.func)) = some (some ([],some (g,true)))) (hu : P.underlying ty = some (.pointer el)) : Yp P ty name g:=by
 intro v w
 obtain ⟨f,hf⟩ : ∃ f,P.types.size + Made.depth = f + 1:=by
  have h0 : 0 < Made.depth:=by decide
  exact ⟨P.types.size + Made.depth - 1,by omega⟩
 rw [hf]
 cases hi : P.info? ty with
 | none=>rw [hi] at h;cases h
 | some i=>
  rw [hi] at h
  simp only [Option.map_some,Option.some.injEq] at h
  cases hm : i.methods.find? (·.name == name) with
  | none=>rw [hm] at h;cases h
  | some m=>
   rw [hm] at h
   simp only [Option.map_some,Option.some.injEq,Prod.mk.injEq] at h
   obtain ⟨h1,h2⟩:=h
   simp [method,typeInfo,hi,hm,h1,h2,follow,receiverAt,underlying,hu,Place.get]
theorem ZjR {c : Call} {recv : Operand} {name : String} (hcal : c.callee = .invoke recv name) {e : Operand → V} {h : Hp} {M : Nm} {nm : Nat} {K : V → Hp → Prop} {ty : TypeId} {x : V} (hx : e recv = .ifc ty x) {g : FuncId} (hm : Yp P ty name g)
 (hk : ACall P g (x :: c.args.toList.map e) h M nm K) : AOp P (.call c) e h M nm K:=by
 intro F ids w a o ho hh hr hb next Q hn
 have hops : recv ∈ (Op.call c).operands.toList ∧ ∀ z ∈ c.args.toList,z ∈ (Op.call c).operands.toList:=by
  simp [Op.operands,Call.operands,hcal]
  exact fun z hz=>.inr hz
 have hxr:=hr recv hops.1
 rw [hx] at hxr
 generalize hq : a.eval recv = xv at hxr
 cases hxr with
 | ifc _ _ v hv=>
 have hvals : ∀ (i : Nat) (y : V) (u : Value),(x :: c.args.toList.map e)[i]? = some y → (#[v] ++ c.args.map a.eval)[i]? = some u → RepV (Ze F h ids) ids w y u:=by
  intro i y u hy hu
  cases i with
  | zero=>
   simp at hy
   subst hy
   rw [Array.getElem?_append_left (by simp)] at hu
   simp at hu
   subst hu;exact hv
  | succ i=>
   rw [List.getElem?_cons_succ,List.getElem?_map,Option.map_eq_some_iff] at hy
   obtain ⟨z,hz,rfl⟩:=hy
   rw [Array.getElem?_append_right (by simp),Array.getElem?_map] at hu
   simp only [List.size_toArray,List.length_cons,List.length_nil,Nat.add_sub_cancel] at hu
   rw [Array.getElem?_toList] at hz
   rw [hz] at hu
   cases hu
   exact hr z (hops.2 z (List.mem_of_getElem? (by rw [Array.getElem?_toList];exact hz)))
 have hpre : ∀ r,(callFunc g (#[v] ++ c.args.map a.eval)).run P w = r → (execOp a.eval o).run P w = r:=fun r hr=>by
  have hmv:=hm v w
  have e1 : (#[Value.iface ty v] ++ c.args.map a.eval)[0]? = some (.iface ty v):=by rw [Array.getElem?_append_left (by simp)];rfl
  have e2 : (#[Value.iface ty v] ++ c.args.map a.eval).extract 1 (#[Value.iface ty v] ++ c.args.map a.eval).size = c.args.map a.eval:=by
   apply Array.ext'
   simp [List.take_of_length_le]
  have e3 : (program).run P w = .ok P w:=rfl
  simp only [execOp,ho,resolve,hcal,hq,Sem.run_bind,Sem.run_pure,Result.andThen_ok,invoke,e1,e2,callMethod,e3,hmv,hr]
 unfold Oper.wp
 rcases hk F ids w (#[v] ++ c.args.map a.eval) hh (by simp;omega) hvals with ⟨c1,c2⟩ | ⟨u,r,h',ids',w',c1,hK,hc,hu,hbv⟩
 · rw [hpre _ c1,Oper.upon_enter]
   refine c2.mono ?_
   rintro e w' ⟨u,r,h',ids',rfl,hK,hc,hu,hbv⟩
   exact hn r h' ids' w' u hK hc hu hbv
 · rw [hpre _ c1]
   exact hn r h' ids' w' u hK hc hu hbv
theorem Yz {c : Call} {recv : Operand} {name : String} {t : List V} {h : List (Nat × B)} {b : Nat} {K : V → List (Nat × B) → Prop} (ty : TypeId) {x : V} {g : FuncId} (hm : Yp P ty name g) (hcal : c.callee = .invoke recv name) (hx : evS (tAt t) recv = .ifc ty x)
 (k : CallB P g (x :: c.args.toList.map (evS (tAt t))) h b K) : OpB P (.call c) t h b K:=by
 obtain ⟨run⟩:=k
 exact ⟨ZjR hcal hx hm run⟩
end
set_option linter.unusedVariables false
set_option linter.unusedSimpArgs false
section
variable {P : Program} {tab : Tab}
theorem ZiO {A : Nat → Prop} {ids : Nat → Nat × Nat} {w : World} {x : V} {u : Value} (h : RepV A ids w x u) (b : Bool) : RepV A ids w (.tup [x,.c (.bool b)]) (.tuple #[u,.bool b]):=by
 refine .tup _ _ rfl fun i y v hy hv=>?_
 match i with
 | 0=>simp at hy hv;subst hy hv;exact h
 | 1=>simp at hy hv;subst hy hv;exact .c _
 | n + 2=>simp at hy
theorem Zfi {m : Nm} {x : V} (h : x.Below m) (b : Bool) : (V.tup [x,.c (.bool b)]).Below m:=.tup _ fun y hy=>by
 simp only [List.mem_cons,List.not_mem_nil,or_false] at hy
 rcases hy with rfl | rfl
 · exact h
 · exact .c _
theorem ZjB (ht : Zk P tab) {M : Nm} {nm : Nat} {ty kt et : TypeId} {kk : IntKind} {z : Value} {x ix : Operand} {e : Operand → V} {h : Hp} {K : V → Hp → Prop} (hty : (tab ty).map Ty.kind = some (.map kt et)) (hkt : (tab kt).map Ty.kind = some (.int kk))
 (hz : (P.info? et).bind (fun i=>i.zero) = some z) {n : Nat} {es : List (Value × V)} {k : IntKind} {i : Int} (hx : e x = .mp n) (hn : h n = some (.map es)) (hks : ZcJ k es) (hi : e ix = .c (.int k i))
 (hK : K (match Ys i es 0 with | some p=>.tup [p.2,.c (.bool true)] | none=>.tup [cV z,.c (.bool false)]) h) : AOp P (.lookup ty x ix true) e h M nm K:=by
 refine AOp.ok fun F ids w a o ho hh h1 h2=>⟨_,_,hK,?_⟩
 have ei : a.eval ix = .int k i:=by have:=h1 ix (by simp [Op.operands]);rw [hi] at this;exact Zcx this
 have rx:=h1 x (by simp [Op.operands])
 rw [hx] at rx
 have ex : a.eval x = .map (some (ids n).1):=by
  generalize a.eval x = q at rx
  cases rx;rfl
 obtain ⟨ar,clk,g1,g2,g3⟩:=hh.map hn
 have um:=Zi4 ht hty
 have uk:=Zhr ht hkt
 have hzr : (zeroValue et).run P w = .ok z w:=by
  rw [Option.bind_eq_some_iff] at hz
  obtain ⟨i,q1,q2⟩:=hz
  simp [zeroValue,Go.typeInfo,q1,q2]
 have hf:=Zeo (kk:=kk) (n:=i) es ar.toList 0 hks (by simpa using g2) (fun i e m he hm=>g3 i e m he (by simpa using hm))
 revert hf
 cases hm : Ys i es 0 with
 | none=>
  rintro ⟨q1,-⟩
  have hfk:=ZaD uk q1 w
  exact OpOk.still (val:=.tuple #[z,.bool false]) hh (Nm.le_add _ _) (by simp [execOp,ho,Instr.lookup,run_underlying um,ex,ei,Zbm g1,QV uk,hfk,hzr]) (ZiO (ZpR _ _ _ _) _) (Zfi (Zi6 _ _) _)
 | some p=>
  obtain ⟨j,v⟩:=p
  rintro ⟨u,q1,q2,-,q3,q4,-⟩
  have hfk:=ZaD uk q1 w
  refine OpOk.still (val:=.tuple #[u,.bool true]) hh (Nm.le_add _ _) (by simp [execOp,ho,Instr.lookup,run_underlying um,ex,ei,Zbm g1,QV uk,hfk]) (ZiO q2 _) (Zfi ?_ _)
  exact Zcq hm (fun e he=>hh.below n _ hn e he)
theorem Zf9 (ht : Zk P tab) {ty kt et : TypeId} {kk : IntKind} {z : Value} {x ix : Operand} {t : List V} {h : List (Nat × B)} {b : Nat} {K : V → List (Nat × B) → Prop} (hty : (tab ty).map Ty.kind = some (.map kt et)) (hkt : (tab kt).map Ty.kind = some (.int kk))
 (hz : (P.info? et).bind (fun i=>i.zero) = some z) {n : Nat} {es : List (Value × V)} {k : IntKind} {i : Int} (hx : evS (tAt t) x = .mp n) (hi : evS (tAt t) ix = .c (.int k i)) (hn : hAt h n = some (.map es)) (hks : ZcJ k es)
 (v : V) (hv : (match Ys i es 0 with | some p=>.tup [p.2,.c (.bool true)] | none=>.tup [cV z,.c (.bool false)]) = v) (k : K v h) : OpB P (.lookup ty x ix true) t h b K:=
 ⟨ZjB ht (K:=fun v h'=>∃ l,h' = hAt l ∧ K v l) hty hkt hz hx hn hks hi ⟨h,rfl,by rw [hv];exact k⟩⟩
theorem Zga (ht : Zk P tab) {M : Nm} {nm : Nat} {ty kt et : TypeId} {kk : IntKind} {x ix y : Operand} {e : Operand → V} {h : Hp} {K : V → Hp → Prop} (hty : (tab ty).map Ty.kind = some (.map kt et)) (hkt : (tab kt).map Ty.kind = some (.int kk))
 {n : Nat} {es : List (Value × V)} {k : IntKind} {i : Int} (hx : e x = .mp n) (hn : h n = some (.map es)) (hks : ZcJ k es) (hi : e ix = .c (.int k i))
 (hK : K .un (upd h n (some (.map (Zex k i (e y) es))))) : AOp P (.insert ty x ix y) e h M nm K:=by
 refine AOp.ok fun F ids w a o ho hh h1 h2=>⟨_,_,hK,?_⟩
 have ei : a.eval ix = .int k i:=by have:=h1 ix (by simp [Op.operands]);rw [hi] at this;exact Zcx this
 have rx:=h1 x (by simp [Op.operands])
 have ry:=h1 y (by simp [Op.operands])
 have by':=h2 y (by simp [Op.operands])
 rw [hx] at rx
 have ex : a.eval x = .map (some (ids n).1):=by
  generalize a.eval x = q at rx
  cases rx;rfl
 obtain ⟨ar,clk,g1,g2,g3⟩:=hh.map hn
 have um:=Zi4 ht hty
 have uk:=Zhr ht hkt
 have hlt : (ids n).1 < w.heap.size:=(Array.getElem?_eq_some_iff.1 g1).1
 have hf:=Zeo (kk:=kk) (n:=i) es ar.toList 0 hks (by simpa using g2) (fun i e m he hm=>g3 i e m he (by simpa using hm))
 have hbel:=hh.below n _ hn
 revert hf
 cases hm : Ys i es 0 with
 | none=>
  rintro ⟨q1,q2⟩
  have hfk:=ZaD uk q1 w
  rw [q2]
  have hchg:=Zm2 hh hn (es':=es ++ [(Value.int k i,e y)]) (ar':=ar.push { key:=.int k i,val:=a.eval y,born:=clk }) (c':=clk + 1) g1 (by simp [g2]) (fun e he=>by
   rcases List.mem_append.1 he with he | he
   · exact hbel e he
   · cases List.mem_singleton.1 he;exact by') (fun j e m he hm=>by
   by_cases hj : j < es.length
   · rw [List.getElem?_append_left hj] at he
     rw [Array.getElem?_push,if_neg (by omega)] at hm
     exact g3 j e m he hm
   · have hje : j = es.length:=by
      have:=(List.getElem?_eq_some_iff.1 he).1
      simp at this;omega
     subst hje
     rw [List.getElem?_append_right (Nat.le_refl _),Nat.sub_self] at he
     rw [Array.getElem?_push,if_pos g2.symm] at hm
     cases he;cases hm
     exact ⟨rfl,ry⟩)
  refine ⟨undef,_,ids,.inr ⟨?_,rfl⟩,hchg.trans (Chg.skip hchg.heap (Nm.le_add _ _)),.un _,.un⟩
  simp [execOp,ho,Instr.mapUpdate,run_underlying um,ex,ei,Zbm g1,QV uk,hfk,ZeY _ g1]
 | some p=>
  obtain ⟨j,v⟩:=p
  rintro ⟨u,q1,q2,q0,q3,q4,q5⟩
  have hfk:=ZaD uk q1 w
  rw [Nat.sub_zero] at q3 q4 q5
  rw [q5]
  have hjs : j < ar.size:=by omega
  have hkj : ar[j].key = .int k i:=by
   rw [List.getElem?_eq_getElem q3] at q4
   have:=(g3 j es[j] ar[j] (by simp [q3]) (by simp [hjs])).1
   rw [this];simpa using q4
  have hchg:=Zm2 hh hn (es':=es.set j (Value.int k i,e y)) (ar':=ar.modify j fun e=>{ e with key:=.int k i,val:=a.eval y }) (c':=clk) g1 (by simp [g2]) (fun e he=>by
   rcases List.mem_or_eq_of_mem_set he with he | rfl
   · exact hbel e he
   · exact by') (fun l e m he hm=>by
   by_cases hj : l = j
   · subst hj
     rw [List.getElem?_set_self q3] at he
     rw [Array.getElem?_modify,if_pos rfl] at hm
     cases he
     rw [Option.map_eq_some_iff] at hm
     obtain ⟨m0,_,rfl⟩:=hm
     exact ⟨rfl,ry⟩
   · rw [List.getElem?_set_ne (Ne.symm hj)] at he
     rw [Array.getElem?_modify,if_neg (Ne.symm hj)] at hm
     exact g3 l e m he hm)
  refine ⟨undef,_,ids,.inr ⟨?_,rfl⟩,hchg.trans (Chg.skip hchg.heap (Nm.le_add _ _)),.un _,.un⟩
  have hst : ∀ w,(Instr.keyThatStays (.int k i) (.int k i)).run P w = .ok (.int k i) w:=fun w=>by
   simp [Instr.keyThatStays,Instr.sameBits]
  simp [execOp,ho,Instr.mapUpdate,run_underlying um,ex,ei,Zbm g1,QV uk,hfk,ZeY _ g1,hjs,hkj,hst]
theorem Qm (ht : Zk P tab) {ty kt et : TypeId} {kk : IntKind} {x ix y : Operand} {t : List V} {h : List (Nat × B)} {b : Nat} {K : V → List (Nat × B) → Prop} (hty : (tab ty).map Ty.kind = some (.map kt et)) (hkt : (tab kt).map Ty.kind = some (.int kk))
 {n : Nat} {es : List (Value × V)} {k : IntKind} {i : Int} (hx : evS (tAt t) x = .mp n) (hi : evS (tAt t) ix = .c (.int k i)) (hn : hAt h n = some (.map es)) (hks : ZcJ k es)
 (v : V) (hv : evS (tAt t) y = v) (es' : List (Value × V)) (he : Zex k i v es = es') (kk' : Zc2 h n (.map es') fun h=>K .un h) : OpB P (.insert ty x ix y) t h b K:=by
 obtain ⟨l',hk,e⟩:=ZX kk'
 exact ⟨Zga ht (K:=fun v h'=>∃ l,h' = hAt l ∧ K v l) hty hkt hx hn hks hi ⟨l',by rw [hv,he];exact e.symm,hk⟩⟩
end
end Go.Proofs.YtdjnjchpgccbiaaGreat.Abs
