/- The abstract machine, part 32: calls, loops and returns that do not look into the blocks that they are told to leave shut. -/
import Derived.Test.YtcffiehcdadimaaGreatC16
namespace Go.Proofs.YtcffiehcdadimaaGreat.Abs
set_option linter.unusedVariables false
set_option linter.unusedSimpArgs false
def lieCons (h : List (Nat × B)) (p : Nat × B) (ih : Prop → Prop) : Prop → Prop:=fun K=>match hAt h p.1 with
 | some b=>CB (b = p.2) (ih K)
 | none=>okK (!p.2.real) (ih K)
noncomputable def lieK (h : List (Nat × B)) (A : List (Nat × B)) : Prop → Prop:=List.rec (motive:=fun _=>Prop → Prop) (fun K=>K) (fun p _ ih=>lieCons h p ih) A
theorem lieK_of {h : List (Nat × B)} : ∀ {A : List (Nat × B)} {K : Prop},lieK h A K → K ∧ ∀ p ∈ A,hAt h p.1 = some p.2 ∨ (hAt h p.1 = none ∧ p.2.real = false)
 | [],K,hk=>⟨hk,by simp⟩
 | p :: A,K,hk=>by
  have hk : (match hAt h p.1 with
   | some b=>CB (b = p.2) (lieK h A K)
   | none=>okK (!p.2.real) (lieK h A K)):=hk
  split at hk
  · next b hb=>
    obtain ⟨e,hk⟩:=hk
    obtain ⟨h1,h2⟩:=lieK_of hk
    refine ⟨h1,fun q hq=>?_⟩
    rcases List.mem_cons.1 hq with rfl | hq
    · exact .inl (by rw [hb,e])
    · exact h2 q hq
  · next hb=>
    obtain ⟨e,hk⟩:=okK_of hk
    obtain ⟨h1,h2⟩:=lieK_of hk
    refine ⟨h1,fun q hq=>?_⟩
    rcases List.mem_cons.1 hq with rfl | hq
    · exact .inr ⟨hb,by simpa using e⟩
    · exact h2 q hq
def effOCons (p : Nat × Option B) (u : List (Nat × Option B)) (ih : EffT) : EffT:=fun h K=>
 natK p.1 fun n=>match p.2 with
  | none=>hDel h n fun h=>ih h K
  | some b=>hSet h n b fun h=>ih h K
noncomputable def effO (u : List (Nat × Option B)) : EffT:=List.rec (motive:=fun _=>EffT) effNil effOCons u
theorem effO_of : ∀ {u : List (Nat × Option B)} {h : List (Nat × B)} {K : List (Nat × B) → Prop},effO u h K → ∃ l,K l ∧ hAt l = appU (hAt h) u
 | [],h,K,hk=>⟨h,hk,rfl⟩
 | (n,none) :: u,h,K,hk=>by
  obtain ⟨h',h1,h2⟩:=hDel_of (natK_of (K:=fun n=>hDel h n fun h=>effO u h K) hk)
  obtain ⟨l,h3,h4⟩:=effO_of h1
  exact ⟨l,h3,by rw [h4,h2];rfl⟩
 | (n,some b) :: u,h,K,hk=>by
  obtain ⟨h',h1,h2⟩:=hSet_of (natK_of (K:=fun n=>hSet h n b fun h=>effO u h K) hk)
  obtain ⟨l,h3,h4⟩:=effO_of h1
  exact ⟨l,h3,by rw [h4,h2];rfl⟩
def effA (Z : List Nat) (A A' : List (Nat × B)) : List (Nat × Option B):=(Z ++ A.map fun p=>p.1).map (fun z=>(z,none)) ++ A'.map fun p=>(p.1,some p.2)
noncomputable def ocallK (args : List V) (N : Nat) (v : V) (A A' : List (Nat × B)) (N' : Nat) (xs : List V) (h : List (Nat × B)) (nm : Nat) (L : List (Option Nat)) (Z : List Nat) (K : V → List (Nat × B) → Dyn → Prop) : Prop:=
 natsK (A.map fun p=>p.1) fun a=>natsK (A'.map fun p=>p.1) fun a'=>
 okK (Nat.beq L.length N) (okK (Nat.ble N 32) (okK (Nat.ble N' (N + 32)) (okK (L.all fun o=>match o with
  | some x=>(a.contains x && (Nat.blt x nm && (hAt h x).isSome)) || (namesOf xs).contains x
  | none=>true) (okK (noTwice a) (okK (noTwice a') (okK (a.all fun n=>!Z.contains n) (okK (A.all fun p=>Nat.blt p.1 nm || !p.2.real) (okK (((a ++ a').filter fun n=>Nat.ble nm n).all fun n=>Nat.blt n (nm + 64))
 (passT (sgm L nm 0) N Z h args xs (lieK h A (effO (effA Z A A') h fun l=>listK (Z ++ (a ++ a').filter fun n=>Nat.blt n nm) fun hw=>listK ((a ++ a').filter fun n=>Nat.ble nm n) fun nw=>K v l ⟨[],hw,nw,false⟩)))))))))))
section
variable {P : Program} {tab : Tab}
theorem ocallK_of {f : FuncId} {args : List V} {H : List (Nat × B)} {r : V} {H' : List (Nat × B)} {N N' : Nat} (hs : LSpec P f args H N r H' N') {xs : List V} {h : List (Nat × B)} {nm : Nat} {L : List (Option Nat)} {Z : List Nat} {K : V → List (Nat × B) → Dyn → Prop}
 {A A' : List (Nat × B)} {v : V} (hA : (H.map fun p=>(sgm L nm 0 p.1,renB (sgm L nm 0) p.2)) = A) (hA' : (H'.map fun p=>(sgm L nm 0 p.1,renB (sgm L nm 0) p.2)) = A') (hv : renV (sgm L nm 0) r = v)
 (hk : ocallK args N v A A' N' xs h nm L Z K) : ∃ nw l,LCall P f xs ⟨[],Z ++ ((A.map fun p=>p.1) ++ A'.map fun p=>p.1).filter (fun n=>Nat.blt n nm),nw,false⟩ nm (effA Z A A') v (hAt h) ∧ hAt l = appU (hAt h) (effA Z A A') ∧
  K v l ⟨[],Z ++ ((A.map fun p=>p.1) ++ A'.map fun p=>p.1).filter (fun n=>Nat.blt n nm),nw,false⟩:=by
 replace hk:=natsK_of (natsK_of (K:=fun A=>natsK _ fun A'=>_) hk)
 subst hA hA' hv
 have e1 : ((H.map fun p=>(sgm L nm 0 p.1,renB (sgm L nm 0) p.2)).map fun p=>p.1) = H.map fun p=>sgm L nm 0 p.1:=by rw [List.map_map];rfl
 have e2 : ((H'.map fun p=>(sgm L nm 0 p.1,renB (sgm L nm 0) p.2)).map fun p=>p.1) = H'.map fun p=>sgm L nm 0 p.1:=by rw [List.map_map];rfl
 have e3 : effA Z (H.map fun p=>(sgm L nm 0 p.1,renB (sgm L nm 0) p.2)) (H'.map fun p=>(sgm L nm 0 p.1,renB (sgm L nm 0) p.2)) = effOf (sgm L nm 0) Z H H':=by
  unfold effA effOf
  rw [e1,List.map_map];rfl
 rw [e1,e2] at hk ⊢
 rw [e3] at hk ⊢
 generalize hσ : sgm L nm 0 = σ at *
 obtain ⟨g1,hk⟩:=okK_of hk
 obtain ⟨g2,hk⟩:=okK_of hk
 obtain ⟨g3,hk⟩:=okK_of hk
 obtain ⟨g4,hk⟩:=okK_of hk
 obtain ⟨g5,hk⟩:=okK_of hk
 obtain ⟨g6,hk⟩:=okK_of hk
 obtain ⟨g7,hk⟩:=okK_of hk
 obtain ⟨g7',hk⟩:=okK_of hk
 obtain ⟨g8,hk⟩:=okK_of hk
 obtain ⟨hk,g9,g10⟩:=passT_of hk
 obtain ⟨hk,g11⟩:=lieK_of hk
 obtain ⟨l,hk,g12⟩:=effO_of hk
 replace hk:=listK_of (listK_of hk)
 refine ⟨_,l,⟨?_,?_,?_⟩,g12,hk⟩
 · intro n hn
   simp only [namesU,effOf,List.map_append,List.map_map,List.mem_append,List.mem_map,Function.comp] at hn
   simp only [List.mem_append,List.mem_filter,List.mem_map,Nat.blt_eq,Nat.ble_eq]
   by_cases hlt : n < nm
   · rcases hn with (⟨z,hz,rfl⟩ | ⟨p,hp,rfl⟩) | ⟨p,hp,rfl⟩
     · exact .inl (.inl hz)
     · exact .inl (.inr ⟨.inl ⟨p,hp,rfl⟩,hlt⟩)
     · exact .inl (.inr ⟨.inr ⟨p,hp,rfl⟩,hlt⟩)
   · rcases hn with (⟨z,hz,rfl⟩ | ⟨p,hp,rfl⟩) | ⟨p,hp,rfl⟩
     · exact .inl (.inl hz)
     · exact .inr ⟨.inl ⟨p,hp,rfl⟩,by omega⟩
     · exact .inr ⟨.inr ⟨p,hp,rfl⟩,by omega⟩
 · intro n hn
   have h1:=List.all_eq_true.1 g8 n hn
   rw [List.mem_filter] at hn
   exact ⟨Nat.le_of_ble_eq_true hn.2,by simpa using h1⟩
 · intro h2 he M hfresh hbel
   have eZ : ∀ n ∈ Z,h2 n = hAt h n:=fun n hn=>he n (.inr (by simp [hn]))
   have hin : ∀ p ∈ H,h2 (σ p.1) = some (renB σ p.2) ∨ p.2.real = false:=fun p hp=>by
    have h0:=List.all_eq_true.1 g7' (σ p.1,renB σ p.2) (List.mem_map.2 ⟨p,hp,rfl⟩)
    rw [Bool.or_eq_true] at h0
    rcases h0 with h0 | h0
    · have h1 : h2 (σ p.1) = hAt h (σ p.1):=he _ (.inr (List.mem_append_right _ (List.mem_filter.2 ⟨List.mem_append_left _ (List.mem_map.2 ⟨p,hp,rfl⟩),h0⟩)))
      rw [h1]
      rcases g11 (σ p.1,renB σ p.2) (List.mem_map.2 ⟨p,hp,rfl⟩) with h3 | h3
      · exact .inl h3
      · right
        have:=h3.2
        rwa [renB_real] at this
    · right
      simpa [renB_real] using h0
   have hH : ∀ p ∈ H,((∃ b',h2 (σ p.1) = some b' ∧ WkB h2 (fun n=>n ∉ Z) σ p.2 b') ∨ p.2.real = false) ∧ σ p.1 ∉ Z:=fun p hp=>
    ⟨(hin p hp).imp (fun e=>⟨_,e,WkB.ren σ p.2⟩) id,by simpa using List.all_eq_true.1 g7 _ (List.mem_map.2 ⟨p,hp,rfl⟩)⟩
   subst hσ
   intro F ids w vals hh hsz hv
   refine LSpec.run hs L Z hfresh (Nat.eq_of_beq_eq_true g1) ?_ (Nat.le_of_ble_eq_true g2) (Nat.le_of_ble_eq_true g3) g9 ?_ hH (noTwice_nodup g5) (noTwice_nodup g6) F ids w vals hh hsz hv
   · intro x hx
     have h1:=List.all_eq_true.1 g4 (some x) hx
     dsimp only at h1
     rw [Bool.or_eq_true] at h1
     rcases h1 with h1 | h1
     · rw [Bool.and_eq_true,Bool.and_eq_true] at h1
       obtain ⟨h1,h3,h4⟩:=h1
       have h1 : x ∈ H.map fun p=>sgm L nm 0 p.1:=by simpa using h1
       obtain ⟨b',hb'⟩:=Option.isSome_iff_exists.1 h4
       have h5 : h2 x = hAt h x:=he _ (.inr (List.mem_append_right _ (List.mem_filter.2 ⟨List.mem_append_left _ h1,h3⟩)))
       exact hh.lt x b' (by rw [h5,hb'])
     · obtain ⟨y,hy,hn⟩:=mem_namesOf.1 (by simpa using h1)
       exact Below_name (hbel y hy) x hn
   · exact g10 h2 eZ
theorem callO {f : FuncId} {args : List V} {H : List (Nat × B)} {r : V} {H' : List (Nat × B)} {N N' : Nat} {xs : List V} {h : List (Nat × B)} {nm : Nat} {K : V → List (Nat × B) → Prop} (hs : LSpec P f args H N r H' N') (L : List (Option Nat)) (Z : List Nat)
 (A A' : List (Nat × B)) (v : V) (hA : (H.map fun p=>(sgm L nm 0 p.1,renB (sgm L nm 0) p.2)) = A) (hA' : (H'.map fun p=>(sgm L nm 0 p.1,renB (sgm L nm 0) p.2)) = A') (hv : renV (sgm L nm 0) r = v)
 (hb : ltAll nm (namesOf xs) = true) (hk : ocallK args N v A A' N' xs h nm L Z fun v l d=>K v l) : CallB P f xs h nm K:=by
 obtain ⟨nw,l,h2,h3,h4⟩:=ocallK_of hs hA hA' hv hk
 refine ⟨ACall.mono (h2.run _ (fun _ _=>rfl) (Lt nm) (fun k k1 k2 k3=>?_) (all_belows hb)) ?_⟩
 · exact absurd k3 (Nat.not_lt.2 k1)
 · rintro v h' ⟨rfl,rfl⟩
   exact ⟨l,h3.symm,h4⟩
theorem dcallRO {f : FuncId} {args : List V} {H : List (Nat × B)} {r : V} {N : Nat} {xs : List V} {h : List (Nat × B)} {nm : Nat} {K : V → List (Nat × B) → Dyn → Prop} (hs : LSpec P f args H N r H N) (L : List (Option Nat))
 (A : List (Nat × B)) (v : V) (hA : (H.map fun p=>(sgm L nm 0 p.1,renB (sgm L nm 0) p.2)) = A) (hv : renV (sgm L nm 0) r = v)
 (hk : okK (A.all fun p=>(hAt h p.1).isSome && Nat.blt p.1 nm) (ocallK args N v A A N xs h nm L [] fun v _ d=>listK d.hw fun hw=>K v h ⟨hw,[],[],false⟩)) : DCallB P f xs h nm K:=by
 obtain ⟨gS,hk⟩:=okK_of hk
 have hk0:=natsK_of (natsK_of (K:=fun A=>natsK _ fun A'=>_) hk)
 obtain ⟨_,hk0⟩:=okK_of hk0
 obtain ⟨_,hk0⟩:=okK_of hk0
 obtain ⟨_,hk0⟩:=okK_of hk0
 obtain ⟨_,hk0⟩:=okK_of hk0
 obtain ⟨_,hk0⟩:=okK_of hk0
 obtain ⟨_,hk0⟩:=okK_of hk0
 obtain ⟨_,hk0⟩:=okK_of hk0
 obtain ⟨g7,hk0⟩:=okK_of hk0
 obtain ⟨_,hk0⟩:=okK_of hk0
 obtain ⟨hk0,_,_⟩:=passT_of hk0
 obtain ⟨_,g11⟩:=lieK_of hk0
 replace g11 : ∀ p ∈ A,hAt h p.1 = some p.2:=fun p hp=>(g11 p hp).resolve_right fun e=>by
  have:=List.all_eq_true.1 gS p hp
  rw [e.1] at this
  simp at this
 replace g7 : ∀ p ∈ A,Nat.blt p.1 nm = true:=fun p hp=>by
  have:=List.all_eq_true.1 gS p hp
  rw [Bool.and_eq_true] at this
  exact this.2
 clear hk0
 obtain ⟨nw,l,hc,_,hk⟩:=ocallK_of hs hA hA hv hk
 have hk:=listK_of hk
 refine ⟨_,_,[],h,rfl,⟨by simp [namesU],by simp,fun h2 hag M hf hb=>?_⟩,rfl,hk⟩
 refine (hc.run h2 (fun n hn=>hag n (.inl (by rcases hn with hn | hn;cases hn;exact hn))) M hf hb).mono ?_
 rintro v h' ⟨rfl,rfl⟩
 refine ⟨rfl,?_⟩
 subst hA
 have e3 : effA [] (H.map fun p=>(sgm L nm 0 p.1,renB (sgm L nm 0) p.2)) (H.map fun p=>(sgm L nm 0 p.1,renB (sgm L nm 0) p.2)) = effOf (sgm L nm 0) [] H H:=by
  unfold effA effOf
  rw [List.map_map,List.map_map];rfl
 rw [e3]
 refine effOf_same fun p hp=>?_
 have hm : (sgm L nm 0 p.1,renB (sgm L nm 0) p.2) ∈ H.map fun p=>(sgm L nm 0 p.1,renB (sgm L nm 0) p.2):=List.mem_map.2 ⟨p,hp,rfl⟩
 have h1:=g11 _ hm
 have h2 : Nat.blt (sgm L nm 0 p.1) nm = true:=g7 _ hm
 rw [hag _ (.inl (List.mem_append_right _ (List.mem_filter.2 ⟨List.mem_append_left _ (List.mem_map.2 ⟨_,hm,rfl⟩),h2⟩)))]
 exact h1
inductive BO (ρ : Nat → Nat) (b : Nat) (x : B) (o : Option B) (K : Prop) : Prop
 | mk (x' : B) (ho : o = some x') (h : x' = renB ρ x) (hb : x.Below (Lt b)) (k : K)
 | no (h : x.real = false) (hb : x.Below (Lt b)) (k : K)
noncomputable def subHOCons (O : List Nat) (ρ : Nat → Nat) (fr : Nat → Bool) (b : Nat) (h : List (Nat × B)) (p : Nat × B) (H : List (Nat × B)) (ih : Prop → Prop) : Prop → Prop:=fun K=>
 match O.contains p.1 with
 | true=>okK (Nat.blt p.1 b) (BO ρ b p.2 (hAt h (ρ p.1)) (ih K))
 | false=>subHCons ρ fr b h p H ih K
noncomputable def subHO (O : List Nat) (ρ : Nat → Nat) (fr : Nat → Bool) (b : Nat) (H h : List (Nat × B)) : Prop → Prop:=List.rec (motive:=fun _=>Prop → Prop) subHNil (subHOCons O ρ fr b h) H
theorem subHO_of {O : List Nat} {ρ : Nat → Nat} {fr : Nat → Bool} {b : Nat} : ∀ {H h : List (Nat × B)} {K : Prop},subHO O ρ fr b H h K → K ∧ ∀ p ∈ H,p.1 < b ∧ p.2.Below (Lt b) ∧ ((∃ b',hAt h (ρ p.1) = some b' ∧ WeakB fr h ρ p.2 b') ∨ p.2.real = false)
 | [],h,K,hk=>⟨hk,by simp⟩
 | p :: H,h,K,hk=>by
  have hk : (match O.contains p.1 with
   | true=>okK (Nat.blt p.1 b) (BO ρ b p.2 (hAt h (ρ p.1)) (subHO O ρ fr b H h K))
   | false=>subH ρ fr b [p] h (subHO O ρ fr b H h K)):=hk
  split at hk
  · obtain ⟨e1,hk⟩:=okK_of hk
    have e1 : p.1 < b:=by simpa [Nat.blt_eq] using e1
    cases hk with
    | mk x' ho h1 hb k=>
     obtain ⟨g1,g2⟩:=subHO_of k
     refine ⟨g1,fun q hq=>?_⟩
     rcases List.mem_cons.1 hq with rfl | hq
     · exact ⟨e1,hb,.inl ⟨x',ho,fun _ _=>by rw [h1];exact WkB.ren ρ _⟩⟩
     · exact g2 q hq
    | no h1 hb k=>
     obtain ⟨g1,g2⟩:=subHO_of k
     refine ⟨g1,fun q hq=>?_⟩
     rcases List.mem_cons.1 hq with rfl | hq
     · exact ⟨e1,hb,.inr h1⟩
     · exact g2 q hq
  · obtain ⟨k,h1⟩:=subH_of hk
    obtain ⟨g1,g2⟩:=subHO_of k
    refine ⟨g1,fun q hq=>?_⟩
    rcases List.mem_cons.1 hq with rfl | hq
    · exact h1 q (by simp)
    · exact g2 q hq
noncomputable def subKO (O : List Nat) (ρ : List (Nat × Nat)) (N b : Nat) (T : List V) (H : List (Nat × B)) (t : List V) (h : List (Nat × B)) : Prop:=
 okK (ρ.all fun p=>Nat.ble N p.1) (okK (noTwice (H.map fun p=>ren1 ρ p.1)) (subT (ren1 ρ) (frOf (ren1 ρ) H) h b T t (subHO O (ren1 ρ) (frOf (ren1 ρ) H) b H h True)))
theorem subKO_of {O : List Nat} {ρ : List (Nat × Nat)} {N b b' : Nat} {T t : List V} {H h : List (Nat × B)} (hk : subKO O ρ N b T H t h) : Sub (Lt N) ⟨tAt t,hAt h,b',t.length⟩ ⟨tAt T,hAt H,b,T.length⟩ ∧ T.length = t.length:=by
 obtain ⟨e1,hk⟩:=okK_of hk
 obtain ⟨e2,hk⟩:=okK_of hk
 obtain ⟨hk,hlen,hT⟩:=subT_of hk
 obtain ⟨_,hH⟩:=subHO_of hk
 refine ⟨?_,hlen⟩
 have hren : Ren (ren1 ρ) (hAt h) (hAt H) (Lt b):=subH_ren (noTwice_nodup e2) hH
 intro F ids w a hr
 refine ⟨fun n=>ids (ren1 ρ n),⟨hren.heap hr.heap,fun i=>?_,by rw [hlen];exact hr.size,fun i hi=>?_,fun i=>(hT i).1,hr.defers⟩,⟨Goes.refl _ _,fun b _ x=>?_,fun n hn=>by rw [ren1_id e1 hn]⟩⟩
 · exact (hT i).2.rep hren hr.heap (hr.tmps i)
 · show tAt T i = .un
   rw [tAt_get,List.getElem?_eq_none hi];rfl
 · obtain ⟨n,c,hn,hcr,hb⟩:=x
   obtain ⟨b',h1,h2,_⟩:=hren.real hn hcr
   exact ⟨ren1 ρ n,_,h1,h2,hb⟩
inductive NextO {α : Type} (O : List Nat) (I : α → Prop) (μ : α → Nat) (x : α) (N b : Nat) (T : α → List V) (H : α → List (Nat × B)) (t : List V) (h : List (Nat × B)) : Prop
 | mk (ρ : List (Nat × Nat)) (y : α) (hI : I y) (hμ : μ y < μ x) (hs : subKO O ρ N b (T y) (H y) t h) : NextO O I μ x N b T H t h
noncomputable def roundO {α : Type} (O : List Nat) (P : Program) (tab : Tab) (N : Nat) (c : Code) (b : Nat) (K : Ex → List V → List (Nat × B) → Nat → Prop) (I : α → Prop) (μ : α → Nat) (T : α → List V) (H : α → List (Nat × B)) (x : α) : Prop:=
 headsK (T x) fun t=>listK (H x) fun h=>codeK P tab N c t h b fun e t' h' b'=>match e with
  | .normal=>NextO O I μ x N b T H t' h'
  | .exit i=>K (.exit i) t' h' b'
  | .ret=>K .ret t' h' b'
theorem loopO (ht : TabOk P tab) (hmix : P.follows .mixedOrders = true) {α : Type} {N : Nat} {c : Code} {t : List V} {h : List (Nat × B)} {b : Nat} {K : Ex → List V → List (Nat × B) → Nat → Prop}
 (O : List Nat) (ks : List Nat) (kh : List Nat) (ch : α → List (Nat × V)) (hc : α → List (Nat × B)) (I : α → Prop) (μ : α → Nat) (ρ : List (Nat × Nat)) (x : α) (hb : Nat.ble N b = true) (h0 : I x)
 (hs : subKO O ρ N b (putsT (ch x) (keepT 0 ks t)) (hc x ++ keepH kh h) t h)
 (round : ∀ x,I x → roundO O P tab N c b K I μ (fun x=>putsT (ch x) (keepT 0 ks t)) (fun x=>hc x ++ keepH kh h) x) : LoopB P tab N c t h b K:=by
 have hb:=Nat.le_of_ble_eq_true hb
 refine ⟨hb,?_⟩
 obtain ⟨hs,hs2⟩:=subKO_of (b':=b) hs
 refine AWP.sub hs ?_
 refine awp_loop (fun x=>⟨tAt (putsT (ch x) (keepT 0 ks t)),hAt (hc x ++ keepH kh h),b,(putsT (ch x) (keepT 0 ks t)).length⟩) I μ (fun x hx=>?_) h0
 have hr:=listK_of (headsK_of (round x hx))
 refine AWP.mono (codeK_of ht hmix c _ _ b _ hb hr) ?_
 rintro e s ⟨t',h',b',rfl,e1,hb',hk⟩
 cases e with
 | normal=>
  obtain ⟨ρ,y,hI,hμ,hs⟩:=hk
  exact ⟨y,hI,hμ,(subKO_of hs).1⟩
 | exit i=>exact ⟨t',h',b',rfl,by rw [e1,putsT_len,keepT_len],hb',hk⟩
 | ret=>exact ⟨t',h',b',rfl,by rw [e1,putsT_len,keepT_len],hb',hk⟩
noncomputable def retKO (O : List Nat) (ρ : List (Nat × Nat)) (N N' : Nat) (r : V) (H' : List (Nat × B)) (v : V) (h : List (Nat × B)) : Prop:=
 okK (ρ.all fun p=>Nat.ble N p.1) (okK (noTwice (H'.map fun p=>ren1 ρ p.1)) (subV (ren1 ρ) (frOf (ren1 ρ) H') h N' r v (subHO O (ren1 ρ) (frOf (ren1 ρ) H') N' H' h True)))
inductive RetLO (O : List Nat) (N N' : Nat) (r : V) (H' : List (Nat × B)) (v : V) (h : List (Nat × B)) : Prop
 | mk (ρ : List (Nat × Nat)) (hk : retKO O ρ N N' r H' v h) : RetLO O N N' r H' v h
theorem lspecO (O : List Nat) (ht : TabOk P tab) (hmix : P.follows .mixedOrders = true) {f : FuncId} {fn : Func} (hf : P.funcs[f]? = some fn) (hname : (fn.name == "runtime.NumGoroutine") = false)
 {args : List V} {H : List (Nat × B)} {N : Nat} {r : V} {H' : List (Nat × B)} {N' : Nat} (ha : ltAll N (namesOf args) = true) (hH : ∀ p ∈ H,p.1 < N ∧ p.2.Below (Lt N)) (hNN : Nat.ble N N' = true) (hN : Nat.ble N 64 = true)
 (h : fnK P tab N fn args H 64 fun v h' b=>RetLO O N N' r H' v h') : LSpec P f args H N r H' N':=by
 have hN:=Nat.le_of_ble_eq_true hN
 have hNN:=Nat.le_of_ble_eq_true hNN
 have ha:=all_belows ha
 obtain ⟨c,hc,hlen,hw0⟩:=fnK_of ht hmix hN h
 refine ⟨ha,hH,fun F ids w vals hh hsz hv=>⟨?_,?_⟩⟩
 · simp only [callFunc,Sem.run_bind,run_program,Result.andThen_ok,hf,hname,Bool.false_eq_true,if_false,hc,Option.isNone_some,Sem.run_pure]
 · have hbody':=hc
   have hget : ∀ i,args.length ≤ i → args.getD i .un = .un:=fun i hi=>by simp [List.getD_eq_getElem?_getD,hi]
   have hrep : Rep F ids w ⟨fun i=>args.getD i .un,hAt H,64,fn.ntmps⟩ { tmps:=vals ++ Array.replicate (fn.ntmps - vals.size) undef,defers:=[] }:=by
    refine ⟨hh.nx (Lt_le hN),fun i=>?_,by simp;omega,fun i hi=>hget i (Nat.le_trans hlen hi),fun i=>?_,.nil⟩
    · show RepV _ _ _ (args.getD i .un) _
      by_cases hi : i < args.length
      · have hx : args[i]? = some args[i]:=by simp [hi]
        have hvi : vals[i]? = some (vals[i]'(by omega)):=by simp [hsz,hi]
        have:=hv i args[i] _ hx hvi
        simp only [List.getD_eq_getElem?_getD,hx,Option.getD_some,Array.getD_eq_getD_getElem?,Array.getElem?_append_left (show i < vals.size by omega),hvi]
        exact this
      · rw [hget i (by omega)];exact .un _
    · show V.Below _ (args.getD i .un)
      by_cases hi : i < args.length
      · have hx : args[i]? = some args[i]:=by simp [hi]
        simp only [List.getD_eq_getElem?_getD,hx,Option.getD_some]
        exact (ha _ (List.getElem_mem hi)).mono (Lt_le hN)
      · rw [hget i (by omega)];exact .un
   refine calls_of_awp hf hbody' hw0 hrep (fun k s' hq=>False.elim hq.1) ?_
   rintro x s' ids' w' a' ⟨hx',hq⟩ hr' hk
   obtain ⟨y,v,⟨h',eh,_,ρ,hret⟩,k2,k3,k4⟩:=results_sound (P:=P) ht hr' fn (fun y=>∃ h',s'.h = hAt h' ∧ N ≤ s'.b ∧ RetLO O N N' r H' y h') hq
   obtain ⟨g1,hret⟩:=okK_of hret
   obtain ⟨g2,hret⟩:=okK_of hret
   obtain ⟨hret,g3,g4⟩:=subV_of hret
   obtain ⟨_,g5⟩:=subHO_of hret
   have hren0 : Ren (ren1 ρ) (hAt h') (hAt H') (Lt N'):=subH_ren (noTwice_nodup g2) g5
   have hren : Ren (ren1 ρ) s'.h (hAt H') (Lt N'):=by rw [eh];exact hren0
   have hend : ∃ v,(results fn a'.tmps).run P w' = .ok v w' ∧ ∃ v' ids2,Ending.returned v = .returned v' ∧ Chg F ids w (hAt H) (Lt N) ids2 w' (hAt H') (Lt N') ∧ RepV (Avoid F (hAt H') ids2) ids2 w' r v' ∧ r.Below (Lt N'):=by
    refine ⟨v,k2,v,fun n=>ids' (ren1 ρ n),rfl,⟨hren.heap hr'.heap,hk.goes,fun b hb x=>hk.live b hb ?_,fun n hn=>by rw [ren1_id g1 hn];exact hk.ids n hn,fun k hk=>Nat.lt_of_lt_of_le hk hNN⟩,?_,g3⟩
    · obtain ⟨n,c,hn,hcr,hb⟩:=x
      obtain ⟨b',q1,q2,_⟩:=hren.real hn hcr
      exact ⟨_,_,q1,q2,hb⟩
    · have hrh:=hr'.heap
      rw [eh] at k3 hrh
      exact g4.rep hren0 hrh k3
   exact hend
inductive JoinO {α : Type} (O : List Nat) (I : α → Prop) (N b : Nat) (T : α → List V) (H : α → List (Nat × B)) (t : List V) (h : List (Nat × B)) : Prop
 | mk (ρ : List (Nat × Nat)) (y : α) (hI : I y) (hk : subKO O ρ N b (T y) (H y) t h) : JoinO O I N b T H t h
noncomputable def joinKO {α : Type} (O : List Nat) (N b : Nat) (K : Ex → List V → List (Nat × B) → Nat → Prop) (I : α → Prop) (T : α → List V) (H : α → List (Nat × B)) : Ex → List V → List (Nat × B) → Nat → Prop:=fun e t h b'=>
 match e with
 | .normal=>JoinO O I N b T H t h
 | .exit i=>K (.exit i) t h b'
 | .ret=>K .ret t h b'
theorem joinO (ht : TabOk P tab) (hmix : P.follows .mixedOrders = true) {N : Nat} {c : Code} {t : List V} {h : List (Nat × B)} {b : Nat} {K : Ex → List V → List (Nat × B) → Nat → Prop} {α : Type} (O : List Nat) (l : List Nat) (hs : List Nat) (tv : α → List (Nat × V)) (hv : α → List (Nat × B)) (I : α → Prop)
 (hk : stepK P tab N c t h b (joinKO O N b K I (fun y=>putsT (tv y) (keepT 0 l t)) (fun y=>hv y ++ keepH hs h))) (next : ∀ y,I y → headsK (putsT (tv y) (keepT 0 l t)) fun t=>listK (hv y ++ keepH hs h) fun h=>K .normal t h b) : StepB P tab N c t h b K:=by
 refine ⟨fun hb=>?_⟩
 intro rd hrd dep F ids w a hr
 refine wpIn_mono (stepK_of ht hmix hk hb rd hrd dep F ids w a hr) ?_
 rintro e a' w' ⟨x,s',ids',hx,⟨t',h',b',rfl,e1,hb',hq⟩,hr',hkp⟩
 cases x with
 | exit i=>exact ⟨.exit i,_,ids',hx,⟨t',h',b',rfl,e1,hb',hq⟩,hr',hkp⟩
 | ret=>exact ⟨.ret,_,ids',hx,⟨t',h',b',rfl,e1,hb',hq⟩,hr',hkp⟩
 | normal=>
  obtain ⟨ρ,y,hI,hsub⟩:=hq
  obtain ⟨hs1,hs2⟩:=subKO_of (b':=b') hsub
  obtain ⟨ids2,hr2,hk2⟩:=hs1 F ids' w' a' hr'
  exact ⟨.normal,_,ids2,hx,⟨_,_,b,rfl,hs2.trans e1,hb,listK_of (headsK_of (next y hI))⟩,hr2,hkp.step hk2 rfl⟩
end
end Go.Proofs.YtcffiehcdadimaaGreat.Abs
