/- The abstract machine, part 31: in regions of open order, a call that leaves all that it was lent as it was. -/
import Derived.Test.YtdjnjchpgccbiaaGreatL3
namespace Go.Proofs.YtdjnjchpgccbiaaGreat.Abs
set_option linter.unusedVariables false
section
variable {P : Program} {tab : Tab}
theorem Zjy {v : Option B} : ∀ {u : List (Nat × Option B)} {h : Hp} {m : Nat},(∀ e ∈ u,e.1 = m → e.2 = v) → (∃ e ∈ u,e.1 = m) → Q1 h u m = v
 | [],h,m,_,he=>by obtain ⟨e,he,_⟩:=he;cases he
 | p :: u,h,m,hv,he=>by
  rw [Q1]
  by_cases hx : ∃ e ∈ u,e.1 = m
  · exact Zjy (fun e he=>hv e (List.mem_cons_of_mem _ he)) hx
  · have hm : ¬ m ∈ Zw u:=fun hm=>hx (by obtain ⟨e,hm4,hm5⟩:=List.mem_map.1 hm;exact ⟨e,hm4,hm5⟩)
    rw [Yo hm]
    obtain ⟨e,hm2,e1⟩:=he
    rcases List.mem_cons.1 hm2 with hm3 | hm3
    · subst hm3;subst e1;rw [Zb];exact hv e List.mem_cons_self rfl
    · exact absurd ⟨e,hm3,e1⟩ hx
theorem ZjF {σ : Nat → Nat} {H : List (Nat × B)} {h : Hp} (he : ∀ p ∈ H,h (σ p.1) = some (ZC σ p.2)) : Q1 h (Zdf σ [] H H) = h:=by
 funext m
 unfold Zdf
 rw [ZbP]
 by_cases hm : ∃ p ∈ H,σ p.1 = m
 · obtain ⟨p,hp,rfl⟩:=hm
   refine Zjy (fun e hE e1=>?_) ⟨(σ p.1,some (ZC σ p.2)),List.mem_map.2 ⟨p,hp,rfl⟩,rfl⟩
   obtain ⟨q,hq,rfl⟩:=List.mem_map.1 hE
   have e1 : σ q.1 = σ p.1:=e1
   rw [← e1];exact (he q hq).symm
 · rw [Yo,Yo]
   · intro hn
     obtain ⟨e,hE,rfl⟩:=List.mem_map.1 hn
     obtain ⟨z,hz,rfl⟩:=List.mem_map.1 hE
     simp only [List.nil_append] at hz
     obtain ⟨q,hq,rfl⟩:=List.mem_map.1 hz
     exact hm ⟨q,hq,rfl⟩
   · intro hn
     obtain ⟨e,hE,rfl⟩:=List.mem_map.1 hn
     obtain ⟨q,hq,rfl⟩:=List.mem_map.1 hE
     exact hm ⟨q,hq,rfl⟩
theorem Zj8 {f : FuncId} {args : List V} {H : List (Nat × B)} {r : V} {H' : List (Nat × B)} {N N' : Nat} (hs : LSpec P f args H N r H' N') {xs : List V} {h : List (Nat × B)} {nm : Nat} {L : List (Option Nat)} {Z : List Nat} {K : V → List (Nat × B) → Dyn → Prop}
 (hk : Zhz args H N r H' N' xs h nm L Z K) : ∃ nw l,LCall P f xs ⟨[],Z ++ ((H.map fun p=>sgm L nm 0 p.1) ++ H'.map fun p=>sgm L nm 0 p.1).filter (fun n=>Nat.blt n nm),nw,false⟩ nm (Zdf (sgm L nm 0) Z H H') (ZZ (sgm L nm 0) r) (hAt h) ∧
  K (ZZ (sgm L nm 0) r) l ⟨[],Z ++ ((H.map fun p=>sgm L nm 0 p.1) ++ H'.map fun p=>sgm L nm 0 p.1).filter (fun n=>Nat.blt n nm),nw,false⟩:=by
 have hk2:=hk
 replace hk:=Zco (Zco (K:=fun A=>Zg4 _ H' fun A'=>_) hk)
 generalize hσ : sgm L nm 0 = σ at *
 obtain ⟨g1,hk⟩:=Zd hk
 obtain ⟨g2,hk⟩:=Zd hk
 obtain ⟨g3,hk⟩:=Zd hk
 obtain ⟨g4,hk⟩:=Zd hk
 obtain ⟨g5,hk⟩:=Zd hk
 obtain ⟨g6,hk⟩:=Zd hk
 obtain ⟨g7,hk⟩:=Zd hk
 obtain ⟨g7',hk⟩:=Zd hk
 obtain ⟨g8,hk⟩:=Zd hk
 obtain ⟨hk,g9,g10⟩:=Zf6 hk
 obtain ⟨hk,g11⟩:=ZcT hk
 obtain ⟨l,hk,g12⟩:=ZfH hk
 replace hk:=ZiP (K:=fun v=>YC _ fun hw=>YC _ fun nw=>K v l ⟨[],hw,nw,false⟩) hk
 replace hk:=Zt (Zt hk)
 refine ⟨_,l,⟨?_,?_,?_⟩,hk⟩
 · intro n hn
   simp only [Zw,Zdf,List.map_append,List.map_map,List.mem_append,List.mem_map,Function.comp] at hn
   simp only [List.mem_append,List.mem_filter,List.mem_map,Nat.blt_eq,Nat.ble_eq]
   by_cases hlt : n < nm
   · rcases hn with (⟨z,hz,rfl⟩ | ⟨p,hp,rfl⟩) | ⟨p,hp,rfl⟩
     · exact .inl (.inl hz)
     · exact .inl (.inr ⟨.inl ⟨p,hp,rfl⟩,hlt⟩)
     · exact .inl (.inr ⟨.inr ⟨p,hp,rfl⟩,hlt⟩)
   · rcases hn with (⟨z,hz,rfl⟩ | ⟨p,hp,rfl⟩) | ⟨p,hp,rfl⟩
     · exact .inl (.inl hz)
     · exact .inr ⟨.inl ⟨p,hp,rfl⟩,by omega⟩
     · exact .inr ⟨.inr ⟨p,hp,rfl⟩,by omega⟩
 · intro n hn
   have h1:=List.all_eq_true.1 g8 n hn
   rw [List.mem_filter] at hn
   exact ⟨Nat.le_of_ble_eq_true hn.2,by simpa using h1⟩
 · intro h2 he M hfresh hbel
   have eZ : ∀ n ∈ Z,h2 n = hAt h n:=fun n hn=>he n (.inr (by simp [hn]))
   have hH : ∀ p ∈ H,((∃ b',h2 (σ p.1) = some b' ∧ WkB h2 (fun n=>n ∉ Z) σ p.2 b') ∨ p.2.real = false) ∧ σ p.1 ∉ Z:=by
    intro p hp
    have h1 : Nat.blt (σ p.1) nm = true ∨ (!p.2.real) = true:=by
     rw [Bool.or_eq_true] at g7'
     rcases g7' with g | g
     · exact .inl (List.all_eq_true.1 g _ (List.mem_map.2 ⟨p,hp,rfl⟩))
     · have:=List.all_eq_true.1 g p hp
       rwa [Bool.or_eq_true] at this
    refine ⟨?_,by simpa using List.all_eq_true.1 g7 _ (List.mem_map.2 ⟨p,hp,rfl⟩)⟩
    rcases h1 with h1 | h1
    · have : h2 (σ p.1) = hAt h (σ p.1):=he _ (.inr (List.mem_append_right _ (List.mem_filter.2 ⟨List.mem_append_left _ (List.mem_map.2 ⟨p,hp,rfl⟩),h1⟩)))
      rw [this]
      rcases (g11 p hp).2.2 with ⟨b',q1,q2⟩ | q1
      · have q3:=q2 h2 fun n hn=>eZ n (by simpa using hn)
        have e : (fun n=>Z.contains n = false) = fun n=>n ∉ Z:=by funext n;simp
        exact .inl ⟨b',q1,by rw [← e];exact q3⟩
      · exact .inr q1
    · exact .inr (by simpa using h1)
   subst hσ
   refine ACall.mono ?_ (fun v h' e=>e)
   intro F ids w vals hh hsz hv
   refine LSpec.run hs L Z hfresh (Nat.eq_of_beq_eq_true g1) ?_ (Nat.le_of_ble_eq_true g2) (Nat.le_of_ble_eq_true g3) g9 ?_ hH (ZA g5) (ZA g6) F ids w vals hh hsz hv
   · intro x hx
     have h1:=List.all_eq_true.1 g4 (some x) hx
     dsimp only at h1
     rw [Bool.or_eq_true] at h1
     rcases h1 with h1 | h1
     · obtain ⟨y,hy,hn⟩:=ZG.1 (by simpa using h1)
       exact Below_name (hbel y hy) x hn
     · rw [Bool.or_eq_true] at h1
       rcases h1 with h1 | h1
       · obtain ⟨p,hp,h1⟩:=List.any_eq_true.1 h1
         rw [Bool.and_eq_true] at h1
         have e2 : h2 (sgm L nm 0 p.1) = hAt h (sgm L nm 0 p.1):=he _ (.inr (List.mem_append_right _ (List.mem_filter.2 ⟨List.mem_append_left _ (List.mem_map.2 ⟨p,hp,rfl⟩),h1.1⟩)))
         revert h1
         cases hb : hAt h (sgm L nm 0 p.1) with
         | none=>intro h1;simp [ZmI] at h1
         | some b=>
          intro h1
          rw [hb] at e2
          exact B.Below_name (hh.below _ _ e2) x (by simpa [ZmI] using h1.2)
       · obtain ⟨p,hp,h1⟩:=List.any_eq_true.1 h1
         simp only [Bool.and_eq_true] at h1
         have hr:=h1.2.2
         obtain ⟨b',this,_⟩:=(hH p hp).1.resolve_right (by simp [hr])
         rw [Nat.eq_of_beq_eq_true h1.1] at this
         exact hh.lt _ _ this
   · exact g10 h2 eZ
theorem Yq {f : FuncId} {args : List V} {H : List (Nat × B)} {r : V} {N : Nat} {xs : List V} {h : List (Nat × B)} {nm : Nat} {K : V → List (Nat × B) → Dyn → Prop} (hs : LSpec P f args H N r H N) (L : List (Option Nat))
 (he : (H.map fun p=>hAt h (sgm L nm 0 p.1)) = H.map fun p=>some (ZC (sgm L nm 0) p.2)) (hA : (H.all fun p=>Nat.blt (sgm L nm 0 p.1) nm) = true)
 (hk : Zhz args H N r H N xs h nm L [] fun v _ d=>YC d.hw fun hw=>K v h ⟨hw,[],[],false⟩) : DCallB P f xs h nm K:=by
 obtain ⟨nw,l,hc,hk⟩:=Zj8 hs hk
 have hk:=Zt hk
 refine ⟨_,_,[],h,rfl,⟨by simp [Zw],by simp,fun h2 hag M hf hb=>?_⟩,rfl,hk⟩
 have hin : ∀ p ∈ H,sgm L nm 0 p.1 ∈ ([] : List Nat) ++ ((H.map fun p=>sgm L nm 0 p.1) ++ H.map fun p=>sgm L nm 0 p.1).filter (fun n=>Nat.blt n nm):=fun p hp=>
  List.mem_append_right _ (List.mem_filter.2 ⟨List.mem_append_left _ (List.mem_map.2 ⟨p,hp,rfl⟩),List.all_eq_true.1 hA p hp⟩)
 have hat : ∀ p ∈ H,hAt h (sgm L nm 0 p.1) = some (ZC (sgm L nm 0) p.2):=by
  intro p hp
  obtain ⟨i,hi⟩:=List.mem_iff_getElem?.1 hp
  have:=congrArg (fun l=>l[i]?) he
  simp only [List.getElem?_map,hi,Option.map_some] at this
  exact Option.some.inj this
 refine (hc.run h2 (fun n hn=>hag n (.inl (by rcases hn with hn | hn;cases hn;exact hn))) M hf hb).mono ?_
 rintro v h' ⟨rfl,rfl⟩
 exact ⟨rfl,ZjF fun p hp=>by rw [hag _ (.inl (hin p hp))];exact hat p hp⟩
end
end Go.Proofs.YtdjnjchpgccbiaaGreat.Abs
