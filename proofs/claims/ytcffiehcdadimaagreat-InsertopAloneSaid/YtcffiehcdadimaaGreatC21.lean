/- The abstract machine, part 36: functions that only read the blocks that they are lent. -/
import Derived.Test.YtcffiehcdadimaaGreatC20
namespace Go.Proofs.YtcffiehcdadimaaGreat.Abs
set_option linter.unusedVariables false
set_option linter.unusedSimpArgs false
theorem renB_nil (c : B) : renB (ren1 []) c = c:=renB_fix fun n _=>rfl
theorem subHO_all {O : List Nat} {fr : Nat → Bool} {b : Nat} {K : Prop} : ∀ {H h : List (Nat × B)},(∀ p ∈ H,O.contains p.1 = true ∧ p.1 < b ∧ p.2.Below (Lt b) ∧ (hAt h p.1 = some p.2 ∨ p.2.real = false)) → K → subHO O (ren1 []) fr b H h K
 | [],_,_,k=>k
 | p :: H,h,hp,k=>by
  obtain ⟨h1,h2,h3,h4⟩:=hp p (by simp)
  show (match O.contains p.1 with
   | true=>okK (Nat.blt p.1 b) (BO (ren1 []) b p.2 (hAt h (ren1 [] p.1)) (subHO O (ren1 []) fr b H h K))
   | false=>subHCons (ren1 []) fr b h p H (fun K=>subHO O (ren1 []) fr b H h K) K)
  rw [h1]
  show okK (Nat.blt p.1 b) _
  rw [show Nat.blt p.1 b = true by rw [Nat.blt_eq];exact h2]
  rcases h4 with h4 | h4
  · exact .mk p.2 h4 (renB_nil _).symm h3 (subHO_all (fun q hq=>hp q (by simp [hq])) k)
  · exact .no h4 h3 (subHO_all (fun q hq=>hp q (by simp [hq])) k)
theorem retR {N : Nat} {r : V} {H : List (Nat × B)} {v : V} {h : List (Nat × B)} (hH : ∀ p ∈ H,p.1 < N ∧ p.2.Below (Lt N)) (hnd : noTwice (H.map fun p=>p.1) = true)
 (hv : ∀ K : Prop,K → subV (ren1 []) (frOf (ren1 []) H) h N r v K) (hl : lieK h H True) : RetLO (H.map fun p=>p.1) N N r H v h:=by
 refine ⟨[],?_⟩
 show okK (noTwice (H.map fun p=>p.1)) _
 rw [hnd]
 obtain ⟨_,h3⟩:=lieK_of hl
 refine hv _ (subHO_all (fun p hp=>⟨?_,(hH p hp).1,(hH p hp).2,(h3 p hp).imp id And.right⟩) True.intro)
 rw [List.contains_iff_mem]
 exact List.mem_map.2 ⟨p,hp,rfl⟩
section
variable {P : Program} {tab : Tab}
theorem Sub.comp {M0 : Nm} {a b c : St} (h1 : Sub M0 a b) (h2 : Sub M0 b c) : Sub M0 a c:=by
 intro F ids w x hr
 obtain ⟨ids1,r1,k1⟩:=h1 F ids w x hr
 obtain ⟨ids2,r2,k2⟩:=h2 F ids1 w x r1
 exact ⟨ids2,r2,⟨Goes.refl _ _,fun b hb x=>k1.live b hb (k2.live b hb x),fun n hn=>(k2.ids n hn).trans (k1.ids n hn)⟩⟩
theorem Sub.ghost {N b b' : Nat} {T : List V} {H G : List (Nat × B)} {t : List V} {h : List (Nat × B)} (hs : Sub (Lt N) ⟨tAt t,hAt h,b',t.length⟩ ⟨tAt T,hAt H,b,T.length⟩) (hG : ∀ p ∈ G,p.2.real = false ∧ p.1 < b ∧ p.2.Below (Lt b)) :
 Sub (Lt N) ⟨tAt t,hAt h,b',t.length⟩ ⟨tAt T,hAt (H ++ G),b,T.length⟩:=by
 refine Sub.comp hs ?_
 intro F ids w a hr
 have hren : Ren (fun n=>n) (hAt H) (hAt (H ++ G)) (Lt b):=by
  refine ⟨fun n c hn=>?_,fun n m c d _ _ _ _ e=>e,fun n c hn=>?_⟩
  · rw [hAt_app] at hn
    rcases joinH_or hn with e | ⟨_,e⟩
    · exact .inl ⟨c,e,by have:=WkB.ren (h:=hAt H) (X:=fun n=>∃ m c,hAt (H ++ G) m = some c ∧ m = n) (fun n=>n) c;rwa [renB_fix fun _ _=>rfl] at this⟩
    · exact .inr (hG _ (hAt_mem e)).1
  · rw [hAt_app] at hn
    rcases joinH_or hn with e | ⟨_,e⟩
    · exact ⟨hr.heap.lt n c e,hr.heap.below n c e⟩
    · exact (hG _ (hAt_mem e)).2
 refine ⟨fun n=>ids n,⟨hren.heap hr.heap,fun i=>?_,hr.size,hr.out,hr.below,hr.defers⟩,⟨Goes.refl _ _,fun b _ x=>?_,fun n hn=>rfl⟩⟩
 · have h1 : RepV (Avoid F (hAt H) ids) ids w (tAt T i) (a.tmps.getD i undef):=hr.tmps i
   have h2 : renV (fun n=>n) (tAt T i) = tAt T i:=renV_fix fun _ _=>rfl
   rw [← h2] at h1
   exact ren_rep (fun b x=>hren.avoid b x) _ _ h1
 · obtain ⟨n,c,hn,hcr,hb⟩:=x
   obtain ⟨b',h1,h2,_⟩:=hren.real hn hcr
   exact ⟨n,_,h1,h2,hb⟩
theorem loopG0 (ht : TabOk P tab) (hmix : P.follows .mixedOrders = true) {α : Type} {N : Nat} {c : Code} {t : List V} {h : List (Nat × B)} {b : Nat} {K : Ex → List V → List (Nat × B) → Nat → Prop}
 (lo hi : Nat) (S O ks kh : List Nat) (ch : α → List (Nat × V)) (hc Fm : α → List (Nat × B)) (I : α → Prop) (μ : α → Nat) (ρ : List (Nat × Nat)) (x : α) (hb : Nat.ble N b = true) (h0 : I x) (hgh : ∀ p ∈ Fm x,p.2.real = false ∧ p.1 < b ∧ p.2.Below (Lt b))
 (round : ∀ x,I x → RoundG lo hi S O P tab N c b K I μ (fun x=>putsT (ch x) (keepT 0 ks t)) (fun x=>hc x ++ keepH kh h) Fm x)
 (hs : subKO O ρ N b (putsT (ch x) (keepT 0 ks t)) (hc x ++ keepH kh h) t h) : LoopB P tab N c t h b K:=
 loopG ht hmix lo hi S O ks kh ch hc Fm I μ x hb h0 (Sub.ghost (subKO_of hs).1 hgh) round
end
end Go.Proofs.YtcffiehcdadimaaGreat.Abs
