/- The abstract machine, part 33: blocks that are hidden while a round runs; loops over families of blocks. -/
import Derived.Test.YtcffiehcdadimaaGreatC17
namespace Go.Proofs.YtcffiehcdadimaaGreat.Abs
set_option linter.unusedVariables false
set_option linter.unusedSimpArgs false
def joinH (h g : Hp) : Hp:=fun n=>match h n with
 | some b=>some b
 | none=>g n
theorem joinH_l {h g : Hp} {n : Nat} {b : B} (e : h n = some b) : joinH h g n = some b:=by unfold joinH;rw [e]
theorem joinH_r {h g : Hp} {n : Nat} (e : h n = none) : joinH h g n = g n:=by unfold joinH;rw [e]
theorem joinH_or {h g : Hp} {n : Nat} {b : B} (e : joinH h g n = some b) : h n = some b ∨ (h n = none ∧ g n = some b):=by
 unfold joinH at e
 cases hn : h n with
 | some c=>rw [hn] at e;exact .inl e
 | none=>rw [hn] at e;exact .inr ⟨rfl,e⟩
theorem hAt_app : ∀ (l m : List (Nat × B)),hAt (l ++ m) = joinH (hAt l) (hAt m)
 | [],m=>by funext n;exact (joinH_r rfl).symm
 | p :: l,m=>by
  funext n
  show hAt (p :: (l ++ m)) n = _
  simp only [hAt]
  split
  · next e=>exact (joinH_l (by simp only [hAt,e])).symm
  · next e=>
    rw [hAt_app l m]
    unfold joinH
    simp only [hAt,e]
def Apart (h g : Hp) : Prop:=∀ k b c,h k = some b → g k = some c → False
theorem Apart.get {h g : Hp} (hd : Apart h g) {k : Nat} {c : B} (e : g k = some c) : joinH h g k = some c:=by
 cases hk : h k with
 | none=>rw [joinH_r hk,e]
 | some b=>exact (hd k b c hk e).elim
theorem live_join {h g : Hp} (hd : Apart h g) {ids : Nat → Nat × Nat} {b : Nat} : Live (joinH h g) ids b ↔ Live h ids b ∨ Live g ids b:=by
 constructor
 · rintro ⟨n,x,hn,hx,e⟩
   rcases joinH_or hn with h1 | ⟨_,h1⟩
   · exact .inl ⟨n,x,h1,hx,e⟩
   · exact .inr ⟨n,x,h1,hx,e⟩
 · rintro (⟨n,x,hn,hx,e⟩ | ⟨n,x,hn,hx,e⟩)
   · exact ⟨n,x,joinH_l hn,hx,e⟩
   · exact ⟨n,x,hd.get hn,hx,e⟩
theorem rep_hide {F : Nat → Prop} {ids : Nat → Nat × Nat} {w : World} {M : Nm} {t : Nat → V} {h g : Hp} {n : Nat} {a : Act} (hr : RepT F ids w M t (joinH h g) n a) (hd : Apart h g) : RepT (fun b=>F b ∨ Live g ids b) ids w M t h n a:=by
 have hh:=hr.heap
 have hav : ∀ b,Avoid (fun b=>F b ∨ Live g ids b) h ids b → Avoid F (joinH h g) ids b:=by
  rintro b ((x | x) | x)
  · exact .inl x
  · exact .inr ((live_join hd).2 (.inr x))
  · exact .inr ((live_join hd).2 (.inl x))
 refine ⟨⟨fun k b hk=>hh.lt k b (joinH_l hk),fun k b hk=>?_,fun k b hk=>hh.below k b (joinH_l hk),fun k m b c hk hm hb hc e=>hh.inj k m b c (joinH_l hk) (joinH_l hm) hb hc e,fun k b hk hb=>?_,fun b x=>?_⟩,fun i=>(hr.tmps i).sub hav,hr.size,hr.out,hr.below,hr.defers⟩
 · exact (hh.blk k b (joinH_l hk)).mono (Goes.refl _ _) (fun b _ x=>hav b x) (fun _ _=>rfl) (hh.below k b (joinH_l hk)) (fun _=>rfl)
 · rintro (x | ⟨m,c,hm,hc,e⟩)
   · exact hh.out k b (joinH_l hk) hb x
   · have:=hh.inj m k c b (hd.get hm) (joinH_l hk) hc hb e
     subst this
     exact hd m b c hk hm
 · rcases x with x | ⟨m,c,hm,hc,rfl⟩
   · exact hh.fsz b x
   · exact (hh.blk m c (hd.get hm)).lt hc
theorem rep_show {F : Nat → Prop} {ids ids' : Nat → Nat × Nat} {w w' : World} {M M' : Nm} {t t' : Nat → V} {h h' g : Hp} {n n' b0 : Nat} {a a' : Act} (hr : RepT F ids w M t (joinH h g) n a) (hd : Apart h g) (hd' : Apart h' g)
 (hg : ∀ k c,g k = some c → k < b0 ∧ c.Below (Lt b0)) (hM : ∀ k,k < b0 → M' k) (hr' : RepT (fun b=>F b ∨ Live g ids b) ids' w' M' t' h' n' a') (hk : Keep (Lt b0) ids w h ids' w' h') : RepT F ids' w' M' t' (joinH h' g) n' a' ∧ Keep (Lt b0) ids w (joinH h g) ids' w' (joinH h' g):=by
 have hh:=hr.heap
 have hh':=hr'.heap
 have hlg : ∀ b,Live g ids' b ↔ Live g ids b:=fun b=>by
  constructor
  · rintro ⟨m,c,hm,hc,e⟩
    exact ⟨m,c,hm,hc,by rw [← hk.ids m (hg m c hm).1];exact e⟩
  · rintro ⟨m,c,hm,hc,e⟩
    exact ⟨m,c,hm,hc,by rw [hk.ids m (hg m c hm).1];exact e⟩
 have hav : ∀ b,Avoid F (joinH h' g) ids' b → Avoid (fun b=>F b ∨ Live g ids b) h' ids' b:=by
  rintro b (x | x)
  · exact .inl (.inl x)
  · rcases (live_join hd').1 x with x | x
    · exact .inr x
    · exact .inl (.inr ((hlg b).1 x))
 have hlv : ∀ b,b < w.heap.size → Live (joinH h' g) ids' b → Live (joinH h g) ids b:=fun b hb x=>by
  rcases (live_join hd').1 x with x | x
  · exact (live_join hd).2 (.inl (hk.live b hb x))
  · exact (live_join hd).2 (.inr ((hlg b).1 x))
 have hnl : ∀ k c,g k = some c → c.real = true → ¬ Live h ids (ids k).1:=fun k c hc hcr ⟨m,d,hm,hdr,e⟩=>by
  have:=hh.inj m k d c (joinH_l hm) (hd.get hc) hdr hcr e
  subst this
  exact hd m d c hm hc
 refine ⟨⟨⟨fun k b e=>?_,fun k b e=>?_,fun k b e=>?_,fun k m b c e f hb hc he=>?_,fun k b e hb=>?_,fun b x=>Nat.lt_of_lt_of_le (hh.fsz b x) hk.goes.size⟩,fun i=>(hr'.tmps i).sub hav,hr'.size,hr'.out,hr'.below,hr'.defers⟩,
  ⟨hk.goes.weaken fun b _ x=>(live_join hd).2 (.inl x),hlv,hk.ids⟩⟩
 · rcases joinH_or e with e | ⟨_,e⟩
   · exact hh'.lt k b e
   · exact hM k (hg k b e).1
 · rcases joinH_or e with e | ⟨_,e⟩
   · exact (hh'.blk k b e).mono (Goes.refl _ _) (fun b _ x=>hav b x) (fun _ _=>rfl) (hh'.below k b e) (fun _=>rfl)
   · have h1:=hh.blk k b (hd.get e)
     rw [hk.ids k (hg k b e).1]
     exact h1.mono (hk.goes.weaken (A':=Avoid F (joinH h g) ids) fun c _ x=>.inr ((live_join hd).2 (.inl x))) (fun c hc x=>x.imp id (hlv c hc)) hk.ids (hg k b e).2 fun hb=>hk.goes.same _ (h1.lt hb) (hnl k b e hb)
 · rcases joinH_or e with e | ⟨_,e⟩
   · exact hh'.below k b e
   · exact (hg k b e).2.mono fun j hj=>hM j hj
 · rcases joinH_or e with e | ⟨_,e⟩
   · rcases joinH_or f with f | ⟨_,f⟩
     · exact hh'.inj k m b c e f hb hc he
     · exact (hh'.out k b e hb (.inr ⟨m,c,f,hc,by rw [he,hk.ids m (hg m c f).1]⟩)).elim
   · rcases joinH_or f with f | ⟨_,f⟩
     · exact (hh'.out m c f hc (.inr ⟨k,b,e,hb,by rw [← he,hk.ids k (hg k b e).1]⟩)).elim
     · rw [hk.ids k (hg k b e).1,hk.ids m (hg m c f).1] at he
       exact hh.inj k m b c (hd.get e) (hd.get f) hb hc he
 · rcases joinH_or e with e | ⟨_,e⟩
   · exact fun x=>hh'.out k b e hb (.inl x)
   · rw [hk.ids k (hg k b e).1]
     exact hh.out k b (hd.get e) hb
section
variable {P : Program} {tab : Tab}
theorem AWP.hide {c : Code} {b0 N n b : Nat} {Q : Ex → St → Prop} {t : Nat → V} {h g : Hp} (hd : Apart h g) (hg : ∀ k c,g k = some c → k < b0 ∧ c.Below (Lt b0)) (hN : N ≤ b0) (hr : AWP P (Lt b0) c Q ⟨t,h,b,n⟩)
 (hQ : ∀ x s',Q x s' → b0 ≤ s'.b ∧ Apart s'.h g) : AWP P (Lt N) c (fun x s'=>∃ h',s'.h = joinH h' g ∧ Q x { s' with h:=h' }) ⟨t,joinH h g,b,n⟩:=by
 intro rd hrd dep F ids w a hrep
 refine wpIn_mono (hr rd hrd dep _ ids w a (rep_hide hrep hd)) ?_
 rintro e a' w' ⟨x,s',ids',hx,hq,hr',hk⟩
 obtain ⟨q1,q2⟩:=hQ x s' hq
 obtain ⟨r1,r2⟩:=rep_show hrep hd q2 hg (M':=Lt s'.b) (fun k hk=>Nat.lt_of_lt_of_le hk q1) hr' hk.toKeep
 exact ⟨x,{ s' with h:=joinH s'.h g },ids',hx,⟨s'.h,rfl,hq⟩,r1,⟨⟨r2.goes,r2.live,fun m hm=>r2.ids m (Nat.lt_of_lt_of_le hm hN)⟩,hk.news⟩⟩
end
end Go.Proofs.YtcffiehcdadimaaGreat.Abs
