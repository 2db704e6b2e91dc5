/- The abstract machine, part 34: states with other names; loops over a family of bundles, one of which lies open in a round. -/
import Derived.Test.YtcffiehcdadimaaGreatC18
namespace Go.Proofs.YtcffiehcdadimaaGreat.Abs
set_option linter.unusedVariables false
set_option linter.unusedSimpArgs false
theorem optK_eq {α : Type} {o : Option α} {x : α} {K : α → Prop} (h : o = some x) (k : K x) : optK o K:=by rw [h];exact k
theorem okK_eq {c : Bool} {K : Prop} (h : c = true) (k : K) : okK c K:=by rw [h];exact k
theorem listK_mk {α : Type} : ∀ {l : List α} {K : List α → Prop},K l → listK l K
 | [],_,h=>h
 | x :: l,K,h=>listK_mk (l:=l) (K:=fun l=>K (x :: l)) h
theorem listK_eq {α : Type} {l l' : List α} {K : List α → Prop} (h : l = l') (k : K l') : listK l K:=listK_mk (by rw [h];exact k)
mutual
theorem below_names {b : Nat} : ∀ {x : V},(∀ n ∈ nameOf x,n < b) → x.Below (Lt b)
 | .un,_=>.un
 | .c v,_=>.c v
 | .lst _ _ _,_=>.lst ..
 | .q _ _,_=>.q ..
 | .sl n _ _ _,h=>.sl _ _ _ _ (h n (by simp [nameOf]))
 | .ac n _ _,h=>.ac _ _ _ (h n (by simp [nameOf]))
 | .sx n _ _ _ _,h=>.sx _ _ _ _ _ (h n (by simp [nameOf]))
 | .p n _ _ _,h=>.p _ _ _ _ (h n (by simp [nameOf]))
 | .mp n,h=>.mp _ (h n (by simp [nameOf]))
 | .agg xs,h=>.agg _ (belows_names fun n hn=>h n (by rw [nameOf];exact hn))
 | .tup xs,h=>.tup _ (belows_names fun n hn=>h n (by rw [nameOf];exact hn))
 | .fn f a c,h=>.fn _ _ _ (belows_names fun n hn=>h n (by rw [nameOf];exact List.mem_append_left _ hn)) (belows_names fun n hn=>h n (by rw [nameOf];exact List.mem_append_right _ hn))
 | .ifc t x,h=>.ifc _ _ (below_names fun n hn=>h n (by rw [nameOf];exact hn))
theorem belows_names {b : Nat} : ∀ {xs : List V},(∀ n ∈ namesOf xs,n < b) → ∀ x ∈ xs,x.Below (Lt b)
 | [],_,x,hx=>by cases hx
 | y :: ys,h,x,hx=>by
  rcases List.mem_cons.1 hx with e | hx
  · rw [e];exact below_names fun n hn=>h n (by rw [namesOf];exact List.mem_append_left _ hn)
  · exact belows_names (fun n hn=>h n (by rw [namesOf];exact List.mem_append_right _ hn)) x hx
end
theorem belowB_names {b : Nat} {c : B} (h : ∀ n ∈ namesB c,n < b) : c.Below (Lt b):=by
 cases c with
 | rows sz r=>exact fun row hr x hx=>below_names fun n hn=>h n (List.mem_flatMap.2 ⟨row,hr,mem_namesOf.2 ⟨x,hx,hn⟩⟩)
 | dat sz r=>trivial
 | map es=>exact fun e he=>below_names fun n hn=>h n (List.mem_flatMap.2 ⟨e,he,hn⟩)
mutual
theorem renV_fix {σ : Nat → Nat} : ∀ {x : V},(∀ n ∈ nameOf x,σ n = n) → renV σ x = x
 | .un,_=>rfl
 | .c v,_=>rfl
 | .lst _ _ _,_=>rfl
 | .q _ _,_=>rfl
 | .sl n _ _ _,h=>by rw [renV,h n (by simp [nameOf])]
 | .ac n _ _,h=>by rw [renV,h n (by simp [nameOf])]
 | .sx n _ _ _ _,h=>by rw [renV,h n (by simp [nameOf])]
 | .p n _ _ _,h=>by rw [renV,h n (by simp [nameOf])]
 | .mp n,h=>by rw [renV,h n (by simp [nameOf])]
 | .agg xs,h=>by rw [renV,renVs_fix fun n hn=>h n (by rw [nameOf];exact hn)]
 | .tup xs,h=>by rw [renV,renVs_fix fun n hn=>h n (by rw [nameOf];exact hn)]
 | .fn f a c,h=>by rw [renV,renVs_fix fun n hn=>h n (by rw [nameOf];exact List.mem_append_left _ hn),renVs_fix fun n hn=>h n (by rw [nameOf];exact List.mem_append_right _ hn)]
 | .ifc t x,h=>by rw [renV,renV_fix fun n hn=>h n (by rw [nameOf];exact hn)]
theorem renVs_fix {σ : Nat → Nat} : ∀ {xs : List V},(∀ n ∈ namesOf xs,σ n = n) → renVs σ xs = xs
 | [],_=>rfl
 | y :: ys,h=>by rw [renVs,renV_fix fun n hn=>h n (by rw [namesOf];exact List.mem_append_left _ hn),renVs_fix fun n hn=>h n (by rw [namesOf];exact List.mem_append_right _ hn)]
end
theorem map_fix {α : Type} {f : α → α} : ∀ {l : List α},(∀ x ∈ l,f x = x) → l.map f = l
 | [],_=>rfl
 | x :: l,h=>by rw [List.map_cons,h x (by simp),map_fix fun y hy=>h y (by simp [hy])]
theorem renB_fix {σ : Nat → Nat} {c : B} (h : ∀ n ∈ namesB c,σ n = n) : renB σ c = c:=by
 cases c with
 | rows sz r=>rw [renB,map_fix fun row hr=>renVs_fix fun n hn=>h n (List.mem_flatMap.2 ⟨row,hr,hn⟩)]
 | dat sz r=>rfl
 | map es=>rw [renB,map_fix fun e he=>by rw [renV_fix fun n hn=>h n (List.mem_flatMap.2 ⟨e,he,hn⟩)]]
section
variable {P : Program} {tab : Tab}
theorem Sub.ren {N b : Nat} {T T' : List V} {L L' : List (Nat × B)} (σ : Nat → Nat) (hσ : ∀ n,n < N → σ n = n) (hinj : ∀ n m,σ n = σ m → n = m) (hT : T = renVs σ T') (hb : ∀ x ∈ T',x.Below (Lt b))
 (hH : ∀ n c,hAt L' n = some c → n < b ∧ c.Below (Lt b) ∧ hAt L (σ n) = some (renB σ c)) : Sub (Lt N) ⟨tAt T,hAt L,b,T.length⟩ ⟨tAt T',hAt L',b,T'.length⟩:=by
 have hren : Ren σ (hAt L) (hAt L') (Lt b):=⟨fun n c hn=>.inl ⟨_,(hH n c hn).2.2,WkB.ren σ c⟩,fun n m c d _ _ _ _ e=>hinj n m e,fun n c hn=>⟨(hH n c hn).1,(hH n c hn).2.1⟩⟩
 have hlen : T'.length = T.length:=by rw [hT,renVs_map,List.length_map]
 intro F ids w a hr
 refine ⟨fun n=>ids (σ n),⟨hren.heap hr.heap,fun i=>?_,by dsimp only;rw [hlen];exact hr.size,fun i hi=>?_,fun i=>?_,hr.defers⟩,⟨Goes.refl _ _,fun b _ x=>?_,fun n hn=>by rw [hσ n hn]⟩⟩
 · have h1 : RepV (Avoid F (hAt L) ids) ids w (tAt T i) (a.tmps.getD i undef):=hr.tmps i
   have h2 : tAt T i = renV σ (tAt T' i):=by
    rw [hT,tAt_get,tAt_get,renVs_map,List.getElem?_map]
    cases T'[i]? with
    | none=>rfl
    | some x=>rfl
   rw [h2] at h1
   exact ren_rep (fun b x=>hren.avoid b x) _ _ h1
 · show tAt T' i = .un
   rw [tAt_get,List.getElem?_eq_none (by exact hi)];rfl
 · show (tAt T' i).Below (Lt b)
   rw [tAt_get]
   cases h : T'[i]? with
   | none=>exact .un
   | some x=>exact hb x (List.mem_of_getElem? h)
 · obtain ⟨n,c,hn,hcr,hb⟩:=x
   obtain ⟨b',h1,h2,_⟩:=hren.real hn hcr
   exact ⟨σ n,_,h1,h2,hb⟩
end
def outN (lo hi n : Nat) : Bool:=Nat.blt n lo || Nat.ble hi n
theorem outN_iff {lo hi n : Nat} : outN lo hi n = true ↔ n < lo ∨ hi ≤ n:=by
 unfold outN
 rw [Bool.or_eq_true,Nat.blt_eq,Nat.ble_eq]
structure Shut (lo hi : Nat) (S : List Nat) (b : Nat) (G : List (Nat × B)) : Prop where
 nm : ∀ p ∈ G,lo ≤ p.1 ∧ p.1 < hi
 inb : ∀ p ∈ G,∀ n ∈ namesB p.2,(lo ≤ n ∧ n < hi) ∨ n ∈ S
 nd : (G.map Prod.fst).Nodup
 hi : hi ≤ b
 lt : ∀ n ∈ S,n < b
theorem Shut.below {lo hi : Nat} {S : List Nat} {b : Nat} {G : List (Nat × B)} (h : Shut lo hi S b G) {p : Nat × B} (hp : p ∈ G) : p.1 < b ∧ p.2.Below (Lt b):=
 ⟨by have:=(h.nm p hp).2;have:=h.hi;omega,belowB_names fun n hn=>by
  rcases h.inb p hp n hn with e | e
  · have:=h.hi;omega
  · exact h.lt n e⟩
theorem Shut.apart {lo hi : Nat} {S : List Nat} {b : Nat} {G : List (Nat × B)} (h : Shut lo hi S b G) {H : List (Nat × B)} (hH : (H.all fun p=>outN lo hi p.1) = true) : Apart (hAt H) (hAt G):=by
 intro k x y h1 h2
 have h3:=outN_iff.1 (List.all_eq_true.1 hH _ (hAt_mem h1))
 have h4:=h.nm _ (hAt_mem h2)
 dsimp only at h3 h4
 omega
theorem ren1_out {lo hi : Nat} : ∀ {ρ : List (Nat × Nat)} (h : (ρ.all fun p=>outN lo hi p.1) = true) {n : Nat},lo ≤ n → n < hi → ren1 ρ n = n
 | [],_,_,_,_=>rfl
 | p :: l,h,n,h1,h2=>by
  simp only [List.all_cons,Bool.and_eq_true] at h
  have h3:=outN_iff.1 h.1
  unfold ren1
  cases hb : Nat.beq n p.1 with
  | true=>have:=Nat.eq_of_beq_eq_true hb;omega
  | false=>exact ren1_out h.2 h1 h2
def frG (lo hi : Nat) (ρ : Nat → Nat) (H : List (Nat × B)) (n : Nat) : Bool:=outN lo hi n && !(H.any fun p=>Nat.beq (ρ p.1) n)
theorem nf {f g : Nat → Bool} (hle : ∀ n,f n = true → g n = true) {n : Nat} (hg : g n = false) : f n = false:=by
 cases he : f n with
 | false=>rfl
 | true=>rw [hle n he] at hg;cases hg
theorem Weak.le {f g : Nat → Bool} {h : List (Nat × B)} {ρ : Nat → Nat} {v u : V} (hle : ∀ n,f n = true → g n = true) (hw : Weak f h ρ v u) : Weak g h ρ v u:=
 fun h2 hh F A' ids w M hr hA hX=>hw h2 (fun n hn=>hh n (hle n hn)) F A' ids w M hr hA fun n x hn hx hf=>hX n x hn hx fun hg=>hf (nf hle hg)
theorem WeakB.le {f g : Nat → Bool} {h : List (Nat × B)} {ρ : Nat → Nat} {v u : B} (hle : ∀ n,f n = true → g n = true) (hw : WeakB f h ρ v u) : WeakB g h ρ v u:=
 fun h2 hh=>⟨(hw h2 fun n hn=>hh n (hle n hn)).1,fun F A' ids w M hr hA hX=>(hw h2 fun n hn=>hh n (hle n hn)).2 F A' ids w M hr hA fun n x hn hx hf=>hX n x hn hx fun hg=>hf (nf hle hg)⟩
noncomputable def subKG (lo hi : Nat) (S : List Nat) (O : List Nat) (ρ : List (Nat × Nat)) (N b : Nat) (T : List V) (H : List (Nat × B)) (t : List V) (h : List (Nat × B)) : Prop:=
 okK (ρ.all fun p=>Nat.ble N p.1) (okK (ρ.all fun p=>outN lo hi p.1) (okK (S.all fun n=>Nat.beq (ren1 ρ n) n) (okK (noTwice (H.map fun p=>ren1 ρ p.1)) (okK ((H.map fun p=>ren1 ρ p.1).all (outN lo hi)) (okK (H.all fun p=>outN lo hi p.1) (okK (h.all fun p=>outN lo hi p.1)
  (subT (ren1 ρ) (frG lo hi (ren1 ρ) H) h b T t (subHO O (ren1 ρ) (frG lo hi (ren1 ρ) H) b H h True))))))))
theorem subKG_of {lo hi : Nat} {S O : List Nat} {ρ : List (Nat × Nat)} {N b b' : Nat} {T t : List V} {H G h : List (Nat × B)} (hk : subKG lo hi S O ρ N b T H t h) (hG : Shut lo hi S b G) :
 Sub (Lt N) ⟨tAt t,hAt (h ++ G),b',t.length⟩ ⟨tAt T,hAt (H ++ G),b,T.length⟩ ∧ T.length = t.length:=by
 obtain ⟨e1,hk⟩:=okK_of hk
 obtain ⟨e2,hk⟩:=okK_of hk
 obtain ⟨e3,hk⟩:=okK_of hk
 obtain ⟨e4,hk⟩:=okK_of hk
 obtain ⟨e5,hk⟩:=okK_of hk
 obtain ⟨e6,hk⟩:=okK_of hk
 obtain ⟨e7,hk⟩:=okK_of hk
 obtain ⟨hk,hlen,hT⟩:=subT_of hk
 obtain ⟨_,hH⟩:=subHO_of hk
 refine ⟨?_,hlen⟩
 have hfx : ∀ n,(lo ≤ n ∧ n < hi) ∨ n ∈ S → ren1 ρ n = n:=by
  rintro n (⟨h1,h2⟩ | h1)
  · exact ren1_out e2 h1 h2
  · exact Nat.eq_of_beq_eq_true (List.all_eq_true.1 e3 n h1)
 have hGr : ∀ p ∈ G,ren1 ρ p.1 = p.1:=fun p hp=>hfx _ (.inl (hG.nm p hp))
 have hle : ∀ n,frG lo hi (ren1 ρ) H n = true → frOf (ren1 ρ) (H ++ G) n = true:=fun n hn=>by
  unfold frG at hn
  rw [Bool.and_eq_true,outN_iff] at hn
  cases hf : frOf (ren1 ρ) (H ++ G) n with
  | true=>rfl
  | false=>
   unfold frOf at hf
   rw [Bool.not_eq_false',List.any_append,Bool.or_eq_true] at hf
   rcases hf with hf | hf
   · rw [hf] at hn;cases hn.2
   · obtain ⟨q,hq,e⟩:=List.any_eq_true.1 hf
     rw [hGr q hq] at e
     have e:=Nat.eq_of_beq_eq_true e
     have:=hG.nm q hq
     omega
 have hap:=hG.apart e7
 have hag : ∀ n,frOf (ren1 ρ) (H ++ G) n = true → hAt (h ++ G) n = hAt h n:=fun n hn=>by
  rw [hAt_app]
  cases hg : hAt G n with
  | none=>
   cases hx : hAt h n with
   | none=>rw [joinH_r hx,hg]
   | some c=>exact joinH_l hx
  | some c=>
   exfalso
   have h1:=hGr _ (hAt_mem hg)
   dsimp only at h1
   have h2 : frOf (ren1 ρ) (H ++ G) n = false:=by
    unfold frOf
    rw [List.any_eq_true.2 ⟨(n,c),List.mem_append_right _ (hAt_mem hg),by dsimp only;rw [h1];exact Nat.beq_refl n⟩]
    rfl
   rw [h2] at hn;cases hn
 have hweak : ∀ {v u : V},Weak (frOf (ren1 ρ) (H ++ G)) h (ren1 ρ) v u → Weak (frOf (ren1 ρ) (H ++ G)) (h ++ G) (ren1 ρ) v u:=fun hw h2 hh=>hw h2 fun n hn=>(hh n hn).trans (hag n hn)
 have hnd : ((H ++ G).map fun p=>ren1 ρ p.1).Nodup:=by
  rw [List.map_append,List.nodup_append]
  refine ⟨noTwice_nodup e4,?_,fun a ha c hc e=>?_⟩
  · rw [List.map_congr_left (g:=Prod.fst) hGr];exact hG.nd
  · subst e
    have h1:=outN_iff.1 (List.all_eq_true.1 e5 a ha)
    obtain ⟨q,hq,rfl⟩:=List.mem_map.1 hc
    rw [hGr q hq] at h1
    have:=hG.nm q hq
    omega
 have hren : Ren (ren1 ρ) (hAt (h ++ G)) (hAt (H ++ G)) (Lt b):=by
  refine subH_ren hnd fun p hp=>?_
  rcases List.mem_append.1 hp with hp | hp
  · obtain ⟨a1,a2,a3⟩:=hH p hp
    refine ⟨a1,a2,a3.imp ?_ id⟩
    rintro ⟨b1,c1,c2⟩
    exact ⟨b1,by rw [hAt_app];exact joinH_l c1,fun h2 hh=>(WeakB.le hle c2) h2 fun n hn=>(hh n hn).trans (hag n hn)⟩
  · obtain ⟨a1,a2⟩:=hG.below hp
    have a3:=hGr p hp
    have a4 : renB (ren1 ρ) p.2 = p.2:=renB_fix fun n hn=>hfx n (hG.inb p hp n hn)
    refine ⟨a1,a2,.inl ⟨p.2,?_,fun h2 _=>?_⟩⟩
    · rw [a3,hAt_app]
      exact hap.get (hAt_of_mem hG.nd p hp)
    · have:=WkB.ren (h:=h2) (X:=fun n=>frOf (ren1 ρ) (H ++ G) n = false) (ren1 ρ) p.2
      rwa [a4] at this
 intro F ids w a hr
 refine ⟨fun n=>ids (ren1 ρ n),⟨hren.heap hr.heap,fun i=>?_,by rw [hlen];exact hr.size,fun i hi=>?_,fun i=>(hT i).1,hr.defers⟩,⟨Goes.refl _ _,fun b _ x=>?_,fun n hn=>by rw [ren1_id e1 hn]⟩⟩
 · exact (hweak (Weak.le hle (hT i).2)).rep hren hr.heap (hr.tmps i)
 · show tAt T i = .un
   rw [tAt_get,List.getElem?_eq_none hi];rfl
 · obtain ⟨n,c,hn,hcr,hb⟩:=x
   obtain ⟨b',h1,h2,_⟩:=hren.real hn hcr
   exact ⟨ren1 ρ n,_,h1,h2,hb⟩
inductive NextG {α : Type} (lo hi : Nat) (S O : List Nat) (I : α → Prop) (μ : α → Nat) (x : α) (N b : Nat) (T : α → List V) (H Fm : α → List (Nat × B)) (G : List (Nat × B)) (t : List V) (h : List (Nat × B)) : Prop
 | mk (ρ : List (Nat × Nat)) (y : α) (E : List (Nat × B)) (hI : I y) (hμ : μ y < μ x) (hG : hAt (Fm y) = hAt (E ++ G)) (hs : subKG lo hi S O ρ N b (T y) (H y ++ E) t h) : NextG lo hi S O I μ x N b T H Fm G t h
inductive RoundG {α : Type} (lo hi : Nat) (S O : List Nat) (P : Program) (tab : Tab) (N : Nat) (c : Code) (b : Nat) (K : Ex → List V → List (Nat × B) → Nat → Prop) (I : α → Prop) (μ : α → Nat) (T : α → List V) (H Fm : α → List (Nat × B)) (x : α) : Prop
 | mk (x' : α) (E G : List (Nat × B)) (hx : Sub (Lt N) ⟨tAt (T x),hAt (H x ++ Fm x),b,(T x).length⟩ ⟨tAt (T x'),hAt (H x' ++ Fm x'),b,(T x').length⟩) (hF : hAt (Fm x') = hAt (E ++ G)) (hG : Shut lo hi S b G) (hap : ((H x' ++ E).all fun p=>outN lo hi p.1) = true)
  (run : headsK (T x') fun t=>listK (H x' ++ E) fun h=>codeK P tab b c t h b fun e t' h' b'=>okK (h'.all fun p=>outN lo hi p.1) (match e with
   | .normal=>NextG lo hi S O I μ x N b T H Fm G t' h'
   | .exit i=>K (.exit i) t' h' b'
   | .ret=>K .ret t' h' b')) : RoundG lo hi S O P tab N c b K I μ T H Fm x
section
variable {P : Program} {tab : Tab}
theorem Sub.drop {M0 : Nm} {t : Nat → V} {h g : Hp} {b n : Nat} : Sub M0 ⟨t,joinH h g,b,n⟩ ⟨t,h,b,n⟩:=by
 intro F ids w a hr
 have hh:=hr.heap
 have hav : ∀ b,Avoid F h ids b → Avoid F (joinH h g) ids b:=by
  rintro b (x | ⟨n,c,hn,hc,e⟩)
  · exact .inl x
  · exact .inr ⟨n,c,joinH_l hn,hc,e⟩
 refine ⟨ids,⟨⟨fun k b hk=>hh.lt k b (joinH_l hk),fun k b hk=>?_,fun k b hk=>hh.below k b (joinH_l hk),fun k m b c hk hm hb hc e=>hh.inj k m b c (joinH_l hk) (joinH_l hm) hb hc e,fun k b hk hb=>hh.out k b (joinH_l hk) hb,hh.fsz⟩,
  fun i=>(hr.tmps i).sub hav,hr.size,hr.out,hr.below,hr.defers⟩,⟨Goes.refl _ _,fun b _ x=>?_,fun n hn=>rfl⟩⟩
 · exact (hh.blk k b (joinH_l hk)).mono (Goes.refl _ _) (fun b _ x=>hav b x) (fun _ _=>rfl) (hh.below k b (joinH_l hk)) (fun _=>rfl)
 · obtain ⟨n,c,hn,hc,e⟩:=x
   exact ⟨n,c,joinH_l hn,hc,e⟩
theorem AWP.post {M0 : Nm} {c : Code} {Q Q' : Ex → St → Prop} {s : St} (h : AWP P M0 c Q s) (hq : ∀ x s,Q x s → ∃ s',Sub M0 s s' ∧ Q' x s') : AWP P M0 c Q' s:=by
 intro rd hrd dep F ids w a hr
 refine wpIn_mono (h rd hrd dep F ids w a hr) ?_
 rintro e a' w' ⟨x,s',ids',hx,hq',hr',hkp⟩
 obtain ⟨s2,hsub,hq2⟩:=hq x s' hq'
 obtain ⟨ids2,hr2,hk2⟩:=hsub F ids' w' a' hr'
 exact ⟨x,s2,ids2,hx,hq2,hr2,hkp.step hk2 rfl⟩
theorem loopG (ht : TabOk P tab) (hmix : P.follows .mixedOrders = true) {α : Type} {N : Nat} {c : Code} {t : List V} {h : List (Nat × B)} {b : Nat} {K : Ex → List V → List (Nat × B) → Nat → Prop}
 (lo hi : Nat) (S O ks kh : List Nat) (ch : α → List (Nat × V)) (hc Fm : α → List (Nat × B)) (I : α → Prop) (μ : α → Nat) (x : α) (hb : Nat.ble N b = true) (h0 : I x)
 (hs : Sub (Lt N) ⟨tAt t,hAt h,b,t.length⟩ ⟨tAt (putsT (ch x) (keepT 0 ks t)),hAt ((hc x ++ keepH kh h) ++ Fm x),b,(putsT (ch x) (keepT 0 ks t)).length⟩)
 (round : ∀ x,I x → RoundG lo hi S O P tab N c b K I μ (fun x=>putsT (ch x) (keepT 0 ks t)) (fun x=>hc x ++ keepH kh h) Fm x) : LoopB P tab N c t h b K:=by
 have hb:=Nat.le_of_ble_eq_true hb
 refine ⟨hb,?_⟩
 refine AWP.sub hs ?_
 refine awp_loop (fun x=>⟨tAt (putsT (ch x) (keepT 0 ks t)),hAt ((hc x ++ keepH kh h) ++ Fm x),b,(putsT (ch x) (keepT 0 ks t)).length⟩) I μ (fun x hx=>?_) h0
 obtain ⟨x',E,G,hsx,hF,hG,hap,run⟩:=round x hx
 refine AWP.sub hsx ?_
 have hr:=listK_of (headsK_of run)
 have hap:=hG.apart hap
 have he : hAt ((hc x' ++ keepH kh h) ++ Fm x') = joinH (hAt ((hc x' ++ keepH kh h) ++ E)) (hAt G):=by
  rw [hAt_app,hF,← hAt_app,← List.append_assoc,hAt_app]
 have hgf : ∀ k c,hAt G k = some c → k < b ∧ c.Below (Lt b):=fun k c hk=>hG.below (hAt_mem hk)
 have haw:=codeK_of ht hmix c _ _ b _ (Nat.le_refl b) hr
 rw [he]
 refine AWP.post (AWP.hide hap hgf hb haw ?_) ?_
 · rintro e s ⟨t',h',b',rfl,e1,hb',hk⟩
   exact ⟨hb',hG.apart (okK_of hk).1⟩
 · rintro e s ⟨h1,hsh,⟨t',h',b',hse,e1,hb',hk⟩⟩
   have hst : s = ⟨tAt t',joinH (hAt h') (hAt G),b',t'.length⟩:=by
    obtain ⟨st,sh,sb,sn⟩:=s
    simp only [St.mk.injEq] at hse
    obtain ⟨a1,a2,a3,a4⟩:=hse
    dsimp only at hsh
    subst a1 a2 a3 a4 hsh
    rfl
   subst hst
   obtain ⟨_,hk⟩:=okK_of hk
   cases e with
   | normal=>
    rw [← hAt_app]
    obtain ⟨ρ,y,E',hI,hμ,hGy,hs⟩:=hk
    refine ⟨_,Sub.refl,y,hI,hμ,?_⟩
    have:=(subKG_of (b':=b') hs hG).1
    have he2 : hAt ((hc y ++ keepH kh h) ++ Fm y) = hAt (((hc y ++ keepH kh h) ++ E') ++ G):=by
     rw [hAt_app,hGy,← hAt_app,← List.append_assoc]
    rw [he2]
    exact this
   | exit i=>exact ⟨_,Sub.drop,t',h',b',rfl,by rw [e1,putsT_len,keepT_len],Nat.le_trans hb hb',hk⟩
   | ret=>exact ⟨_,Sub.drop,t',h',b',rfl,by rw [e1,putsT_len,keepT_len],Nat.le_trans hb hb',hk⟩
end
end Go.Proofs.YtcffiehcdadimaaGreat.Abs
