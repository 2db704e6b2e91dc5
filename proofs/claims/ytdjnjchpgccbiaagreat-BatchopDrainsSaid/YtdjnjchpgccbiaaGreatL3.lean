/- The abstract machine, part 21: other names; loops by the states that their rounds begin in. -/
import Derived.Test.YtdjnjchpgccbiaaGreatC5
import Derived.Laws.Externs
import Derived.Laws.StructEq
import Derived.WalkKit
import Derived.ProofKit
import Derived.OpenShut
import Derived.WideKeyArgs
import Derived.Deep.Slices
namespace Go.Proofs.YtdjnjchpgccbiaaGreat.Abs
set_option linter.unusedVariables false
set_option linter.unusedSimpArgs false
mutual
def renV (ρ : Nat → Nat) : V → V
 | .un=>.un
 | .c v=>.c v
 | .lst sz rows cl=>.lst sz rows cl
 | .q row j=>.q row j
 | .sl n sz off len=>.sl (ρ n) sz off len
 | .ac n sz len=>.ac (ρ n) sz len
 | .sx n sz off len cap=>.sx (ρ n) sz off len cap
 | .p n sz i j=>.p (ρ n) sz i j
 | .mp n=>.mp (ρ n)
 | .agg xs=>.agg (renVs ρ xs)
 | .tup xs=>.tup (renVs ρ xs)
 | .fn f a b=>.fn f (renVs ρ a) (renVs ρ b)
 | .ifc t x=>.ifc t (renV ρ x)
def renVs (ρ : Nat → Nat) : List V → List V
 | []=>[]
 | x :: xs=>renV ρ x :: renVs ρ xs
end
theorem renVs_map (ρ : Nat → Nat) : ∀ xs,renVs ρ xs = xs.map (renV ρ)
 | []=>rfl
 | x :: xs=>by rw [renVs,renVs_map ρ xs,List.map_cons]
theorem renV_toV (ρ : Nat → Nat) (d : D) : renV ρ d.toV = d.toV:=by cases d <;> rfl
def renB (ρ : Nat → Nat) : B → B
 | .rows sz r=>.rows sz (r.map (renVs ρ))
 | .dat sz r=>.dat sz r
 | .map es=>.map (es.map fun e=>(e.1,renV ρ e.2))
theorem renB_real (ρ : Nat → Nat) (b : B) : (renB ρ b).real = b.real:=by
 cases b with
 | dat sz r=>rfl
 | _=>rfl
section
variable {A A' : Nat → Prop} {w : World}
mutual
theorem ren_rep {ids : Nat → Nat × Nat} {ρ : Nat → Nat} (hA : ∀ b,A' b → A b) : ∀ (x : V) (v : Value),RepV A ids w (renV ρ x) v → RepV A' (fun n=>ids (ρ n)) w x v
 | .un,v,_=>.un v
 | .c u,v,h=>by rw [renV] at h;cases h;exact .c _
 | .lst sz rows cl,v,h=>by
  rw [renV] at h
  cases h with | lst _ _ _ _ hd hcl=>exact .lst _ _ _ _ (hd.mono (Goes.refl A w) fun b _ x=>hA b x) hcl
 | .q row j,v,h=>by
  rw [renV] at h
  cases h with | q _ _ b o cell hb hn hc hd=>exact .q row j b o cell hb (fun x=>hn (hA b x)) hc fun k d hk=>(hd k d hk).mono (Goes.refl A w) fun b _ x=>hA b x
 | .sl n sz off len,v,h=>by
  rw [renV] at h
  cases h with | sl _ _ _ _ cap ad hl hc=>exact .sl _ _ _ _ cap ad hl hc
 | .ac n sz len,v,h=>by
  rw [renV] at h
  cases h with
  | ac0=>exact .ac0 ..
  | ac1 _ _ _ _ h0 h=>cases h with | sl _ _ _ _ cap ad hl hc=>exact .ac1 _ _ _ _ h0 (.sl _ _ _ _ cap ad hl hc)
 | .sx n sz off len cap,v,h=>by
  rw [renV] at h
  cases h with | sx _ _ _ _ _ ad hl hc=>exact .sx _ _ _ _ _ ad hl hc
 | .p n sz i j,v,h=>by
  rw [renV] at h
  cases h;exact RepV.p (ids:=fun n=>ids (ρ n)) ..
 | .mp n,v,h=>by
  rw [renV] at h
  cases h;exact RepV.mp (ids:=fun n=>ids (ρ n)) ..
 | .agg xs,v,h=>by
  rw [renV] at h
  cases h with | agg _ arr hs hx=>exact .agg xs arr (by rw [hs,renVs_map,List.length_map]) fun i x v hi hv=>ren_reps hA xs i x v hi (hx i (renV ρ x) v (by rw [renVs_map,List.getElem?_map,hi];rfl) hv)
 | .tup xs,v,h=>by
  rw [renV] at h
  cases h with | tup _ arr hs hx=>exact .tup xs arr (by rw [hs,renVs_map,List.length_map]) fun i x v hi hv=>ren_reps hA xs i x v hi (hx i (renV ρ x) v (by rw [renVs_map,List.getElem?_map,hi];rfl) hv)
 | .fn f xs ys,v,h=>by
  rw [renV] at h
  cases h with
  | fn _ _ _ ar br h1 h2 h3 h4=>
   exact .fn f xs ys ar br (by rw [h1,renVs_map,List.length_map]) (by rw [h2,renVs_map,List.length_map])
    (fun i x v hi hv=>ren_reps hA xs i x v hi (h3 i (renV ρ x) v (by rw [renVs_map,List.getElem?_map,hi];rfl) hv))
    (fun i x v hi hv=>ren_reps hA ys i x v hi (h4 i (renV ρ x) v (by rw [renVs_map,List.getElem?_map,hi];rfl) hv))
 | .ifc t x,v,h=>by
  rw [renV] at h
  cases h with | ifc _ _ u hu=>exact .ifc t x u (ren_rep hA x u hu)
theorem ren_reps {ids : Nat → Nat × Nat} {ρ : Nat → Nat} (hA : ∀ b,A' b → A b) : ∀ (xs : List V) (i : Nat) (x : V) (v : Value),xs[i]? = some x → RepV A ids w (renV ρ x) v → RepV A' (fun n=>ids (ρ n)) w x v
 | [],i,x,v,h,_=>by simp at h
 | y :: ys,0,x,v,h,hr=>by simp at h;subst h;exact ren_rep hA y v hr
 | y :: ys,i + 1,x,v,h,hr=>ren_reps hA ys i x v (by simpa using h) hr
end
theorem ren_repB {ids : Nat → Nat × Nat} {ρ : Nat → Nat} (hA : ∀ b,A' b → A b) {p : Nat × Nat} {b : B} (h : RepB A ids w p (renB ρ b)) : RepB A' (fun n=>ids (ρ n)) w p b:=by
 cases b with
 | dat sz r=>
  refine ⟨fun hr=>?_,h.2⟩
  obtain ⟨arr,T,h1,h2,h3,h4⟩:=h.1 hr
  refine ⟨arr,T,h1,h2,h3,fun i row j x hr hx=>?_⟩
  obtain ⟨v,hv,hrep⟩:=h4 i row j x hr hx
  refine ⟨v,hv,ren_rep hA x v ?_⟩
  rw [toVs_get,Option.map_eq_some_iff] at hr
  obtain ⟨rd,_,rfl⟩:=hr
  rw [List.getElem?_map,Option.map_eq_some_iff] at hx
  obtain ⟨d,_,rfl⟩:=hx
  rw [renV_toV];exact hrep
 | rows sz r=>
  obtain ⟨arr,T,h1,h2,h3,h4⟩:=h
  refine ⟨arr,T,h1,by simpa using h2,fun row hr=>?_,fun i row j x hr hx=>?_⟩
  · have:=h3 (renVs ρ row) (List.mem_map_of_mem hr)
    rw [renVs_map,List.length_map] at this;exact this
  · obtain ⟨v,hv,hrep⟩:=h4 i (renVs ρ row) j (renV ρ x) (by rw [List.getElem?_map,hr];rfl) (by rw [renVs_map,List.getElem?_map,hx];rfl)
    exact ⟨v,hv,ren_rep hA x v hrep⟩
 | map es=>
  obtain ⟨ar,k,h1,h2,h3⟩:=h
  refine ⟨ar,k,h1,by simpa using h2,fun i e m he hm=>?_⟩
  obtain ⟨e1,e2⟩:=h3 i (e.1,renV ρ e.2) m (by rw [List.getElem?_map,he];rfl) hm
  exact ⟨e1,ren_rep hA _ _ e2⟩
theorem rep_ren {ids ids2 : Nat → Nat × Nat} {σ : Nat → Nat} {M : Nm} (hA : ∀ b,b < w.heap.size → A' b → A b) (hi : ∀ k,M k → ids2 (σ k) = ids k) {x : V} {v : Value} (h : RepV A ids w x v) (hb : x.Below M) : RepV A' ids2 w (renV σ x) v:=by
 have hg:=Goes.refl A w
 induction h with
 | un v=>rw [renV];exact .un v
 | c v=>rw [renV];exact .c v
 | lst sz rows clip v h hcl=>rw [renV];exact .lst _ _ _ _ (h.mono hg hA) hcl
 | sl n sz off len cap ad hl hc=>
  cases hb with
  | sl _ _ _ _ hn=>rw [renV];exact .sl _ _ _ _ cap ad hl (by rw [hi n hn];exact hc)
 | sx n sz off len cap ad hl hc=>
  cases hb with
  | sx _ _ _ _ _ hn=>rw [renV];exact .sx _ _ _ _ _ ad hl (by rw [hi n hn];exact hc)
 | ac0 n sz ad=>rw [renV];exact .ac0 ..
 | ac1 n sz len v h0 h ih=>
  cases hb with
  | ac _ _ _ hn=>
   have:=ih (.sl _ _ _ _ hn)
   rw [renV] at this
   rw [renV]
   exact .ac1 _ _ _ _ h0 this
 | p n sz i j=>
  cases hb with
  | p _ _ _ _ hn=>rw [renV,← hi n hn];exact .p ..
 | q row j b o cell hb' hn hc hd=>rw [renV];exact .q row j b o cell hb' (fun x=>hn (hA b hb' x)) hc fun k d hk=>(hd k d hk).mono hg hA
 | agg xs arr hs h ih=>
  cases hb with
  | agg _ hx=>
   rw [renV,renVs_map]
   refine .agg _ _ (by rw [hs,List.length_map]) fun i x v h1 h2=>?_
   rw [List.getElem?_map,Option.map_eq_some_iff] at h1
   obtain ⟨y,hy,rfl⟩:=h1
   exact ih i y v hy h2 (hx y (List.mem_of_getElem? hy))
 | tup xs arr hs h ih=>
  cases hb with
  | tup _ hx=>
   rw [renV,renVs_map]
   refine .tup _ _ (by rw [hs,List.length_map]) fun i x v h1 h2=>?_
   rw [List.getElem?_map,Option.map_eq_some_iff] at h1
   obtain ⟨y,hy,rfl⟩:=h1
   exact ih i y v hy h2 (hx y (List.mem_of_getElem? hy))
 | fn f xs ys ar br hs hs' h h' ih ih'=>
  cases hb with
  | fn _ _ _ hx hx'=>
   rw [renV,renVs_map,renVs_map]
   refine .fn f _ _ ar br (by rw [hs,List.length_map]) (by rw [hs',List.length_map]) (fun i x v h1 h2=>?_) (fun i x v h1 h2=>?_)
   · rw [List.getElem?_map,Option.map_eq_some_iff] at h1
     obtain ⟨y,hy,rfl⟩:=h1
     exact ih i y v hy h2 (hx y (List.mem_of_getElem? hy))
   · rw [List.getElem?_map,Option.map_eq_some_iff] at h1
     obtain ⟨y,hy,rfl⟩:=h1
     exact ih' i y v hy h2 (hx' y (List.mem_of_getElem? hy))
 | ifc t x v h ih=>
  cases hb with
  | ifc _ _ hx=>rw [renV];exact .ifc _ _ _ (ih hx)
 | mp n=>
  cases hb with
  | mp _ hn=>rw [renV,← hi n hn];exact .mp ..
theorem rep_renB {ids ids2 : Nat → Nat × Nat} {σ : Nat → Nat} {M : Nm} (hA : ∀ b,b < w.heap.size → A' b → A b) (hi : ∀ k,M k → ids2 (σ k) = ids k) {p : Nat × Nat} {b : B} (h : RepB A ids w p b) (hb : b.Below M) : RepB A' ids2 w p (renB σ b):=by
 cases b with
 | dat sz r=>
  refine ⟨fun hr=>?_,h.2⟩
  obtain ⟨arr,T,h1,h2,h3,h4⟩:=h.1 hr
  refine ⟨arr,T,h1,h2,h3,fun i row j x hr hx=>?_⟩
  obtain ⟨v,hv,hrep⟩:=h4 i row j x hr hx
  have:=rep_ren hA hi hrep (toVs_below M r row (List.mem_of_getElem? hr) x (List.mem_of_getElem? hx))
  rw [toVs_get,Option.map_eq_some_iff] at hr
  obtain ⟨rd,_,rfl⟩:=hr
  rw [List.getElem?_map,Option.map_eq_some_iff] at hx
  obtain ⟨d,_,rfl⟩:=hx
  rw [renV_toV] at this
  exact ⟨v,hv,this⟩
 | rows sz r=>
  obtain ⟨arr,T,h1,h2,h3,h4⟩:=h
  refine ⟨arr,T,h1,by simpa using h2,fun row hr=>?_,fun i row j x hr hx=>?_⟩
  · obtain ⟨row',hr',rfl⟩:=List.mem_map.1 hr
    rw [renVs_map,List.length_map];exact h3 row' hr'
  · rw [List.getElem?_map,Option.map_eq_some_iff] at hr
    obtain ⟨row',hr',rfl⟩:=hr
    rw [renVs_map,List.getElem?_map,Option.map_eq_some_iff] at hx
    obtain ⟨y,hy,rfl⟩:=hx
    obtain ⟨v,hv,hrep⟩:=h4 i row' j y hr' hy
    exact ⟨v,hv,rep_ren hA hi hrep (hb row' (List.mem_of_getElem? hr') y (List.mem_of_getElem? hy))⟩
 | map es=>
  obtain ⟨ar,k,h1,h2,h3⟩:=h
  refine ⟨ar,k,h1,by simpa using h2,fun i e m he hm=>?_⟩
  rw [List.getElem?_map,Option.map_eq_some_iff] at he
  obtain ⟨e',he',rfl⟩:=he
  obtain ⟨e1,e2⟩:=h3 i e' m he' hm
  exact ⟨e1,rep_ren hA hi e2 (hb e' (List.mem_of_getElem? he'))⟩
end
def Wk (h : Hp) (X : Nat → Prop) (ρ : Nat → Nat) (v u : V) : Prop:=
 ∀ (F A' : Nat → Prop) (ids : Nat → Nat × Nat) (w : World) (M : Nm),RepH F ids w h M → (∀ b,A' b → Avoid F h ids b) → (∀ n x,h n = some x → x.real = true → ¬ X n → ¬ A' (ids n).1) →
  ∀ x,RepV (Avoid F h ids) ids w u x → RepV A' (fun n=>ids (ρ n)) w v x
def WkB (h : Hp) (X : Nat → Prop) (ρ : Nat → Nat) (b b' : B) : Prop:=
 b'.real = b.real ∧ ∀ (F A' : Nat → Prop) (ids : Nat → Nat × Nat) (w : World) (M : Nm),RepH F ids w h M → (∀ b,A' b → Avoid F h ids b) → (∀ n x,h n = some x → x.real = true → ¬ X n → ¬ A' (ids n).1) →
  ∀ p,RepB (Avoid F h ids) ids w p b' → RepB A' (fun n=>ids (ρ n)) w p b
theorem Wk.ren {h : Hp} {X : Nat → Prop} (ρ : Nat → Nat) (v : V) : Wk h X ρ v (renV ρ v):=fun F A' ids w M _ hA _ x hx=>ren_rep hA v x hx
theorem Wk.un {h : Hp} {X : Nat → Prop} {ρ : Nat → Nat} {u : V} : Wk h X ρ .un u:=fun F A' ids w M _ _ _ x _=>.un x
theorem Wk.agg {h : Hp} {X : Nat → Prop} {ρ : Nat → Nat} {xs us : List V} (hl : xs.length = us.length) (hx : ∀ (i : Nat) (v u : V),xs[i]? = some v → us[i]? = some u → Wk h X ρ v u) : Wk h X ρ (.agg xs) (.agg us):=by
 intro F A' ids w M hh hA hX x hr
 cases hr with
 | agg _ arr hs hr=>
  refine .agg _ _ (by rw [hs,hl]) fun i v y hv hy=>?_
  have hi : i < us.length:=by rw [← hl];exact (List.getElem?_eq_some_iff.1 hv).1
  exact hx i v us[i] hv (by simp [hi]) F A' ids w M hh hA hX y (hr i us[i] y (by simp [hi]) hy)
theorem Wk.tup {h : Hp} {X : Nat → Prop} {ρ : Nat → Nat} {xs us : List V} (hl : xs.length = us.length) (hx : ∀ (i : Nat) (v u : V),xs[i]? = some v → us[i]? = some u → Wk h X ρ v u) : Wk h X ρ (.tup xs) (.tup us):=by
 intro F A' ids w M hh hA hX x hr
 cases hr with
 | tup _ arr hs hr=>
  refine .tup _ _ (by rw [hs,hl]) fun i v y hv hy=>?_
  have hi : i < us.length:=by rw [← hl];exact (List.getElem?_eq_some_iff.1 hv).1
  exact hx i v us[i] hv (by simp [hi]) F A' ids w M hh hA hX y (hr i us[i] y (by simp [hi]) hy)
theorem Wk.fn {h : Hp} {X : Nat → Prop} {ρ : Nat → Nat} {f : Fn} {xs us ys ws : List V} (hl : xs.length = us.length) (hl' : ys.length = ws.length) (hx : ∀ (i : Nat) (v u : V),xs[i]? = some v → us[i]? = some u → Wk h X ρ v u)
 (hy : ∀ (i : Nat) (v u : V),ys[i]? = some v → ws[i]? = some u → Wk h X ρ v u) : Wk h X ρ (.fn f xs ys) (.fn f us ws):=by
 intro F A' ids w M hh hA hX x hr
 cases hr with
 | fn _ _ _ ar br hs hs' hr hr'=>
  refine .fn _ _ _ _ _ (by rw [hs,hl]) (by rw [hs',hl']) (fun i v y hv hy'=>?_) fun i v y hv hy'=>?_
  · have hi : i < us.length:=by rw [← hl];exact (List.getElem?_eq_some_iff.1 hv).1
    exact hx i v us[i] hv (by simp [hi]) F A' ids w M hh hA hX y (hr i us[i] y (by simp [hi]) hy')
  · have hi : i < ws.length:=by rw [← hl'];exact (List.getElem?_eq_some_iff.1 hv).1
    exact hy i v ws[i] hv (by simp [hi]) F A' ids w M hh hA hX y (hr' i ws[i] y (by simp [hi]) hy')
theorem Wk.ifc {h : Hp} {X : Nat → Prop} {ρ : Nat → Nat} {t : TypeId} {v u : V} (hv : Wk h X ρ v u) : Wk h X ρ (.ifc t v) (.ifc t u):=by
 intro F A' ids w M hh hA hX x hr
 cases hr with
 | ifc _ _ y hr=>exact .ifc _ _ _ (hv F A' ids w M hh hA hX y hr)
structure Ren (ρ : Nat → Nat) (h h' : Hp) (M' : Nm) : Prop where
 hp : ∀ n b,h' n = some b → (∃ b',h (ρ n) = some b' ∧ WkB h (fun n=>∃ m c,h' m = some c ∧ ρ m = n) ρ b b') ∨ b.real = false
 inj : ∀ n m b c,h' n = some b → h' m = some c → b.real = true → c.real = true → ρ n = ρ m → n = m
 lt : ∀ n b,h' n = some b → M' n ∧ b.Below M'
theorem Ren.real {ρ : Nat → Nat} {h h' : Hp} {M' : Nm} (r : Ren ρ h h' M') {n : Nat} {b : B} (hn : h' n = some b) (hr : b.real = true) : ∃ b',h (ρ n) = some b' ∧ b'.real = true ∧ WkB h (fun n=>∃ m c,h' m = some c ∧ ρ m = n) ρ b b':=by
 obtain ⟨b',h1,h2⟩:=(r.hp n b hn).resolve_right (by simp [hr])
 exact ⟨b',h1,by rw [h2.1];exact hr,h2⟩
theorem Ren.avoid {ρ : Nat → Nat} {h h' : Hp} {M' : Nm} (r : Ren ρ h h' M') {F : Nat → Prop} {ids : Nat → Nat × Nat} (b : Nat) (x : Avoid F h' (fun n=>ids (ρ n)) b) : Avoid F h ids b:=by
 rcases x with x | ⟨n,c,hn,hr,hb⟩
 · exact .inl x
 · obtain ⟨b',h1,h2,_⟩:=r.real hn hr
   exact .inr ⟨ρ n,_,h1,h2,hb⟩
theorem Ren.gone {ρ : Nat → Nat} {h h' : Hp} {M M' : Nm} (r : Ren ρ h h' M') {F : Nat → Prop} {ids : Nat → Nat × Nat} {w : World} (hh : RepH F ids w h M) (n : Nat) (x : B) (hn : h n = some x) (hx : x.real = true) (hX : ¬ ∃ m c,h' m = some c ∧ ρ m = n) :
 ¬ Avoid F h' (fun n=>ids (ρ n)) (ids n).1:=by
 rintro (hF | ⟨m,c,hm,hc,hb⟩)
 · exact hh.out n x hn hx hF
 · obtain ⟨b',h1,h2,_⟩:=r.real hm hc
   exact hX ⟨m,c,hm,hh.inj _ _ _ _ h1 hn h2 hx hb⟩
theorem Ren.heap {ρ : Nat → Nat} {h h' : Hp} {M M' : Nm} (r : Ren ρ h h' M') {F : Nat → Prop} {ids : Nat → Nat × Nat} {w : World} (hh : RepH F ids w h M) : RepH F (fun n=>ids (ρ n)) w h' M':=
 ⟨fun n b hn=>(r.lt n b hn).1,fun n b hn=>(by
  rcases r.hp n b hn with ⟨b',h1,h2⟩ | h1
  · exact h2.2 F _ ids w M hh (fun b x=>r.avoid b x) (fun n x hn hx hX=>r.gone hh n x hn hx hX) _ (hh.blk (ρ n) _ h1)
  · cases b with
    | dat sz rw=>cases rw with
     | nil=>exact ⟨fun h=>absurd rfl h,by simp [leaves]⟩
     | cons _ _=>cases h1
    | _=>cases h1),fun n b hn=>(r.lt n b hn).2,
  fun n m b c hn hm hb hc e=>by
   obtain ⟨b1,g1,g2,_⟩:=r.real hn hb
   obtain ⟨b2,g3,g4,_⟩:=r.real hm hc
   exact r.inj n m b c hn hm hb hc (hh.inj _ _ _ _ g1 g3 g2 g4 e),fun n b hn hb=>by
   obtain ⟨b1,g1,g2,_⟩:=r.real hn hb
   exact hh.out _ _ g1 g2,hh.fsz⟩
def ren1 : List (Nat × Nat) → Nat → Nat
 | [],n=>n
 | p :: l,n=>match Nat.beq n p.1 with
  | true=>p.2
  | false=>ren1 l n
def ltAll (b : Nat) (l : List Nat) : Bool:=l.all fun n=>Nat.blt n b
def clK (cl cl' : Bool) (K : Prop) : Prop:=
 match cl with
 | false=>K
 | true=>match cl' with
  | true=>K
  | false=>False
def subL (fr : Nat → Bool) (h : List (Nat × B)) (sz : Nat) (rows : List (List D)) (cl : Bool) (u : V) (K : Prop) : Prop:=
 match u with
 | .lst sz' rows' cl'=>okK (Nat.beq sz' sz) (CB (rows' = rows) (clK cl cl' K))
 | .c (.slice none 0 0)=>CB (rows = []) K
 | .ac n sz' len=>okK (fr n) (okK (Nat.beq sz' sz) (clK cl false (match hAt h n with
  | some (.dat s r)=>okK (Nat.beq s sz) (CB (len = r.length ∧ r = rows) K)
  | _=>False)))
 | .sl n sz' off len=>okK (fr n) (okK (Nat.beq sz' sz) (clK cl false (match hAt h n with
  | some (.dat s r)=>okK (Nat.beq s sz) (CB (off + len ≤ r.length ∧ rows = (r.drop off).take len) K)
  | _=>False)))
 | _=>False
def sub0 (ρ : Nat → Nat) (fr : Nat → Bool) (h : List (Nat × B)) (b : Nat) (v u : V) (K : Prop) : Prop:=
 match v with
 | .un=>K
 | .ac n sz len=>match u with
  | .c (.slice none 0 0)=>okK (Nat.blt n b) (CB (len = 0) K)
  | .ac n' sz' len'=>okK (Nat.blt n b) (okK (Nat.beq n' (ρ n)) (okK (Nat.beq sz' sz) (CB (len' = len) K)))
  | .sl n' sz' off' len'=>okK (Nat.blt n b) (okK (Nat.beq n' (ρ n)) (okK (Nat.beq sz' sz) (CB (off' = 0 ∧ len' = len ∧ len ≠ 0) K)))
  | _=>False
 | .sl n sz off len=>match u with
  | .sl n' sz' off' len'=>okK (Nat.blt n b) (okK (Nat.beq n' (ρ n)) (okK (Nat.beq sz' sz) (CB (off' = off ∧ len' = len) K)))
  | .ac n' sz' len'=>okK (Nat.blt n b) (okK (Nat.beq n' (ρ n)) (okK (Nat.beq sz' sz) (CB (off = 0 ∧ len' = len ∧ len ≠ 0) K)))
  | .sx n' sz' off' len' _=>okK (Nat.blt n b) (okK (Nat.beq n' (ρ n)) (okK (Nat.beq sz' sz) (CB (off' = off ∧ len' = len) K)))
  | _=>False
 | .c (.int k n)=>match u with
  | .c (.int k' n')=>sameK k k' (CB (n' = n) K)
  | _=>False
 | .c (.bool z)=>match u with
  | .c (.bool z')=>CB (z' = z) K
  | _=>False
 | .lst sz rows cl=>subL fr h sz rows cl u K
 | v=>okK (ltAll b (nameOf v)) (CB (u = renV ρ v) K)
abbrev SubT:=List V → Prop → Prop
def subTNil : SubT:=fun t K=>match t with
 | []=>K
 | _=>False
def subTCons (g : V → V → Prop → Prop) (v : V) (T : List V) (ih : SubT) : SubT:=fun t K=>match t with
 | u :: t=>g v u (ih t K)
 | []=>False
noncomputable def subs (g : V → V → Prop → Prop) (T : List V) : SubT:=List.rec (motive:=fun _=>SubT) subTNil (subTCons g) T
noncomputable def sub1 (ρ : Nat → Nat) (fr : Nat → Bool) (h : List (Nat × B)) (b : Nat) (v u : V) (K : Prop) : Prop:=
 match v with
 | .agg xs=>match u with
  | .agg us=>subs (sub0 ρ fr h b) xs us K
  | _=>False
 | v=>sub0 ρ fr h b v u K
noncomputable def subV (ρ : Nat → Nat) (fr : Nat → Bool) (h : List (Nat × B)) (b : Nat) (v u : V) (K : Prop) : Prop:=
 match v with
 | .agg xs=>match u with
  | .agg us=>subs (sub0 ρ fr h b) xs us K
  | _=>False
 | .tup xs=>match u with
  | .tup us=>subs (sub1 ρ fr h b) xs us K
  | _=>False
 | .fn f xs ys=>match u with
  | .fn f' us ws=>CB (f' = f) (subs (sub0 ρ fr h b) xs us (subs (sub0 ρ fr h b) ys ws K))
  | _=>False
 | .ifc t x=>match u with
  | .ifc t' y=>okK (Nat.beq t' t) (sub0 ρ fr h b x y K)
  | _=>False
 | v=>sub0 ρ fr h b v u K
noncomputable def subT (ρ : Nat → Nat) (fr : Nat → Bool) (h : List (Nat × B)) (b : Nat) (T : List V) : SubT:=subs (subV ρ fr h b) T
abbrev SubR:=List (List V) → Prop → Prop
def subRNil : SubR:=fun t K=>match t with
 | []=>K
 | _=>False
noncomputable def subRCons (g : List V → List V → Prop → Prop) (v : List V) (T : List (List V)) (ih : SubR) : SubR:=fun t K=>match t with
 | u :: t=>g v u (ih t K)
 | []=>False
noncomputable def subR (ρ : Nat → Nat) (fr : Nat → Bool) (h : List (Nat × B)) (b : Nat) (T : List (List V)) : SubR:=List.rec (motive:=fun _=>SubR) subRNil (subRCons fun v u K=>subs (subV ρ fr h b) v u K) T
def namesB : B → List Nat
 | .rows _ r=>r.flatMap namesOf
 | .dat _ _=>[]
 | .map es=>es.flatMap fun e=>nameOf e.2
def plainM (es : List (Value × V)) : Prop:=∀ e ∈ es,∃ v,e.2 = .c v
theorem plainM.ren {es : List (Value × V)} (h : plainM es) (ρ : Nat → Nat) : renB ρ (.map es) = .map es:=by
 simp only [renB]
 congr 1
 conv=>rhs;rw [← List.map_id es]
 refine List.map_congr_left fun e he=>?_
 obtain ⟨v,hv⟩:=h e he
 obtain ⟨a,x⟩:=e
 simp only at hv
 subst hv
 rfl
theorem plainM.below {es : List (Value × V)} (h : plainM es) (m : Nm) : (B.map es).Below m:=fun e he=>by
 obtain ⟨v,hv⟩:=h e he
 rw [hv];exact .c _
def fixM (ρ : Nat → Nat) (b : Nat) (es : List (Value × V)) : Prop:=∀ e ∈ es,renV ρ e.2 = e.2 ∧ e.2.Below (Lt b)
theorem fixM.ren {es : List (Value × V)} {ρ : Nat → Nat} {b : Nat} (h : fixM ρ b es) : renB ρ (.map es) = .map es:=by
 simp only [renB]
 congr 1
 conv=>rhs;rw [← List.map_id es]
 refine List.map_congr_left fun e he=>?_
 rw [(h e he).1]
 rfl
def subHNil : Prop → Prop:=fun K=>K
noncomputable def subHCons (ρ : Nat → Nat) (fr : Nat → Bool) (b : Nat) (h : List (Nat × B)) (p : Nat × B) (H : List (Nat × B)) (ih : Prop → Prop) : Prop → Prop:=fun K=>
 okK (Nat.blt p.1 b) (match p.2 with
  | .dat sz r=>match hAt h (ρ p.1) with
   | some (.dat sz' r')=>okK (Nat.beq sz' sz) (CB (r' = r) (ih K))
   | _=>CB (r = []) (ih K)
  | .rows sz r=>match hAt h (ρ p.1) with
   | some (.rows sz' r')=>okK (Nat.beq sz' sz) (okK (ltAll b (namesB (.rows sz r))) (subR ρ fr h b r r' (ih K)))
   | _=>False
  | .map es=>match hAt h (ρ p.1) with
   | some (.map es')=>CB (es' = es) (CB (plainM es ∨ fixM ρ b es) (ih K))
   | _=>False)
noncomputable def subH (ρ : Nat → Nat) (fr : Nat → Bool) (b : Nat) (H h : List (Nat × B)) : Prop → Prop:=List.rec (motive:=fun _=>Prop → Prop) subHNil (subHCons ρ fr b h) H
def noTwice : List Nat → Bool
 | []=>true
 | x :: xs=>!(xs.contains x) && noTwice xs
def frOf (ρ : Nat → Nat) (H : List (Nat × B)) (n : Nat) : Bool:=!(H.any fun p=>Nat.beq (ρ p.1) n)
noncomputable def subK (ρ : List (Nat × Nat)) (N b : Nat) (T : List V) (H : List (Nat × B)) (t : List V) (h : List (Nat × B)) : Prop:=
 okK (ρ.all fun p=>Nat.ble N p.1) (okK (noTwice (H.map fun p=>ren1 ρ p.1)) (subT (ren1 ρ) (frOf (ren1 ρ) H) h b T t (subH (ren1 ρ) (frOf (ren1 ρ) H) b H h True)))
theorem ren1_id {ρ : List (Nat × Nat)} {N n : Nat} (h : (ρ.all fun p=>Nat.ble N p.1) = true) (hn : n < N) : ren1 ρ n = n:=by
 induction ρ with
 | nil=>rfl
 | cons p l ih=>
  simp only [List.all_cons,Bool.and_eq_true] at h
  have h1:=Nat.le_of_ble_eq_true h.1
  simp only [ren1]
  split
  · next e=>have:=Nat.eq_of_beq_eq_true e;omega
  · exact ih h.2
theorem ltAll_below {b : Nat} {v : V} (h : ltAll b (nameOf v) = true) : v.Below (Lt b):=all_below h
theorem clK_of {cl cl' : Bool} {K : Prop} (h : clK cl cl' K) : K ∧ (cl = true → cl' = true):=by
 cases cl with
 | false=>exact ⟨h,by simp⟩
 | true=>cases cl' with
  | true=>exact ⟨h,fun _=>rfl⟩
  | false=>cases h
def Weak (fr : Nat → Bool) (h : List (Nat × B)) (ρ : Nat → Nat) (v u : V) : Prop:=∀ h2 : Hp,(∀ n,fr n = true → h2 n = hAt h n) → Wk h2 (fun n=>fr n = false) ρ v u
theorem subL_of {ρ : Nat → Nat} {fr : Nat → Bool} {h : List (Nat × B)} {sz : Nat} {rows : List (List D)} {cl : Bool} {u : V} {K : Prop} (hk : subL fr h sz rows cl u K) : K ∧ Weak fr h ρ (.lst sz rows cl) u:=by
 unfold subL at hk
 split at hk
 · obtain ⟨e1,hk⟩:=okK_of hk
   obtain ⟨e2,hk1⟩:=hk
   obtain ⟨hk2,e3⟩:=clK_of hk1
   cases Nat.eq_of_beq_eq_true e1
   cases e2
   refine ⟨hk2,fun h2 _ F A' ids w M hh hA hX x hx=>?_⟩
   cases hx with | lst _ _ _ _ hd hcl=>exact .lst _ _ _ _ (hd.mono (Goes.refl _ w) fun b _ x=>hA b x) (fun e=>hcl (e3 e))
 · obtain ⟨e2,hk1⟩:=hk
   subst e2
   refine ⟨hk1,fun h2 _ F A' ids w M hh hA hX x hx=>?_⟩
   cases hx
   exact .lst _ _ _ _ (.emp _ _ _) (fun _=>⟨none,rfl⟩)
 · next n sz' len=>
   obtain ⟨e0,q1⟩:=okK_of hk
   obtain ⟨e1,q2⟩:=okK_of q1
   obtain ⟨q3,e3⟩:=clK_of q2
   clear hk q1 q2
   cases Nat.eq_of_beq_eq_true e1
   split at q3
   case h_2=>cases q3
   next s r hr=>
   obtain ⟨e4,q4⟩:=okK_of q3
   obtain ⟨⟨e5,e6⟩,hk1⟩:=q4
   cases Nat.eq_of_beq_eq_true e4
   subst e6
   refine ⟨hk1,fun h2 hh2 F A' ids w M hh hA hX x hx=>?_⟩
   have hn : h2 n = some (.dat sz r):=by rw [hh2 n e0];exact hr
   exact .lst _ _ _ _ (ac_rep hh hA hn (fun hne=>hX n _ hn (dat_real hne) (by simp [e0])) e5 hx) (fun e=>by cases e3 e)
 · next n sz' off len=>
   obtain ⟨e0,q1⟩:=okK_of hk
   obtain ⟨e1,q2⟩:=okK_of q1
   obtain ⟨q3,e3⟩:=clK_of q2
   clear hk q1 q2
   cases Nat.eq_of_beq_eq_true e1
   split at q3
   case h_2=>cases q3
   next s r hr=>
   obtain ⟨e4,q4⟩:=okK_of q3
   obtain ⟨⟨e5,e6⟩,hk1⟩:=q4
   cases Nat.eq_of_beq_eq_true e4
   subst e6
   refine ⟨hk1,fun h2 hh2 F A' ids w M hh hA hX x hx=>?_⟩
   have hn : h2 n = some (.dat sz r):=by rw [hh2 n e0];exact hr
   exact .lst _ _ _ _ (sd_rep hh hA hn (fun hne=>hX n _ hn (dat_real hne) (by simp [e0])) e5 hx) (fun e=>by cases e3 e)
 · cases hk
theorem sub0_of {ρ : Nat → Nat} {fr : Nat → Bool} {h : List (Nat × B)} {b : Nat} {v u : V} {K : Prop} (hk : sub0 ρ fr h b v u K) : K ∧ v.Below (Lt b) ∧ Weak fr h ρ v u:=by
 unfold sub0 at hk
 split at hk
 · exact ⟨hk,.un,fun _ _=>.un⟩
 · next n sz len=>
   split at hk
   · obtain ⟨e1,hk⟩:=okK_of hk
     obtain ⟨e2,hk'⟩:=hk
     subst e2
     refine ⟨hk',.ac _ _ _ (by simpa [Nat.blt_eq,Lt] using e1),fun h2 _ F A' ids w M hh hA hX x hx=>?_⟩
     cases hx;exact .ac0 _ _ _
   · obtain ⟨e1,hk⟩:=okK_of hk
     obtain ⟨e2,hk⟩:=okK_of hk
     obtain ⟨e3,hk⟩:=okK_of hk
     obtain ⟨e4,hk⟩:=hk
     refine ⟨hk,.ac _ _ _ (by simpa [Nat.blt_eq,Lt] using e1),fun h2 _=>?_⟩
     rw [Nat.eq_of_beq_eq_true e2,Nat.eq_of_beq_eq_true e3,e4]
     exact Wk.ren ρ (.ac n sz len)
   · obtain ⟨e1,hk⟩:=okK_of hk
     obtain ⟨e2,hk⟩:=okK_of hk
     obtain ⟨e3,hk⟩:=okK_of hk
     obtain ⟨⟨e4,e5,e6⟩,hk⟩:=hk
     refine ⟨hk,.ac _ _ _ (by simpa [Nat.blt_eq,Lt] using e1),fun h2 _=>?_⟩
     rw [Nat.eq_of_beq_eq_true e2,Nat.eq_of_beq_eq_true e3,e4,e5]
     exact fun F A' ids w M hh hA hX x hx=>.ac1 _ _ _ _ e6 (Wk.ren (h:=h2) (X:=fun n=>fr n = false) ρ (.sl n sz 0 len) F A' ids w M hh hA hX x hx)
   · cases hk
 · next n sz off len=>
   split at hk
   · obtain ⟨e1,hk⟩:=okK_of hk
     obtain ⟨e2,hk⟩:=okK_of hk
     obtain ⟨e3,hk⟩:=okK_of hk
     obtain ⟨e4,hk⟩:=hk
     refine ⟨hk,.sl _ _ _ _ (by simpa [Nat.blt_eq,Lt] using e1),fun h2 _=>?_⟩
     rw [Nat.eq_of_beq_eq_true e2,Nat.eq_of_beq_eq_true e3,e4.1,e4.2]
     exact Wk.ren ρ (.sl n sz off len)
   · obtain ⟨e1,hk⟩:=okK_of hk
     obtain ⟨e2,hk⟩:=okK_of hk
     obtain ⟨e3,hk⟩:=okK_of hk
     obtain ⟨⟨e4,e5,e6⟩,hk⟩:=hk
     refine ⟨hk,.sl _ _ _ _ (by simpa [Nat.blt_eq,Lt] using e1),fun h2 _=>?_⟩
     rw [Nat.eq_of_beq_eq_true e2,Nat.eq_of_beq_eq_true e3,e4,e5]
     refine fun F A' ids w M hh hA hX x hx=>Wk.ren (h:=h2) (X:=fun n=>fr n = false) ρ (.sl n sz 0 len) F A' ids w M hh hA hX x ?_
     rw [renV]
     cases hx with
     | ac0=>exact absurd rfl e6
     | ac1 _ _ _ _ _ hx=>exact hx
   · obtain ⟨e1,hk⟩:=okK_of hk
     obtain ⟨e2,hk⟩:=okK_of hk
     obtain ⟨e3,hk⟩:=okK_of hk
     obtain ⟨e4,hk⟩:=hk
     refine ⟨hk,.sl _ _ _ _ (by simpa [Nat.blt_eq,Lt] using e1),fun h2 _=>?_⟩
     rw [Nat.eq_of_beq_eq_true e2,Nat.eq_of_beq_eq_true e3,e4.1,e4.2]
     refine fun F A' ids w M hh hA hX x hx=>Wk.ren (h:=h2) (X:=fun n=>fr n = false) ρ (.sl n sz off len) F A' ids w M hh hA hX x ?_
     rw [renV]
     cases hx with
     | sx _ _ _ _ _ ad hl hc=>exact .sl _ _ _ _ _ ad hl hc
   · cases hk
 · next k n=>
   split at hk
   · obtain ⟨e1,hk⟩:=sameK_of hk
     obtain ⟨e2,hk⟩:=hk
     refine ⟨hk,.c _,fun h2 _=>?_⟩
     rw [← e1,e2]
     exact Wk.ren ρ (.c (.int k n))
   · cases hk
 · next z=>
   split at hk
   · obtain ⟨e2,hk⟩:=hk
     refine ⟨hk,.c _,fun h2 _=>?_⟩
     rw [e2]
     exact Wk.ren ρ (.c (.bool z))
   · cases hk
 · obtain ⟨h1,h2⟩:=subL_of (ρ:=ρ) hk
   exact ⟨h1,.lst _ _ _,h2⟩
 · obtain ⟨e1,hk⟩:=okK_of hk
   obtain ⟨e2,hk⟩:=hk
   refine ⟨hk,ltAll_below e1,fun h2 _=>?_⟩
   rw [e2]
   exact Wk.ren ρ _
theorem subs_of {fr : Nat → Bool} {h : List (Nat × B)} {ρ : Nat → Nat} {b : Nat} {g : V → V → Prop → Prop} (hg : ∀ {v u : V} {K : Prop},g v u K → K ∧ v.Below (Lt b) ∧ Weak fr h ρ v u) : ∀ {T t : List V} {K : Prop},subs g T t K →
 K ∧ T.length = t.length ∧ ∀ (i : Nat) (v u : V),T[i]? = some v → t[i]? = some u → v.Below (Lt b) ∧ Weak fr h ρ v u
 | [],[],K,hk=>⟨hk,rfl,by simp⟩
 | v :: T,u :: t,K,hk=>by
  have hk : g v u (subs g T t K):=hk
  obtain ⟨hk,hb,hv⟩:=hg hk
  obtain ⟨h1,h2,h3⟩:=subs_of hg hk
  refine ⟨h1,by simp [h2],fun i x y hx hy=>?_⟩
  cases i with
  | zero=>simp at hx hy;subst hx;subst hy;exact ⟨hb,hv⟩
  | succ i=>exact h3 i x y (by simpa using hx) (by simpa using hy)
 | [],_ :: _,K,hk=>by cases hk
 | _ :: _,[],K,hk=>by cases hk
theorem subs_below {b : Nat} {xs us : List V} {Q : V → V → Prop} (hl : xs.length = us.length) (h : ∀ (i : Nat) (v u : V),xs[i]? = some v → us[i]? = some u → v.Below (Lt b) ∧ Q v u) : ∀ x ∈ xs,x.Below (Lt b):=by
 intro x hx
 obtain ⟨i,hi⟩:=List.getElem?_of_mem hx
 have hil : i < us.length:=by rw [← hl];exact (List.getElem?_eq_some_iff.1 hi).1
 exact (h i x us[i] hi (by simp [hil])).1
theorem sub1_of {ρ : Nat → Nat} {fr : Nat → Bool} {h : List (Nat × B)} {b : Nat} {v u : V} {K : Prop} (hk : sub1 ρ fr h b v u K) : K ∧ v.Below (Lt b) ∧ Weak fr h ρ v u:=by
 unfold sub1 at hk
 split at hk
 · split at hk
   · obtain ⟨h1,h2,h3⟩:=subs_of sub0_of hk
     exact ⟨h1,.agg _ (subs_below h2 h3),fun hp hh=>Wk.agg h2 fun i v u hv hu=>(h3 i v u hv hu).2 hp hh⟩
   · cases hk
 · exact sub0_of hk
theorem subV_of {ρ : Nat → Nat} {fr : Nat → Bool} {h : List (Nat × B)} {b : Nat} {v u : V} {K : Prop} (hk : subV ρ fr h b v u K) : K ∧ v.Below (Lt b) ∧ Weak fr h ρ v u:=by
 unfold subV at hk
 split at hk
 · split at hk
   · obtain ⟨h1,h2,h3⟩:=subs_of sub0_of hk
     exact ⟨h1,.agg _ (subs_below h2 h3),fun hp hh=>Wk.agg h2 fun i v u hv hu=>(h3 i v u hv hu).2 hp hh⟩
   · cases hk
 · split at hk
   · obtain ⟨h1,h2,h3⟩:=subs_of sub1_of hk
     exact ⟨h1,.tup _ (subs_below h2 h3),fun hp hh=>Wk.tup h2 fun i v u hv hu=>(h3 i v u hv hu).2 hp hh⟩
   · cases hk
 · split at hk
   · obtain ⟨e,hk⟩:=hk
     subst e
     obtain ⟨hk,h2,h3⟩:=subs_of sub0_of hk
     obtain ⟨h1,h4,h5⟩:=subs_of sub0_of hk
     exact ⟨h1,.fn _ _ _ (subs_below h2 h3) (subs_below h4 h5),fun hp hh=>Wk.fn h2 h4 (fun i v u hv hu=>(h3 i v u hv hu).2 hp hh) fun i v u hv hu=>(h5 i v u hv hu).2 hp hh⟩
   · cases hk
 · split at hk
   · obtain ⟨e,hk1⟩:=okK_of hk
     cases Nat.eq_of_beq_eq_true e
     obtain ⟨h1,h2,h3⟩:=sub0_of hk1
     exact ⟨h1,.ifc _ _ h2,fun hp hh=>Wk.ifc (h3 hp hh)⟩
   · cases hk
 · exact sub0_of hk
theorem tAt_get : ∀ (l : List V) (i : Nat),tAt l i = (l[i]?).getD .un
 | [],i=>rfl
 | x :: l,0=>rfl
 | x :: l,i + 1=>by rw [tAt,tAt_get l i];simp
theorem subT_of {ρ : Nat → Nat} {fr : Nat → Bool} {h : List (Nat × B)} {b : Nat} {T t : List V} {K : Prop} (hk : subT ρ fr h b T t K) : K ∧ T.length = t.length ∧ ∀ i,(tAt T i).Below (Lt b) ∧ Weak fr h ρ (tAt T i) (tAt t i):=by
 obtain ⟨h1,h2,h3⟩:=subs_of subV_of hk
 refine ⟨h1,h2,fun i=>?_⟩
 rw [tAt_get,tAt_get]
 by_cases hi : i < T.length
 · have hi' : i < t.length:=by omega
   have:=h3 i T[i] t[i] (by simp [hi]) (by simp [hi'])
   simpa [hi,hi'] using this
 · have hi' : ¬ i < t.length:=by omega
   simp only [List.getElem?_eq_none (Nat.le_of_not_lt hi),List.getElem?_eq_none (Nat.le_of_not_lt hi'),Option.getD_none]
   exact ⟨.un,fun _ _=>.un⟩
theorem subR_of {ρ : Nat → Nat} {fr : Nat → Bool} {h : List (Nat × B)} {b : Nat} : ∀ {T t : List (List V)} {K : Prop},subR ρ fr h b T t K → K ∧ T.length = t.length ∧
 ∀ (i : Nat) (r r' : List V),T[i]? = some r → t[i]? = some r' → r.length = r'.length ∧ ∀ (j : Nat) (v u : V),r[j]? = some v → r'[j]? = some u → v.Below (Lt b) ∧ Weak fr h ρ v u
 | [],[],K,hk=>⟨hk,rfl,by simp⟩
 | v :: T,u :: t,K,hk=>by
  have hk : subs (subV ρ fr h b) v u (subR ρ fr h b T t K):=hk
  obtain ⟨hk,hb,hv⟩:=subs_of subV_of hk
  obtain ⟨h1,h2,h3⟩:=subR_of hk
  refine ⟨h1,by simp [h2],fun i x y hx hy=>?_⟩
  cases i with
  | zero=>simp at hx hy;subst hx;subst hy;exact ⟨hb,hv⟩
  | succ i=>exact h3 i x y (by simpa using hx) (by simpa using hy)
 | [],_ :: _,K,hk=>by cases hk
 | _ :: _,[],K,hk=>by cases hk
theorem ltAll_belowB {b : Nat} {x : B} (h : ltAll b (namesB x) = true) : x.Below (Lt b):=by
 unfold ltAll at h
 rw [List.all_eq_true] at h
 cases x with
 | dat sz r=>trivial
 | rows sz r=>
  intro row hr y hy
  refine all_below ?_
  rw [List.all_eq_true]
  exact fun n hn=>h n (List.mem_flatMap.2 ⟨row,hr,mem_namesOf.2 ⟨y,hy,hn⟩⟩)
 | map es=>
  intro e he
  refine all_below ?_
  rw [List.all_eq_true]
  exact fun n hn=>h n (List.mem_flatMap.2 ⟨e,he,hn⟩)
def WeakB (fr : Nat → Bool) (h : List (Nat × B)) (ρ : Nat → Nat) (b b' : B) : Prop:=∀ h2 : Hp,(∀ n,fr n = true → h2 n = hAt h n) → WkB h2 (fun n=>fr n = false) ρ b b'
theorem WkB.ren {h : Hp} {X : Nat → Prop} (ρ : Nat → Nat) (b : B) : WkB h X ρ b (renB ρ b):=⟨renB_real ρ b,fun F A' ids w M _ hA _ p hp=>ren_repB hA hp⟩
theorem WkB.rows {h : Hp} {X : Nat → Prop} {ρ : Nat → Nat} {sz : Nat} {r r' : List (List V)} (hl : r.length = r'.length) (hr : ∀ (i : Nat) (a a' : List V),r[i]? = some a → r'[i]? = some a' → a.length = a'.length ∧ ∀ (j : Nat) (v u : V),a[j]? = some v → a'[j]? = some u → Wk h X ρ v u) :
 WkB h X ρ (.rows sz r) (.rows sz r'):=by
 refine ⟨rfl,fun F A' ids w M hh hA hX p hp=>?_⟩
 obtain ⟨arr,T,h1,h2,h3,h4⟩:=hp
 refine ⟨arr,T,h1,by rw [hl];exact h2,fun row hrow=>?_,fun i row j x hi hj=>?_⟩
 · obtain ⟨i,hi⟩:=List.getElem?_of_mem hrow
   have hil : i < r'.length:=by rw [← hl];exact (List.getElem?_eq_some_iff.1 hi).1
   rw [(hr i row r'[i] hi (by simp [hil])).1]
   exact h3 _ (List.getElem_mem hil)
 · have hil : i < r'.length:=by rw [← hl];exact (List.getElem?_eq_some_iff.1 hi).1
   obtain ⟨e1,e2⟩:=hr i row r'[i] hi (by simp [hil])
   have hjl : j < r'[i].length:=by rw [← e1];exact (List.getElem?_eq_some_iff.1 hj).1
   obtain ⟨v,hv,hrep⟩:=h4 i r'[i] j r'[i][j] (by simp [hil]) (by simp [hjl])
   exact ⟨v,hv,e2 j x r'[i][j] hj (by simp [hjl]) F A' ids w M hh hA hX v hrep⟩
theorem subH_of {ρ : Nat → Nat} {fr : Nat → Bool} {b : Nat} : ∀ {H h : List (Nat × B)} {K : Prop},subH ρ fr b H h K → K ∧ ∀ p ∈ H,p.1 < b ∧ p.2.Below (Lt b) ∧ ((∃ b',hAt h (ρ p.1) = some b' ∧ WeakB fr h ρ p.2 b') ∨ p.2.real = false)
 | [],h,K,hk=>⟨hk,by simp⟩
 | p :: H,h,K,hk=>by
  have hk : okK (Nat.blt p.1 b) (match p.2 with
   | .dat sz r=>match hAt h (ρ p.1) with
    | some (.dat sz' r')=>okK (Nat.beq sz' sz) (CB (r' = r) (subH ρ fr b H h K))
    | _=>CB (r = []) (subH ρ fr b H h K)
   | .rows sz r=>match hAt h (ρ p.1) with
    | some (.rows sz' r')=>okK (Nat.beq sz' sz) (okK (ltAll b (namesB (.rows sz r))) (subR ρ fr h b r r' (subH ρ fr b H h K)))
    | _=>False
   | .map es=>match hAt h (ρ p.1) with
    | some (.map es')=>CB (es' = es) (CB (plainM es ∨ fixM ρ b es) (subH ρ fr b H h K))
    | _=>False):=hk
  obtain ⟨e1,hk⟩:=okK_of hk
  have e1 : p.1 < b:=by simpa [Nat.blt_eq] using e1
  obtain ⟨n,B⟩:=p
  dsimp only at hk e1
  have fin : ∀ {K : Prop},subH ρ fr b H h K → (B.Below (Lt b) ∧ ((∃ b',hAt h (ρ n) = some b' ∧ WeakB fr h ρ B b') ∨ B.real = false)) → K ∧ ∀ p ∈ (n,B) :: H,p.1 < b ∧ p.2.Below (Lt b) ∧ ((∃ b',hAt h (ρ p.1) = some b' ∧ WeakB fr h ρ p.2 b') ∨ p.2.real = false):=by
   intro K hk hB
   obtain ⟨h1,h2⟩:=subH_of hk
   refine ⟨h1,fun p hp=>?_⟩
   rcases List.mem_cons.1 hp with rfl | hp
   · exact ⟨e1,hB⟩
   · exact h2 p hp
  cases B with
  | dat sz r=>
   dsimp only at hk
   split at hk
   · next sz' r' hr=>
     obtain ⟨e2,hk⟩:=okK_of hk
     obtain ⟨e3,hk⟩:=hk
     exact fin hk ⟨trivial,.inl ⟨_,hr,fun _ _=>by rw [Nat.eq_of_beq_eq_true e2,e3];exact WkB.ren ρ (.dat sz r)⟩⟩
   · obtain ⟨e3,q1⟩:=hk
     subst e3
     exact fin q1 ⟨trivial,.inr rfl⟩
  | rows sz r=>
   dsimp only at hk
   split at hk
   · next sz' r' hr=>
     obtain ⟨e2,q1⟩:=okK_of hk
     obtain ⟨e3,q2⟩:=okK_of q1
     obtain ⟨q3,h2,h3⟩:=subR_of q2
     cases Nat.eq_of_beq_eq_true e2
     exact fin q3 ⟨ltAll_belowB e3,.inl ⟨_,hr,fun hp hh=>WkB.rows h2 fun i a a' ha ha'=>⟨(h3 i a a' ha ha').1,fun j v u hv hu=>((h3 i a a' ha ha').2 j v u hv hu).2 hp hh⟩⟩⟩
   · cases hk
  | map es=>
   dsimp only at hk
   split at hk
   · next es' hr=>
     obtain ⟨e2,q1⟩:=hk
     obtain ⟨e3,q2⟩:=q1
     subst e2
     have hbe : (B.map es').Below (Lt b):=by
      rcases e3 with e3 | e3
      · exact e3.below _
      · exact fun e he=>(e3 e he).2
     have hre : renB ρ (.map es') = .map es':=by
      rcases e3 with e3 | e3
      · exact e3.ren ρ
      · exact e3.ren
     exact fin q2 ⟨hbe,.inl ⟨_,hr,fun _ _=>by have:=WkB.ren (h:=‹Hp›) (X:=fun n=>fr n = false) ρ (.map es');rw [hre] at this;exact this⟩⟩
   · cases hk
theorem noTwice_nodup : ∀ {l : List Nat},noTwice l = true → l.Nodup
 | [],_=>List.nodup_nil
 | x :: xs,h=>by
  simp only [noTwice,Bool.and_eq_true,Bool.not_eq_true',List.contains_eq_mem,decide_eq_false_iff_not] at h
  exact List.nodup_cons.2 ⟨h.1,noTwice_nodup h.2⟩
theorem nodup_inj {α : Type} {f : α → Nat} : ∀ {l : List α},(l.map f).Nodup → ∀ a ∈ l,∀ b ∈ l,f a = f b → a = b
 | [],_,a,ha,_,_,_=>by simp at ha
 | x :: xs,h,a,ha,b,hb,e=>by
  rw [List.map_cons,List.nodup_cons] at h
  rcases List.mem_cons.1 ha with ea | ha'
  · rcases List.mem_cons.1 hb with eb | hb'
    · rw [ea,eb]
    · exact (h.1 (by rw [← ea,e];exact List.mem_map_of_mem hb')).elim
  · rcases List.mem_cons.1 hb with eb | hb'
    · exact (h.1 (by rw [← eb,← e];exact List.mem_map_of_mem ha')).elim
    · exact nodup_inj h.2 a ha' b hb' e
theorem hAt_mem : ∀ {l : List (Nat × B)} {n : Nat} {b : B},hAt l n = some b → (n,b) ∈ l
 | [],n,b,h=>by cases h
 | p :: l,n,b,h=>by
  simp only [hAt] at h
  split at h
  · next e=>
    have e:=Nat.eq_of_beq_eq_true e
    obtain ⟨p1,p2⟩:=p
    dsimp only at e h
    subst e;cases h
    simp
  · exact List.mem_cons_of_mem _ (hAt_mem h)
theorem hAt_some : ∀ {l : List (Nat × B)} {p : Nat × B},p ∈ l → ∃ c,hAt l p.1 = some c
 | [],p,h=>by cases h
 | q :: l,p,h=>by
  simp only [hAt]
  split
  · exact ⟨_,rfl⟩
  · next e=>
    rcases List.mem_cons.1 h with rfl | h
    · rw [Nat.beq_refl] at e;cases e
    · exact hAt_some h
theorem frOf_iff {ρ : Nat → Nat} {H : List (Nat × B)} {n : Nat} : frOf ρ H n = false ↔ ∃ m c,hAt H m = some c ∧ ρ m = n:=by
 unfold frOf
 rw [Bool.not_eq_false',List.any_eq_true]
 constructor
 · rintro ⟨p,hp,e⟩
   obtain ⟨c,hc⟩:=hAt_some hp
   exact ⟨p.1,c,hc,Nat.eq_of_beq_eq_true e⟩
 · rintro ⟨m,c,hm,rfl⟩
   exact ⟨(m,c),hAt_mem hm,Nat.beq_refl _⟩
theorem subH_ren {ρ : Nat → Nat} {b : Nat} {H h : List (Nat × B)} (hn : (H.map fun p=>ρ p.1).Nodup) (hH : ∀ p ∈ H,p.1 < b ∧ p.2.Below (Lt b) ∧ ((∃ b',hAt h (ρ p.1) = some b' ∧ WeakB (frOf ρ H) h ρ p.2 b') ∨ p.2.real = false)) : Ren ρ (hAt h) (hAt H) (Lt b):=by
 have hX : (fun n=>frOf ρ H n = false) = fun n=>∃ m c,hAt H m = some c ∧ ρ m = n:=by funext n;exact propext frOf_iff
 refine ⟨fun n c hn=>?_,fun n m c d hn' hm _ _ e=>?_,fun n c hn=>⟨(hH _ (hAt_mem hn)).1,(hH _ (hAt_mem hn)).2.1⟩⟩
 · rcases (hH _ (hAt_mem hn)).2.2 with ⟨b',h1,h2⟩ | h1
   · exact .inl ⟨b',h1,by rw [← hX];exact h2 _ fun _ _=>rfl⟩
   · exact .inr h1
 · exact congrArg Prod.fst (nodup_inj (f:=fun p : Nat × B=>ρ p.1) hn _ (hAt_mem hn') _ (hAt_mem hm) e)
theorem Weak.rep {ρ : Nat → Nat} {b : Nat} {H h : List (Nat × B)} (hren : Ren ρ (hAt h) (hAt H) (Lt b)) {v u : V} (hw : Weak (frOf ρ H) h ρ v u) {F : Nat → Prop} {ids : Nat → Nat × Nat} {w : World} {M : Nm} (hh : RepH F ids w (hAt h) M) {x : Value} (hx : RepV (Avoid F (hAt h) ids) ids w u x) :
 RepV (Avoid F (hAt H) fun n=>ids (ρ n)) (fun n=>ids (ρ n)) w v x:=
 hw (hAt h) (fun _ _=>rfl) F _ ids w M hh (fun b x=>hren.avoid b x) (fun n y hn hy hX=>hren.gone hh n y hn hy (fun hex=>hX (frOf_iff.2 hex))) x hx
theorem subK_of {ρ : List (Nat × Nat)} {N b b' : Nat} {T t : List V} {H h : List (Nat × B)} (hk : subK ρ N b T H t h) : Sub (Lt N) ⟨tAt t,hAt h,b',t.length⟩ ⟨tAt T,hAt H,b,T.length⟩ ∧ T.length = t.length:=by
 obtain ⟨e1,hk⟩:=okK_of hk
 obtain ⟨e2,hk⟩:=okK_of hk
 obtain ⟨hk,hlen,hT⟩:=subT_of hk
 obtain ⟨_,hH⟩:=subH_of hk
 refine ⟨?_,hlen⟩
 have hren : Ren (ren1 ρ) (hAt h) (hAt H) (Lt b):=subH_ren (noTwice_nodup e2) hH
 intro F ids w a hr
 refine ⟨fun n=>ids (ren1 ρ n),⟨hren.heap hr.heap,fun i=>?_,by rw [hlen];exact hr.size,fun i hi=>?_,fun i=>(hT i).1,hr.defers⟩,⟨Goes.refl _ _,fun b _ x=>?_,fun n hn=>by rw [ren1_id e1 hn]⟩⟩
 · exact (hT i).2.rep hren hr.heap (hr.tmps i)
 · show tAt T i = .un
   rw [tAt_get,List.getElem?_eq_none hi];rfl
 · obtain ⟨n,c,hn,hcr,hb⟩:=x
   obtain ⟨b',h1,h2,_⟩:=hren.real hn hcr
   exact ⟨ren1 ρ n,_,h1,h2,hb⟩
def keepT : Nat → List Nat → List V → List V
 | _,_,[]=>[]
 | i,l,x :: t=>(match l.contains i with | true=>x | false=>.un) :: keepT (i + 1) l t
def putsT : List (Nat × V) → List V → List V
 | [],t=>t
 | p :: l,t=>putsT l (t.set p.1 p.2)
def keepH (l : List Nat) : List (Nat × B) → List (Nat × B)
 | []=>[]
 | p :: h=>match l.contains p.1 with
  | true=>p :: keepH l h
  | false=>keepH l h
theorem keepT_len : ∀ (i : Nat) (l : List Nat) (t : List V),(keepT i l t).length = t.length
 | _,_,[]=>rfl
 | i,l,x :: t=>by simp [keepT,keepT_len]
theorem putsT_len : ∀ (l : List (Nat × V)) (t : List V),(putsT l t).length = t.length
 | [],_=>rfl
 | p :: l,t=>by simp [putsT,putsT_len]
inductive NextB {α : Type} (I : α → Prop) (μ : α → Nat) (x : α) (N b : Nat) (T : α → List V) (H : α → List (Nat × B)) (t : List V) (h : List (Nat × B)) : Prop
 | mk (ρ : List (Nat × Nat)) (y : α) (hI : I y) (hμ : μ y < μ x) (hs : subK ρ N b (T y) (H y) t h) : NextB I μ x N b T H t h
section
variable {P : Program} {tab : Tab}
noncomputable def roundK {α : Type} (P : Program) (tab : Tab) (N : Nat) (c : Code) (b : Nat) (K : Ex → List V → List (Nat × B) → Nat → Prop) (I : α → Prop) (μ : α → Nat) (T : α → List V) (H : α → List (Nat × B)) (x : α) : Prop:=
 headsK (T x) fun t=>listK (H x) fun h=>codeK P tab N c t h b fun e t' h' b'=>match e with
  | .normal=>NextB I μ x N b T H t' h'
  | .exit i=>K (.exit i) t' h' b'
  | .ret=>K .ret t' h' b'
theorem loopB_gen (ht : TabOk P tab) (hmix : P.follows .mixedOrders = true) {α : Type} {N : Nat} {c : Code} {t : List V} {h : List (Nat × B)} {b : Nat} {K : Ex → List V → List (Nat × B) → Nat → Prop}
 (T : α → List V) (H : α → List (Nat × B)) (I : α → Prop) (μ : α → Nat) (ρ : List (Nat × Nat)) (x : α) (hb : N ≤ b) (hl : ∀ x,(T x).length = t.length) (h0 : I x) (hs : subK ρ N b (T x) (H x) t h)
 (round : ∀ x,I x → roundK P tab N c b K I μ T H x) : LoopB P tab N c t h b K:=by
 refine ⟨hb,?_⟩
 obtain ⟨hs,hs2⟩:=subK_of (b':=b) hs
 refine AWP.sub hs ?_
 refine awp_loop (fun x=>⟨tAt (T x),hAt (H x),b,(T x).length⟩) I μ (fun x hx=>?_) h0
 have hr:=listK_of (headsK_of (round x hx))
 refine AWP.mono (codeK_of ht hmix c _ _ b _ hb hr) ?_
 rintro e s ⟨t',h',b',rfl,e1,hb',hk⟩
 cases e with
 | normal=>
  obtain ⟨ρ,y,hI,hμ,hs⟩:=hk
  exact ⟨y,hI,hμ,(subK_of hs).1⟩
 | exit i=>exact ⟨t',h',b',rfl,by rw [e1,hl],hb',hk⟩
 | ret=>exact ⟨t',h',b',rfl,by rw [e1,hl],hb',hk⟩
theorem loopB (ht : TabOk P tab) (hmix : P.follows .mixedOrders = true) {α : Type} {N : Nat} {c : Code} {t : List V} {h : List (Nat × B)} {b : Nat} {K : Ex → List V → List (Nat × B) → Nat → Prop}
 (ks : List Nat) (kh : List Nat) (ch : α → List (Nat × V)) (hc : α → List (Nat × B)) (I : α → Prop) (μ : α → Nat) (ρ : List (Nat × Nat)) (x : α) (hb : Nat.ble N b = true) (h0 : I x)
 (hs : subK ρ N b (putsT (ch x) (keepT 0 ks t)) (hc x ++ keepH kh h) t h)
 (round : ∀ x,I x → roundK P tab N c b K I μ (fun x=>putsT (ch x) (keepT 0 ks t)) (fun x=>hc x ++ keepH kh h) x) : LoopB P tab N c t h b K:=
 loopB_gen ht hmix _ _ I μ ρ x (Nat.le_of_ble_eq_true hb) (fun x=>by rw [putsT_len,keepT_len]) h0 hs round
inductive NextB2 {α β : Type} (I : α → β → Prop) (μ : α → β → Nat) (m0 : Nat) (N b : Nat) (T : α → β → List V) (H : α → β → List (Nat × B)) (t : List V) (h : List (Nat × B)) : Prop
 | mk (ρ : List (Nat × Nat)) (x : α) (y : β) (hI : I x y) (hμ : μ x y < m0) (hs : subK ρ N b (T x y) (H x y) t h) : NextB2 I μ m0 N b T H t h
noncomputable def roundK2 {α β : Type} (P : Program) (tab : Tab) (N : Nat) (c : Code) (b : Nat) (K : Ex → List V → List (Nat × B) → Nat → Prop) (I : α → β → Prop) (μ : α → β → Nat) (T : α → β → List V) (H : α → β → List (Nat × B)) (x : α) (y : β) : Prop:=
 headsK (T x y) fun t=>listK (H x y) fun h=>codeK P tab N c t h b fun e t' h' b'=>match e with
  | .normal=>NextB2 I μ (μ x y) N b T H t' h'
  | .exit i=>K (.exit i) t' h' b'
  | .ret=>K .ret t' h' b'
theorem loopB2 (ht : TabOk P tab) (hmix : P.follows .mixedOrders = true) {α β : Type} {N : Nat} {c : Code} {t : List V} {h : List (Nat × B)} {b : Nat} {K : Ex → List V → List (Nat × B) → Nat → Prop}
 (ks : List Nat) (kh : List Nat) (ch : α → β → List (Nat × V)) (hc : α → β → List (Nat × B)) (I : α → β → Prop) (μ : α → β → Nat) (ρ : List (Nat × Nat)) (x : α) (y : β) (hb : Nat.ble N b = true) (h0 : I x y)
 (hs : subK ρ N b (putsT (ch x y) (keepT 0 ks t)) (hc x y ++ keepH kh h) t h)
 (round : ∀ (x : α) (y : β),I x y → roundK2 P tab N c b K I μ (fun x y=>putsT (ch x y) (keepT 0 ks t)) (fun x y=>hc x y ++ keepH kh h) x y) : LoopB P tab N c t h b K:=by
 have hb:=Nat.le_of_ble_eq_true hb
 refine ⟨hb,?_⟩
 obtain ⟨hs,hs2⟩:=subK_of (b':=b) hs
 refine AWP.sub hs ?_
 refine awp_loop (α:=α × β) (fun p=>⟨tAt (putsT (ch p.1 p.2) (keepT 0 ks t)),hAt (hc p.1 p.2 ++ keepH kh h),b,(putsT (ch p.1 p.2) (keepT 0 ks t)).length⟩) (fun p=>I p.1 p.2) (fun p=>μ p.1 p.2) (fun p hx=>?_) (x:=(x,y)) h0
 have hr:=listK_of (headsK_of (round p.1 p.2 hx))
 refine AWP.mono (codeK_of ht hmix c _ _ b _ hb hr) ?_
 rintro e s ⟨t',h',b',rfl,e1,hb',hk⟩
 cases e with
 | normal=>
  obtain ⟨ρ,x',y',hI,hμ,hs⟩:=hk
  exact ⟨(x',y'),hI,hμ,(subK_of hs).1⟩
 | exit i=>exact ⟨t',h',b',rfl,by rw [e1,putsT_len,keepT_len],hb',hk⟩
 | ret=>exact ⟨t',h',b',rfl,by rw [e1,putsT_len,keepT_len],hb',hk⟩
inductive NextB3 {α β γ : Type} (I : α → β → γ → Prop) (μ : α → β → γ → Nat) (m0 : Nat) (N b : Nat) (T : α → β → γ → List V) (H : α → β → γ → List (Nat × B)) (t : List V) (h : List (Nat × B)) : Prop
 | mk (ρ : List (Nat × Nat)) (x : α) (y : β) (z : γ) (hI : I x y z) (hμ : μ x y z < m0) (hs : subK ρ N b (T x y z) (H x y z) t h) : NextB3 I μ m0 N b T H t h
noncomputable def roundK3 {α β γ : Type} (P : Program) (tab : Tab) (N : Nat) (c : Code) (b : Nat) (K : Ex → List V → List (Nat × B) → Nat → Prop) (I : α → β → γ → Prop) (μ : α → β → γ → Nat) (T : α → β → γ → List V) (H : α → β → γ → List (Nat × B)) (x : α) (y : β) (z : γ) : Prop:=
 headsK (T x y z) fun t=>listK (H x y z) fun h=>codeK P tab N c t h b fun e t' h' b'=>match e with
  | .normal=>NextB3 I μ (μ x y z) N b T H t' h'
  | .exit i=>K (.exit i) t' h' b'
  | .ret=>K .ret t' h' b'
theorem loopB3 (ht : TabOk P tab) (hmix : P.follows .mixedOrders = true) {α β γ : Type} {N : Nat} {c : Code} {t : List V} {h : List (Nat × B)} {b : Nat} {K : Ex → List V → List (Nat × B) → Nat → Prop}
 (ks : List Nat) (kh : List Nat) (ch : α → β → γ → List (Nat × V)) (hc : α → β → γ → List (Nat × B)) (I : α → β → γ → Prop) (μ : α → β → γ → Nat) (ρ : List (Nat × Nat)) (x : α) (y : β) (z : γ) (hb : Nat.ble N b = true) (h0 : I x y z)
 (hs : subK ρ N b (putsT (ch x y z) (keepT 0 ks t)) (hc x y z ++ keepH kh h) t h)
 (round : ∀ (x : α) (y : β) (z : γ),I x y z → roundK3 P tab N c b K I μ (fun x y z=>putsT (ch x y z) (keepT 0 ks t)) (fun x y z=>hc x y z ++ keepH kh h) x y z) : LoopB P tab N c t h b K:=by
 have hb:=Nat.le_of_ble_eq_true hb
 refine ⟨hb,?_⟩
 obtain ⟨hs,hs2⟩:=subK_of (b':=b) hs
 refine AWP.sub hs ?_
 refine awp_loop (α:=α × β × γ) (fun p=>⟨tAt (putsT (ch p.1 p.2.1 p.2.2) (keepT 0 ks t)),hAt (hc p.1 p.2.1 p.2.2 ++ keepH kh h),b,(putsT (ch p.1 p.2.1 p.2.2) (keepT 0 ks t)).length⟩) (fun p=>I p.1 p.2.1 p.2.2) (fun p=>μ p.1 p.2.1 p.2.2) (fun p hx=>?_) (x:=(x,y,z)) h0
 have hr:=listK_of (headsK_of (round p.1 p.2.1 p.2.2 hx))
 refine AWP.mono (codeK_of ht hmix c _ _ b _ hb hr) ?_
 rintro e s ⟨t',h',b',rfl,e1,hb',hk⟩
 cases e with
 | normal=>
  obtain ⟨ρ,x',y',z',hI,hμ,hs⟩:=hk
  exact ⟨(x',y',z'),hI,hμ,(subK_of hs).1⟩
 | exit i=>exact ⟨t',h',b',rfl,by rw [e1,putsT_len,keepT_len],hb',hk⟩
 | ret=>exact ⟨t',h',b',rfl,by rw [e1,putsT_len,keepT_len],hb',hk⟩
inductive NextB4 {α β γ δ : Type} (I : α → β → γ → δ → Prop) (μ : α → β → γ → δ → Nat) (m0 : Nat) (N b : Nat) (T : α → β → γ → δ → List V) (H : α → β → γ → δ → List (Nat × B)) (t : List V) (h : List (Nat × B)) : Prop
 | mk (ρ : List (Nat × Nat)) (x : α) (y : β) (z : γ) (u : δ) (hI : I x y z u) (hμ : μ x y z u < m0) (hs : subK ρ N b (T x y z u) (H x y z u) t h) : NextB4 I μ m0 N b T H t h
noncomputable def roundK4 {α β γ δ : Type} (P : Program) (tab : Tab) (N : Nat) (c : Code) (b : Nat) (K : Ex → List V → List (Nat × B) → Nat → Prop) (I : α → β → γ → δ → Prop) (μ : α → β → γ → δ → Nat) (T : α → β → γ → δ → List V) (H : α → β → γ → δ → List (Nat × B)) (x : α) (y : β) (z : γ) (u : δ) : Prop:=
 headsK (T x y z u) fun t=>listK (H x y z u) fun h=>codeK P tab N c t h b fun e t' h' b'=>match e with
  | .normal=>NextB4 I μ (μ x y z u) N b T H t' h'
  | .exit i=>K (.exit i) t' h' b'
  | .ret=>K .ret t' h' b'
theorem loopB4 (ht : TabOk P tab) (hmix : P.follows .mixedOrders = true) {α β γ δ : Type} {N : Nat} {c : Code} {t : List V} {h : List (Nat × B)} {b : Nat} {K : Ex → List V → List (Nat × B) → Nat → Prop}
 (ks : List Nat) (kh : List Nat) (ch : α → β → γ → δ → List (Nat × V)) (hc : α → β → γ → δ → List (Nat × B)) (I : α → β → γ → δ → Prop) (μ : α → β → γ → δ → Nat) (ρ : List (Nat × Nat)) (x : α) (y : β) (z : γ) (u : δ) (hb : Nat.ble N b = true) (h0 : I x y z u)
 (hs : subK ρ N b (putsT (ch x y z u) (keepT 0 ks t)) (hc x y z u ++ keepH kh h) t h)
 (round : ∀ (x : α) (y : β) (z : γ) (u : δ),I x y z u → roundK4 P tab N c b K I μ (fun x y z u=>putsT (ch x y z u) (keepT 0 ks t)) (fun x y z u=>hc x y z u ++ keepH kh h) x y z u) : LoopB P tab N c t h b K:=by
 have hb:=Nat.le_of_ble_eq_true hb
 refine ⟨hb,?_⟩
 obtain ⟨hs,hs2⟩:=subK_of (b':=b) hs
 refine AWP.sub hs ?_
 refine awp_loop (α:=α × β × γ × δ) (fun p=>⟨tAt (putsT (ch p.1 p.2.1 p.2.2.1 p.2.2.2) (keepT 0 ks t)),hAt (hc p.1 p.2.1 p.2.2.1 p.2.2.2 ++ keepH kh h),b,(putsT (ch p.1 p.2.1 p.2.2.1 p.2.2.2) (keepT 0 ks t)).length⟩) (fun p=>I p.1 p.2.1 p.2.2.1 p.2.2.2) (fun p=>μ p.1 p.2.1 p.2.2.1 p.2.2.2) (fun p hx=>?_) (x:=(x,y,z,u)) h0
 have hr:=listK_of (headsK_of (round p.1 p.2.1 p.2.2.1 p.2.2.2 hx))
 refine AWP.mono (codeK_of ht hmix c _ _ b _ hb hr) ?_
 rintro e s ⟨t',h',b',rfl,e1,hb',hk⟩
 cases e with
 | normal=>
  obtain ⟨ρ,x',y',z',u',hI,hμ,hs⟩:=hk
  exact ⟨(x',y',z',u'),hI,hμ,(subK_of hs).1⟩
 | exit i=>exact ⟨t',h',b',rfl,by rw [e1,putsT_len,keepT_len],hb',hk⟩
 | ret=>exact ⟨t',h',b',rfl,by rw [e1,putsT_len,keepT_len],hb',hk⟩
inductive JoinB {α : Type} (I : α → Prop) (N b : Nat) (T : α → List V) (H : α → List (Nat × B)) (t : List V) (h : List (Nat × B)) : Prop
 | mk (ρ : List (Nat × Nat)) (y : α) (hI : I y) (hk : subK ρ N b (T y) (H y) t h) : JoinB I N b T H t h
noncomputable def joinK {α : Type} (N b : Nat) (K : Ex → List V → List (Nat × B) → Nat → Prop) (I : α → Prop) (T : α → List V) (H : α → List (Nat × B)) : Ex → List V → List (Nat × B) → Nat → Prop:=fun e t h b'=>
 match e with
 | .normal=>JoinB I N b T H t h
 | .exit i=>K (.exit i) t h b'
 | .ret=>K .ret t h b'
theorem joinB (ht : TabOk P tab) (hmix : P.follows .mixedOrders = true) {N : Nat} {c : Code} {t : List V} {h : List (Nat × B)} {b : Nat} {K : Ex → List V → List (Nat × B) → Nat → Prop} {α : Type} (l : List Nat) (hs : List Nat) (tv : α → List (Nat × V)) (hv : α → List (Nat × B)) (I : α → Prop)
 (hk : stepK P tab N c t h b (joinK N b K I (fun y=>putsT (tv y) (keepT 0 l t)) (fun y=>hv y ++ keepH hs h))) (next : ∀ y,I y → headsK (putsT (tv y) (keepT 0 l t)) fun t=>listK (hv y ++ keepH hs h) fun h=>K .normal t h b) : StepB P tab N c t h b K:=by
 refine ⟨fun hb=>?_⟩
 intro rd hrd dep F ids w a hr
 refine wpIn_mono (stepK_of ht hmix hk hb rd hrd dep F ids w a hr) ?_
 rintro e a' w' ⟨x,s',ids',hx,⟨t',h',b',rfl,e1,hb',hq⟩,hr',hkp⟩
 cases x with
 | exit i=>exact ⟨.exit i,_,ids',hx,⟨t',h',b',rfl,e1,hb',hq⟩,hr',hkp⟩
 | ret=>exact ⟨.ret,_,ids',hx,⟨t',h',b',rfl,e1,hb',hq⟩,hr',hkp⟩
 | normal=>
  obtain ⟨ρ,y,hI,hsub⟩:=hq
  obtain ⟨hs1,hs2⟩:=subK_of (b':=b') hsub
  obtain ⟨ids2,hr2,hk2⟩:=hs1 F ids' w' a' hr'
  exact ⟨.normal,_,ids2,hx,⟨_,_,b,rfl,hs2.trans e1,hb,listK_of (headsK_of (next y hI))⟩,hr2,hkp.step hk2 rfl⟩
end
set_option linter.unusedVariables false
set_option linter.unusedSimpArgs false
theorem RepV.sub {A A' : Nat → Prop} {ids : Nat → Nat × Nat} {w : World} (hA : ∀ b,A' b → A b) {x : V} {v : Value} (h : RepV A ids w x v) : RepV A' ids w x v:=by
 induction h with
 | un v=>exact .un v
 | c v=>exact .c v
 | lst sz rows clip v h hcl=>exact .lst _ _ _ _ (h.mono (Goes.refl A w) fun b _ x=>hA b x) hcl
 | sl n sz off len cap ad hl hc=>exact .sl _ _ _ _ cap ad hl hc
 | sx n sz off len cap ad hl hc=>exact .sx _ _ _ _ _ ad hl hc
 | ac0 n sz ad=>exact .ac0 ..
 | ac1 n sz len v h0 h ih=>exact .ac1 _ _ _ _ h0 ih
 | p n sz i j=>exact .p ..
 | q row j b o cell hb' hn hc hd=>exact .q row j b o cell hb' (fun x=>hn (hA b x)) hc fun k d hk=>(hd k d hk).mono (Goes.refl A w) fun b _ x=>hA b x
 | agg xs arr hs h ih=>exact .agg _ _ hs fun i x v h1 h2=>ih i x v h1 h2
 | tup xs arr hs h ih=>exact .tup _ _ hs fun i x v h1 h2=>ih i x v h1 h2
 | fn f xs ys ar br hs hs' h h' ih ih'=>exact .fn f xs ys ar br hs hs' (fun i x v h1 h2=>ih i x v h1 h2) (fun i x v h1 h2=>ih' i x v h1 h2)
 | ifc t x v h ih=>exact .ifc _ _ _ ih
 | mp n=>exact .mp ..
theorem renV_below {σ : Nat → Nat} {M M' : Nm} (hm : ∀ n,M n → M' (σ n)) {x : V} (h : x.Below M) : (renV σ x).Below M':=by
 induction h with
 | un=>rw [renV];exact .un
 | c v=>rw [renV];exact .c v
 | lst sz rows clip=>rw [renV];exact .lst ..
 | sl n sz off len h=>rw [renV];exact .sl _ _ _ _ (hm n h)
 | ac n sz len h=>rw [renV];exact .ac _ _ _ (hm n h)
 | sx n sz off len cap h=>rw [renV];exact .sx _ _ _ _ _ (hm n h)
 | p n sz i j h=>rw [renV];exact .p _ _ _ _ (hm n h)
 | q row j=>rw [renV];exact .q ..
 | agg xs h ih=>rw [renV,renVs_map];exact .agg _ fun x hx=>by obtain ⟨y,hy,rfl⟩:=List.mem_map.1 hx;exact ih y hy
 | tup xs h ih=>rw [renV,renVs_map];exact .tup _ fun x hx=>by obtain ⟨y,hy,rfl⟩:=List.mem_map.1 hx;exact ih y hy
 | fn f a b h h' ih ih'=>
  rw [renV,renVs_map,renVs_map]
  exact .fn _ _ _ (fun x hx=>by obtain ⟨y,hy,rfl⟩:=List.mem_map.1 hx;exact ih y hy) (fun x hx=>by obtain ⟨y,hy,rfl⟩:=List.mem_map.1 hx;exact ih' y hy)
 | ifc t x h ih=>rw [renV];exact .ifc _ _ ih
 | mp n h=>rw [renV];exact .mp _ (hm n h)
theorem renB_below {σ : Nat → Nat} {M M' : Nm} (hm : ∀ n,M n → M' (σ n)) {b : B} (h : b.Below M) : (renB σ b).Below M':=by
 cases b with
 | dat sz r=>trivial
 | rows sz r=>
  intro row hr x hx
  obtain ⟨row',hr',rfl⟩:=List.mem_map.1 hr
  rw [renVs_map] at hx
  obtain ⟨y,hy,rfl⟩:=List.mem_map.1 hx
  exact renV_below hm (h row' hr' y hy)
 | map es=>
  intro e he
  obtain ⟨e',he',rfl⟩:=List.mem_map.1 he
  exact renV_below hm (h e' he')
section
variable {P : Program} {tab : Tab}
def LSpec (P : Program) (f : FuncId) (args : List V) (H : List (Nat × B)) (N : Nat) (r : V) (H' : List (Nat × B)) (N' : Nat) : Prop:=
 (∀ x ∈ args,x.Below (Lt N)) ∧ (∀ p ∈ H,p.1 < N ∧ p.2.Below (Lt N)) ∧
 ∀ (F : Nat → Prop) (ids : Nat → Nat × Nat) (w : World) (vals : Array Value),RepH F ids w (hAt H) (Lt N) → vals.size = args.length →
  (∀ (i : Nat) (x : V) (v : Value),args[i]? = some x → vals[i]? = some v → RepV (Avoid F (hAt H) ids) ids w x v) →
  (callFunc f vals).run P w = .ok (.enter f vals) w ∧ Calls P f vals w fun e w'=>∃ v ids',e = .returned v ∧ Chg F ids w (hAt H) (Lt N) ids' w' (hAt H') (Lt N') ∧ RepV (Avoid F (hAt H') ids') ids' w' r v ∧ r.Below (Lt N')
noncomputable def retK (ρ : List (Nat × Nat)) (N N' : Nat) (r : V) (H' : List (Nat × B)) (v : V) (h : List (Nat × B)) : Prop:=
 okK (ρ.all fun p=>Nat.ble N p.1) (okK (noTwice (H'.map fun p=>ren1 ρ p.1)) (subV (ren1 ρ) (frOf (ren1 ρ) H') h N' r v (subH (ren1 ρ) (frOf (ren1 ρ) H') N' H' h True)))
inductive RetL (N N' : Nat) (r : V) (H' : List (Nat × B)) (v : V) (h : List (Nat × B)) : Prop
 | mk (ρ : List (Nat × Nat)) (hk : retK ρ N N' r H' v h) : RetL N N' r H' v h
theorem LSpec.of (ht : TabOk P tab) (hmix : P.follows .mixedOrders = true) {f : FuncId} {fn : Func} (hf : P.funcs[f]? = some fn) (hname : (fn.name == "runtime.NumGoroutine") = false)
 {args : List V} {H : List (Nat × B)} {N : Nat} {r : V} {H' : List (Nat × B)} {N' : Nat} (ha : ∀ x ∈ args,x.Below (Lt N)) (hH : ∀ p ∈ H,p.1 < N ∧ p.2.Below (Lt N)) (hNN : N ≤ N') (hN : N ≤ 64)
 (h : fnK P tab N fn args H 64 fun v h' b=>RetL N N' r H' v h') : LSpec P f args H N r H' N':=by
 obtain ⟨c,hc,hlen,hw0⟩:=fnK_of ht hmix hN h
 refine ⟨ha,hH,fun F ids w vals hh hsz hv=>⟨?_,?_⟩⟩
 · simp only [callFunc,Sem.run_bind,run_program,Result.andThen_ok,hf,hname,Bool.false_eq_true,if_false,hc,Option.isNone_some,Sem.run_pure]
 · have hbody':=hc
   have hget : ∀ i,args.length ≤ i → args.getD i .un = .un:=fun i hi=>by simp [List.getD_eq_getElem?_getD,hi]
   have hrep : Rep F ids w ⟨fun i=>args.getD i .un,hAt H,64,fn.ntmps⟩ { tmps:=vals ++ Array.replicate (fn.ntmps - vals.size) undef,defers:=[] }:=by
    refine ⟨hh.nx (Lt_le hN),fun i=>?_,by simp;omega,fun i hi=>hget i (Nat.le_trans hlen hi),fun i=>?_,.nil⟩
    · show RepV _ _ _ (args.getD i .un) _
      by_cases hi : i < args.length
      · have hx : args[i]? = some args[i]:=by simp [hi]
        have hvi : vals[i]? = some (vals[i]'(by omega)):=by simp [hsz,hi]
        have:=hv i args[i] _ hx hvi
        simp only [List.getD_eq_getElem?_getD,hx,Option.getD_some,Array.getD_eq_getD_getElem?,Array.getElem?_append_left (show i < vals.size by omega),hvi]
        exact this
      · rw [hget i (by omega)];exact .un _
    · show V.Below _ (args.getD i .un)
      by_cases hi : i < args.length
      · have hx : args[i]? = some args[i]:=by simp [hi]
        simp only [List.getD_eq_getElem?_getD,hx,Option.getD_some]
        exact (ha _ (List.getElem_mem hi)).mono (Lt_le hN)
      · rw [hget i (by omega)];exact .un
   refine calls_of_awp hf hbody' hw0 hrep (fun k s' hq=>False.elim hq.1) ?_
   rintro x s' ids' w' a' ⟨hx',hq⟩ hr' hk
   obtain ⟨y,v,⟨h',eh,_,ρ,hret⟩,k2,k3,k4⟩:=results_sound (P:=P) ht hr' fn (fun y=>∃ h',s'.h = hAt h' ∧ N ≤ s'.b ∧ RetL N N' r H' y h') hq
   obtain ⟨g1,hret⟩:=okK_of hret
   obtain ⟨g2,hret⟩:=okK_of hret
   obtain ⟨hret,g3,g4⟩:=subV_of hret
   obtain ⟨_,g5⟩:=subH_of hret
   have hren0 : Ren (ren1 ρ) (hAt h') (hAt H') (Lt N'):=subH_ren (noTwice_nodup g2) g5
   have hren : Ren (ren1 ρ) s'.h (hAt H') (Lt N'):=by rw [eh];exact hren0
   have hend : ∃ v,(results fn a'.tmps).run P w' = .ok v w' ∧ ∃ v' ids2,Ending.returned v = .returned v' ∧ Chg F ids w (hAt H) (Lt N) ids2 w' (hAt H') (Lt N') ∧ RepV (Avoid F (hAt H') ids2) ids2 w' r v' ∧ r.Below (Lt N'):=by
    refine ⟨v,k2,v,fun n=>ids' (ren1 ρ n),rfl,⟨hren.heap hr'.heap,hk.goes,fun b hb x=>hk.live b hb ?_,fun n hn=>by rw [ren1_id g1 hn];exact hk.ids n hn,fun k hk=>Nat.lt_of_lt_of_le hk hNN⟩,?_,g3⟩
    · obtain ⟨n,c,hn,hcr,hb⟩:=x
      obtain ⟨b',q1,q2,_⟩:=hren.real hn hcr
      exact ⟨_,_,q1,q2,hb⟩
    · have hrh:=hr'.heap
      rw [eh] at k3 hrh
      exact g4.rep hren0 hrh k3
   exact hend
def sgm : List (Option Nat) → Nat → Nat → Nat → Nat
 | [],nm,_,n=>nm + n
 | some x :: _,_,_,0=>x
 | none :: _,nm,i,0=>nm + 32 + i
 | _ :: L,nm,i,n + 1=>sgm L nm (i + 1) n
theorem sgm_ge {nm : Nat} : ∀ {L : List (Option Nat)} {i n : Nat},L.length ≤ n → sgm L nm i n = nm + (n - L.length)
 | [],i,n,_=>by simp [sgm]
 | some x :: L,i,0,h=>by simp at h
 | none :: L,i,0,h=>by simp at h
 | some x :: L,i,n + 1,h=>by rw [sgm,sgm_ge (by simpa using h)];simp
 | none :: L,i,n + 1,h=>by rw [sgm,sgm_ge (by simpa using h)];simp
theorem sgm_lt {nm : Nat} : ∀ {L : List (Option Nat)} {i n : Nat},n < L.length → (∃ x,some x ∈ L ∧ sgm L nm i n = x) ∨ sgm L nm i n = nm + 32 + (i + n)
 | [],i,n,h=>by simp at h
 | some x :: L,i,0,h=>.inl ⟨x,by simp,rfl⟩
 | none :: L,i,0,h=>.inr rfl
 | some x :: L,i,n + 1,h=>by
  rcases sgm_lt (L:=L) (nm:=nm) (i:=i + 1) (n:=n) (by simpa using h) with ⟨y,h1,h2⟩ | h1
  · exact .inl ⟨y,by simp [h1],h2⟩
  · exact .inr (by rw [sgm,h1];omega)
 | none :: L,i,n + 1,h=>by
  rcases sgm_lt (L:=L) (nm:=nm) (i:=i + 1) (n:=n) (by simpa using h) with ⟨y,h1,h2⟩ | h1
  · exact .inl ⟨y,by simp [h1],h2⟩
  · exact .inr (by rw [sgm,h1];omega)
noncomputable def passT (σ : Nat → Nat) (N : Nat) (Z : List Nat) (h : List (Nat × B)) (l : List V) : SubT:=subT σ (fun n=>Z.contains n) h N l
theorem passT_of {σ : Nat → Nat} {N : Nat} {Z : List Nat} {h : List (Nat × B)} {l xs : List V} {K : Prop} (hk : passT σ N Z h l xs K) : K ∧ l.length = xs.length ∧ ∀ h2 : Hp,(∀ n ∈ Z,h2 n = hAt h n) → ∀ (i : Nat) (a x : V),l[i]? = some a → xs[i]? = some x → Wk h2 (fun n=>n ∉ Z) σ a x:=by
 obtain ⟨h1,h2,h3⟩:=subs_of subV_of hk
 refine ⟨h1,h2,fun hp hh i a x ha hx=>?_⟩
 have:=(h3 i a x ha hx).2 hp fun n hn=>hh n (by simpa using hn)
 have e : (fun n=>Z.contains n = false) = fun n=>n ∉ Z:=by funext n;simp
 rw [← e];exact this
theorem appU_none : ∀ {Z : List Nat} {h : Hp} {m : Nat} {b : B},appU h (Z.map fun z=>(z,none)) m = some b → m ∉ Z ∧ h m = some b
 | [],h,m,b,e=>⟨by simp,e⟩
 | z :: Z,h,m,b,e=>by
  obtain ⟨h1,h2⟩:=appU_none (Z:=Z) (h:=upd h z none) e
  unfold upd at h2
  split at h2
  · cases h2
  · next hne=>exact ⟨by simp [hne,h1],h2⟩
theorem appU_append : ∀ {u v : List (Nat × Option B)} {h : Hp},appU h (u ++ v) = appU (appU h u) v
 | [],v,h=>rfl
 | p :: u,v,h=>appU_append (u:=u)
theorem appU_put {σ : Nat → Nat} : ∀ {H : List (Nat × B)} {h : Hp} {m : Nat} {b : B},(H.map fun p=>σ p.1).Nodup → appU h (H.map fun p=>(σ p.1,some (renB σ p.2))) m = some b → (∃ p ∈ H,σ p.1 = m ∧ b = renB σ p.2) ∨ ((∀ p ∈ H,σ p.1 ≠ m) ∧ h m = some b)
 | [],h,m,b,_,e=>.inr ⟨by simp,e⟩
 | z :: Z,h,m,b,hn,e=>by
  rw [List.map_cons,List.nodup_cons] at hn
  rcases appU_put (H:=Z) (h:=upd h (σ z.1) (some (renB σ z.2))) hn.2 e with ⟨p,hp,e1,e2⟩ | ⟨h1,h2⟩
  · exact .inl ⟨p,by simp [hp],e1,e2⟩
  · unfold upd at h2
    split at h2
    · next he=>cases h2;exact .inl ⟨z,by simp,he.symm,rfl⟩
    · next hne=>exact .inr ⟨fun p hp=>by rcases List.mem_cons.1 hp with rfl | hp;exact fun e=>hne e.symm;exact h1 p hp,h2⟩
def effOf (σ : Nat → Nat) (Z : List Nat) (H H' : List (Nat × B)) : List (Nat × Option B):=
 (Z ++ H.map fun p=>σ p.1).map (fun z=>(z,none)) ++ H'.map fun p=>(σ p.1,some (renB σ p.2))
theorem hAt_of_mem : ∀ {l : List (Nat × B)},(l.map Prod.fst).Nodup → ∀ p ∈ l,hAt l p.1 = some p.2
 | [],_,p,hp=>by simp at hp
 | q :: l,hn,p,hp=>by
  rw [List.map_cons,List.nodup_cons] at hn
  simp only [hAt]
  rcases List.mem_cons.1 hp with rfl | hp'
  · rw [show Nat.beq p.1 p.1 = true from Nat.beq_refl _]
  · split
    · next e=>exact absurd (by rw [← Nat.eq_of_beq_eq_true e];exact List.mem_map_of_mem hp') hn.1
    · exact hAt_of_mem hn.2 p hp'
theorem LSpec.run {f : FuncId} {args : List V} {H : List (Nat × B)} {r : V} {H' : List (Nat × B)} {N N' : Nat} (hs : LSpec P f args H N r H' N') {h : Hp} {M : Nm} {xs : List V} {nm : Nat} (L : List (Option Nat)) (Z : List Nat)
 (hfresh : ∀ k,nm ≤ k → k < nm + 64 → ¬ M k) (hL : L.length = N) (hLt : ∀ x,some x ∈ L → M x) (hN : N ≤ 32) (hN' : N' ≤ N + 32) (hlen : args.length = xs.length) (hx : ∀ (i : Nat) (a x : V),args[i]? = some a → xs[i]? = some x → Wk h (fun n=>n ∉ Z) (sgm L nm 0) a x)
 (hH : ∀ p ∈ H,((∃ b',h (sgm L nm 0 p.1) = some b' ∧ WkB h (fun n=>n ∉ Z) (sgm L nm 0) p.2 b') ∨ p.2.real = false) ∧ sgm L nm 0 p.1 ∉ Z)
 (hinj : (H.map fun p=>sgm L nm 0 p.1).Nodup) (hinj' : (H'.map fun p=>sgm L nm 0 p.1).Nodup) :
 ACall P f xs h M nm fun v h'=>v = renV (sgm L nm 0) r ∧ h' = appU h (effOf (sgm L nm 0) Z H H'):=by
 subst hL
 obtain ⟨ha,hb,hs⟩:=hs
 intro F ids w vals hh hsz hv
 generalize hσ : sgm L nm 0 = σ at *
 have σlt : ∀ n,n < L.length → M (σ n) ∨ σ n = nm + 32 + n:=by
  intro n hn
  subst hσ
  rcases sgm_lt (nm:=nm) (i:=0) hn with ⟨x,h1,h2⟩ | h1
  · exact .inl (h2 ▸ hLt x h1)
  · exact .inr (by rw [h1];omega)
 have σge : ∀ n,L.length ≤ n → σ n = nm + (n - L.length):=fun n hn=>hσ ▸ sgm_ge hn
 let rest : Nat → Prop:=fun m=>(∃ x,h m = some x ∧ x.real = true) ∧ (∀ p ∈ H,σ p.1 ≠ m) ∧ m ∉ Z
 let F' : Nat → Prop:=fun b=>F b ∨ ∃ m,rest m ∧ (ids m).1 = b
 have hHn : ∀ n b,hAt H n = some b → b.real = true → ∃ b',h (σ n) = some b' ∧ b'.real = true ∧ WkB h (fun n=>n ∉ Z) σ b b' ∧ σ n ∉ Z:=fun n b hn hr=>by
  obtain ⟨b',q1,q2⟩:=(hH _ (hAt_mem hn)).1.resolve_right (by simp [hr])
  exact ⟨b',q1,q2.1.trans hr,q2,(hH _ (hAt_mem hn)).2⟩
 have hav : ∀ b,Avoid F' (hAt H) (fun n=>ids (σ n)) b → Avoid F h ids b:=by
  rintro b ((hF | ⟨m,⟨⟨x,hx,hxr⟩,_⟩,hm⟩) | ⟨n,x,hn,hr,hb⟩)
  · exact .inl hF
  · exact .inr ⟨m,x,hx,hxr,hm⟩
  · obtain ⟨b',q1,q2,_⟩:=hHn n x hn hr
    exact .inr ⟨σ n,b',q1,q2,hb⟩
 have hX0 : ∀ n x,h n = some x → x.real = true → ¬ (n ∉ Z) → ¬ Avoid F' (hAt H) (fun n=>ids (σ n)) (ids n).1:=by
  intro n x hn hxr hz
  have hz : n ∈ Z:=Classical.not_not.1 hz
  rintro ((hF | ⟨m,⟨⟨x',hx',hxr'⟩,_,hz'⟩,hm⟩) | ⟨m,x',hm,hr',hb⟩)
  · exact hh.out n x hn hxr hF
  · exact hz' (hh.inj _ _ _ _ hx' hn hxr' hxr hm ▸ hz)
  · obtain ⟨b',q1,q2,_,q4⟩:=hHn m x' hm hr'
    have:=hh.inj _ _ _ _ q1 hn q2 hxr hb
    exact q4 (this ▸ hz)
 have ghost : ∀ {A : Nat → Prop} {ids : Nat → Nat × Nat} {w : World} {p : Nat × Nat} {b : B},b.real = false → RepB A ids w p b:=by
  intro A ids w p b hr
  cases b with
  | dat sz rw=>cases rw with
   | nil=>exact ⟨fun h=>absurd rfl h,by simp [leaves]⟩
   | cons _ _=>cases hr
  | _=>cases hr
 have hh0 : RepH F' (fun n=>ids (σ n)) w (hAt H) (Lt L.length):=by
  refine ⟨fun n b hn=>(hb _ (hAt_mem hn)).1,fun n b hn=>?_,fun n b hn=>(hb _ (hAt_mem hn)).2,fun n m b c hn hm hbr hcr e=>?_,fun n b hn hbr hF=>?_,fun b hF=>?_⟩
  · cases hbr : b.real with
    | true=>
     obtain ⟨b',q1,_,q3,_⟩:=hHn n b hn hbr
     exact q3.2 F _ ids w M hh hav hX0 _ (hh.blk _ _ q1)
    | false=>exact ghost hbr
  · obtain ⟨b1,q1,q2,_⟩:=hHn n b hn hbr
    obtain ⟨b2,q3,q4,_⟩:=hHn m c hm hcr
    have e2:=hh.inj _ _ _ _ q1 q3 q2 q4 e
    exact congrArg Prod.fst (nodup_inj (f:=fun p : Nat × B=>σ p.1) hinj _ (hAt_mem hn) _ (hAt_mem hm) e2)
  · rcases hF with hF | ⟨m,⟨⟨x,hx,hxr⟩,h1,h2⟩,hm⟩
    · obtain ⟨b1,q1,q2,_⟩:=hHn n b hn hbr
      exact hh.out _ _ q1 q2 hF
    · obtain ⟨b1,q1,q2,_⟩:=hHn n b hn hbr
      have e2:=hh.inj _ _ _ _ hx q1 hxr q2 hm
      exact h1 _ (hAt_mem hn) e2.symm
  · rcases hF with hF | ⟨m,⟨⟨x,hx,hxr⟩,h1,h2⟩,hm⟩
    · exact hh.fsz b hF
    · exact hh.liveLt ⟨m,x,hx,hxr,hm⟩
 have hvals : ∀ (i : Nat) (x : V) (v : Value),args[i]? = some x → vals[i]? = some v → RepV (Avoid F' (hAt H) fun n=>ids (σ n)) (fun n=>ids (σ n)) w x v:=by
  intro i a v hai hvi
  have hi : i < xs.length:=by rw [← hlen];exact (List.getElem?_eq_some_iff.1 hai).1
  have hxi : xs[i]? = some xs[i]:=by simp [hi]
  exact hx i a xs[i] hai hxi F _ ids w M hh hav hX0 v (hv i xs[i] v hxi hvi)
 obtain ⟨c1,c2⟩:=hs F' (fun n=>ids (σ n)) w vals hh0 (by rw [hsz,hlen]) hvals
 refine .inl ⟨c1,c2.mono ?_⟩
 rintro e w' ⟨v,ids1,rfl,hc,hrv,hrb⟩
 let ids2 : Nat → Nat × Nat:=fun m=>if nm ≤ m ∧ m < nm + 32 then ids1 (L.length + (m - nm)) else if nm + 32 ≤ m ∧ m < nm + 64 then ids1 (m - nm - 32) else ids m
 have hold : ∀ m,M m → ids2 m = ids m:=by
  intro m hm
  have : ¬ (nm ≤ m ∧ m < nm + 64):=fun ⟨a,b⟩=>hfresh m a b hm
  show (if _ then _ else if _ then _ else _) = _
  rw [if_neg (by omega),if_neg (by omega)]
 have hi2 : ∀ k,Lt N' k → ids2 (σ k) = ids1 k:=by
  intro k hkN
  have hkN : k < N':=hkN
  by_cases hk : k < L.length
  · rcases σlt k hk with hm | e
    · rw [hold _ hm,hc.ids k hk]
    · show (if _ then _ else if _ then _ else _) = _
      rw [if_neg (by omega),if_pos (by omega),e]
      congr 1;omega
  · have:=σge k (Nat.le_of_not_lt hk)
    show (if _ then _ else if _ then _ else _) = _
    rw [if_pos (by omega),this]
    congr 1;omega
 have hσM : ∀ n,Lt N' n → M (σ n) ∨ (nm ≤ σ n ∧ σ n < nm + 64):=fun n hn=>by
  have hn : n < N':=hn
  by_cases hk : n < L.length
  · rcases σlt n hk with hm | e
    · exact .inl hm
    · exact .inr (by omega)
  · have:=σge n (Nat.le_of_not_lt hk)
    exact .inr (by omega)
 generalize hh2 : appU h (effOf σ Z H H') = h2
 have h2cases : ∀ m b,h2 m = some b → (∃ n c,hAt H' n = some c ∧ σ n = m ∧ b = renB σ c) ∨ ((∀ p ∈ H,σ p.1 ≠ m) ∧ m ∉ Z ∧ h m = some b):=by
  intro m b hm
  rw [← hh2,effOf,appU_append] at hm
  rcases appU_put hinj' hm with ⟨p,hp,e1,e2⟩ | ⟨h1,h3⟩
  · refine .inl ⟨p.1,p.2,hAt_of_mem ?_ p hp,e1,e2⟩
    have:=hinj'
    rw [show (fun p : Nat × B=>σ p.1) = σ ∘ Prod.fst from rfl,← List.map_map] at this
    exact List.Pairwise.of_map σ (fun a b hab e=>hab (e ▸ rfl)) this
  · obtain ⟨h4,h5⟩:=appU_none h3
    simp only [List.mem_append,List.mem_map,not_or,not_exists,not_and] at h4
    exact .inr ⟨fun p hp=>h4.2 p hp,h4.1,h5⟩
 have hN'lt : ∀ n c,hAt H' n = some c → Lt N' n:=fun n c hn=>hc.heap.lt n c hn
 have hav2 : ∀ b,Avoid F h2 ids2 b → Avoid F' (hAt H') ids1 b:=by
  rintro b (hF | ⟨m,x,hm,hxr,hb⟩)
  · exact .inl (.inl hF)
  · rcases h2cases m x hm with ⟨n,c,hn,rfl,rfl⟩ | ⟨h1,h2,hhm⟩
    · exact .inr ⟨n,c,hn,by rw [renB_real] at hxr;exact hxr,by rw [← hi2 n (hN'lt n c hn)];exact hb⟩
    · exact .inl (.inr ⟨m,⟨⟨x,hhm,hxr⟩,h1,h2⟩,by rw [← hold m (hh.lt m x hhm)];exact hb⟩)
 have hav3 : ∀ b,b < w.heap.size → Avoid F h2 ids2 b → Avoid F h ids b:=by
  rintro b hbs (hF | ⟨m,x,hm,hxr,hb⟩)
  · exact .inl hF
  · rcases h2cases m x hm with ⟨n,c,hn,rfl,rfl⟩ | ⟨h1,h2,hhm⟩
    · obtain ⟨n',x',hn',hxr',hb'⟩:=hc.live b hbs ⟨n,c,hn,by rw [renB_real] at hxr;exact hxr,by rw [← hi2 n (hN'lt n c hn)];exact hb⟩
      obtain ⟨b1,q1,q2,_⟩:=hHn n' x' hn' hxr'
      exact .inr ⟨σ n',b1,q1,q2,hb'⟩
    · exact .inr ⟨m,x,hhm,hxr,by rw [← hold m (hh.lt m x hhm)];exact hb⟩
 have hgl : Goes (Live h ids) w w':=hc.goes.weaken fun b _ ⟨n,x,hn,hr,hb⟩=>by
  obtain ⟨b1,q1,q2,_⟩:=hHn n x hn hr
  exact ⟨σ n,b1,q1,q2,hb⟩
 have hga : Goes (Avoid F h ids) w w':=hgl.weaken fun b _ x=>.inr x
 have hrest : ∀ m n x c,(∀ p ∈ H,σ p.1 ≠ m) → m ∉ Z → h m = some x → x.real = true → hAt H' n = some c → c.real = true → (ids m).1 ≠ (ids1 n).1:=fun m n x c h1 h2 hx hxr hn hcr e=>hc.heap.out n c hn hcr (.inr ⟨m,⟨⟨x,hx,hxr⟩,h1,h2⟩,e⟩)
 refine ⟨v,renV σ r,h2,ids2,rfl,⟨rfl,hh2.symm ▸ rfl⟩,⟨⟨fun m b hm=>?_,fun m b hm=>?_,fun m b hm=>?_,fun m1 m2 b1 b2 hm1 hm2 hb1 hb2 e=>?_,fun m b hm hbr hF=>?_,fun b hF=>Nat.lt_of_lt_of_le (hh.fsz b hF) hgl.size⟩,hgl,fun b hbs x=>?_,hold,fun k hk=>.inl hk⟩,?_,renV_below hσM hrb⟩
 · rcases h2cases m b hm with ⟨n,c,hn,rfl,rfl⟩ | ⟨h1,h2,hhm⟩
   · exact hσM n (hN'lt n c hn)
   · exact .inl (hh.lt m b hhm)
 · rcases h2cases m b hm with ⟨n,c,hn,rfl,rfl⟩ | ⟨h1,h2,hhm⟩
   · have:=hc.heap.blk n c hn
     rw [hi2 n (hN'lt n c hn)]
     exact rep_renB (fun b _ x=>hav2 b x) hi2 this (hc.heap.below n c hn)
   · have hb1:=hh.blk m b hhm
     rw [hold m (hh.lt m b hhm)]
     refine hb1.mono hga hav3 hold (hh.below m b hhm) fun hbr=>hc.goes.same _ (hb1.lt hbr) ?_
     rintro ⟨n,x,hn,hxr,hb⟩
     obtain ⟨b1,q1,q2,_⟩:=hHn n x hn hxr
     have:=hh.inj _ _ _ _ q1 hhm q2 hbr hb
     exact h1 _ (hAt_mem hn) this
 · rcases h2cases m b hm with ⟨n,c,hn,rfl,rfl⟩ | ⟨h1,h2,hhm⟩
   · exact renB_below hσM (hc.heap.below n c hn)
   · exact (hh.below m b hhm).mono fun k hk=>.inl hk
 · rcases h2cases m1 b1 hm1 with ⟨n,c,hn,rfl,rfl⟩ | ⟨h1,h2,hhm⟩
   · rw [renB_real] at hb1
     rcases h2cases m2 b2 hm2 with ⟨n',c',hn',rfl,rfl⟩ | ⟨h1',h2',hhm'⟩
     · rw [renB_real] at hb2
       rw [hi2 n (hN'lt n c hn),hi2 n' (hN'lt n' c' hn')] at e
       rw [hc.heap.inj n n' c c' hn hn' hb1 hb2 e]
     · rw [hi2 n (hN'lt n c hn),hold m2 (hh.lt m2 b2 hhm')] at e
       exact absurd e.symm (hrest m2 n b2 c h1' h2' hhm' hb2 hn hb1)
   · rcases h2cases m2 b2 hm2 with ⟨n',c',hn',rfl,rfl⟩ | ⟨h1',h2',hhm'⟩
     · rw [renB_real] at hb2
       rw [hi2 n' (hN'lt n' c' hn'),hold m1 (hh.lt m1 b1 hhm)] at e
       exact absurd e (hrest m1 n' b1 c' h1 h2 hhm hb1 hn' hb2)
     · rw [hold m1 (hh.lt m1 b1 hhm),hold m2 (hh.lt m2 b2 hhm')] at e
       exact hh.inj m1 m2 b1 b2 hhm hhm' hb1 hb2 e
 · rcases h2cases m b hm with ⟨n,c,hn,rfl,rfl⟩ | ⟨h1,h2,hhm⟩
   · rw [hi2 n (hN'lt n c hn)] at hF
     exact hc.heap.out n c hn (by rw [renB_real] at hbr;exact hbr) (.inl hF)
   · rw [hold m (hh.lt m b hhm)] at hF
     exact hh.out m b hhm hbr hF
 · rcases hav3 b hbs (.inr x) with hF | hl
   · obtain ⟨m,y,hm,hyr,hb⟩:=x
     rcases h2cases m y hm with ⟨n,c,hn,rfl,rfl⟩ | ⟨h1,h2,hhm⟩
     · rw [hi2 n (hN'lt n c hn)] at hb
       exact absurd (Or.inl (hb ▸ hF)) (hc.heap.out n c hn (by rw [renB_real] at hyr;exact hyr))
     · rw [hold m (hh.lt m y hhm)] at hb
       exact absurd (hb ▸ hF) (hh.out m y hhm hyr)
   · exact hl
 · exact rep_ren (fun b _ x=>hav2 b x) hi2 hrv hrb
end
set_option linter.unusedVariables false
set_option linter.unusedSimpArgs false
def natK (n : Nat) (K : Nat → Prop) : Prop:=
 match n with
 | 0=>K 0
 | m + 1=>sucK m K
theorem natK_of {n : Nat} {K : Nat → Prop} (h : natK n K) : K n:=by
 cases n with
 | zero=>exact h
 | succ m=>exact sucK_of h
abbrev NatsT:=(List Nat → Prop) → Prop
def natsCons (x : Nat) (l : List Nat) (ih : NatsT) : NatsT:=fun K=>natK x fun x=>ih fun l=>K (x :: l)
noncomputable def natsK (l : List Nat) : NatsT:=List.rec (motive:=fun _=>NatsT) (fun K=>K []) natsCons l
theorem natsK_of : ∀ {l : List Nat} {K : List Nat → Prop},natsK l K → K l
 | [],_,h=>h
 | x :: l,K,h=>natsK_of (l:=l) (K:=fun l=>K (x :: l)) (natK_of (K:=fun x=>natsK l fun l=>K (x :: l)) h)
noncomputable def namesK (σ : Nat → Nat) (H : List (Nat × B)) (K : List Nat → Prop) : Prop:=natsK (H.map fun p=>σ p.1) K
theorem namesK_of {σ : Nat → Nat} {H : List (Nat × B)} {K : List Nat → Prop} (h : namesK σ H K) : K (H.map fun p=>σ p.1):=natsK_of h
def nheadK (x : V) (K : V → Prop) : Prop:=
 match x with
 | .sl n sz off len=>natK n fun n=>K (.sl n sz off len)
 | .ac n sz len=>natK n fun n=>K (.ac n sz len)
 | .sx n sz off len cap=>natK n fun n=>K (.sx n sz off len cap)
 | .p n sz i j=>natK n fun n=>K (.p n sz i j)
 | .mp n=>natK n fun n=>K (.mp n)
 | x=>headK x K
theorem nheadK_of {x : V} {K : V → Prop} (h : nheadK x K) : K x:=by
 unfold nheadK at h
 split at h
 · exact natK_of (K:=fun n=>K (.sl n _ _ _)) h
 · exact natK_of (K:=fun n=>K (.ac n _ _)) h
 · exact natK_of (K:=fun n=>K (.sx n _ _ _ _)) h
 · exact natK_of (K:=fun n=>K (.p n _ _ _)) h
 · exact natK_of (K:=fun n=>K (.mp n)) h
 · exact headK_of h
abbrev NheadsT:=(List V → Prop) → Prop
def nheadsCons (x : V) (l : List V) (ih : NheadsT) : NheadsT:=fun K=>nheadK x fun x=>ih fun l=>K (x :: l)
noncomputable def nheadsK (l : List V) : NheadsT:=List.rec (motive:=fun _=>NheadsT) (fun K=>K []) nheadsCons l
theorem nheadsK_of : ∀ {l : List V} {K : List V → Prop},nheadsK l K → K l
 | [],_,h=>h
 | x :: l,K,h=>nheadsK_of (l:=l) (K:=fun l=>K (x :: l)) (nheadK_of (K:=fun x=>nheadsK l fun l=>K (x :: l)) h)
def nvalK (x : V) (K : V → Prop) : Prop:=
 match x with
 | .agg xs=>nheadsK xs fun xs=>K (.agg xs)
 | .tup xs=>nheadsK xs fun xs=>K (.tup xs)
 | .fn f a b=>nheadsK a fun a=>nheadsK b fun b=>K (.fn f a b)
 | .ifc t x=>nheadK x fun x=>K (.ifc t x)
 | x=>nheadK x K
theorem nvalK_of {x : V} {K : V → Prop} (h : nvalK x K) : K x:=by
 unfold nvalK at h
 split at h
 · exact nheadsK_of (K:=fun xs=>K (.agg xs)) h
 · exact nheadsK_of (K:=fun xs=>K (.tup xs)) h
 · exact nheadsK_of (K:=fun b=>K (.fn _ _ b)) (nheadsK_of (K:=fun a=>nheadsK _ fun b=>K (.fn _ a b)) h)
 · exact nheadK_of (K:=fun x=>K (.ifc _ x)) h
 · exact nheadK_of h
abbrev NrowsT:=(List (List V) → Prop) → Prop
def nrowsCons (x : List V) (l : List (List V)) (ih : NrowsT) : NrowsT:=fun K=>nheadsK x fun x=>ih fun l=>K (x :: l)
noncomputable def nrowsK (l : List (List V)) : NrowsT:=List.rec (motive:=fun _=>NrowsT) (fun K=>K []) nrowsCons l
theorem nrowsK_of : ∀ {l : List (List V)} {K : List (List V) → Prop},nrowsK l K → K l
 | [],_,h=>h
 | x :: l,K,h=>nrowsK_of (l:=l) (K:=fun l=>K (x :: l)) (nheadsK_of (K:=fun x=>nrowsK l fun l=>K (x :: l)) h)
def blkK (b : B) (K : B → Prop) : Prop:=
 match b with
 | .dat sz r=>K (.dat sz r)
 | .rows sz r=>nrowsK r fun r=>K (.rows sz r)
 | .map es=>K (.map es)
theorem blkK_of {b : B} {K : B → Prop} (h : blkK b K) : K b:=by
 cases b with
 | rows sz r=>exact nrowsK_of (K:=fun r=>K (.rows sz r)) h
 | _=>exact h
abbrev EffT:=List (Nat × B) → (List (Nat × B) → Prop) → Prop
def effNil : EffT:=fun h K=>K h
def effCons (p : Nat × Option B) (u : List (Nat × Option B)) (ih : EffT) : EffT:=fun h K=>
 natK p.1 fun n=>match p.2 with
  | none=>hDel h n fun h=>ih h K
  | some b=>blkK b fun b=>hSet h n b fun h=>ih h K
noncomputable def effK (u : List (Nat × Option B)) : EffT:=List.rec (motive:=fun _=>EffT) effNil effCons u
theorem effK_of : ∀ {u : List (Nat × Option B)} {h : List (Nat × B)} {K : List (Nat × B) → Prop},effK u h K → ∃ l,K l ∧ hAt l = appU (hAt h) u
 | [],h,K,hk=>⟨h,hk,rfl⟩
 | (n,none) :: u,h,K,hk=>by
  obtain ⟨h',h1,h2⟩:=hDel_of (natK_of (K:=fun n=>hDel h n fun h=>effK u h K) hk)
  obtain ⟨l,h3,h4⟩:=effK_of h1
  exact ⟨l,h3,by rw [h4,h2];rfl⟩
 | (n,some b) :: u,h,K,hk=>by
  have hk:=natK_of (K:=fun n=>blkK b fun b=>hSet h n b fun h=>effK u h K) hk
  obtain ⟨h',h1,h2⟩:=hSet_of (blkK_of (K:=fun b=>hSet h n b fun h=>effK u h K) hk)
  obtain ⟨l,h3,h4⟩:=effK_of h1
  exact ⟨l,h3,by rw [h4,h2];rfl⟩
def inBlk (x : Nat) : Option B → Bool
 | some b=>(namesB b).contains x
 | none=>false
def lOk (L : List (Option Nat)) (xs : List V) (H : List (Nat × B)) (σ : Nat → Nat) (h : List (Nat × B)) (nm : Nat) : Bool:=
 L.all fun o=>match o with
  | some x=>(namesOf xs).contains x || ((H.any fun p=>Nat.blt (σ p.1) nm && inBlk x (hAt h (σ p.1))) || H.any fun p=>Nat.beq (σ p.1) x && (Nat.blt (σ p.1) (σ p.1 + 1) && p.2.real))
  | none=>true
noncomputable def lcallK (args : List V) (H : List (Nat × B)) (N : Nat) (r : V) (H' : List (Nat × B)) (N' : Nat) (xs : List V) (h : List (Nat × B)) (nm : Nat) (L : List (Option Nat)) (Z : List Nat) (K : V → List (Nat × B) → Dyn → Prop) : Prop:=
 namesK (sgm L nm 0) H fun A=>namesK (sgm L nm 0) H' fun A'=>
 okK (Nat.beq L.length N) (okK (Nat.ble N 32) (okK (Nat.ble N' (N + 32)) (okK (lOk L xs H (sgm L nm 0) h nm) (okK (noTwice A) (okK (noTwice A')
 (okK (A.all fun n=>!Z.contains n) (okK ((A.all fun n=>Nat.blt n nm) || H.all fun p=>Nat.blt (sgm L nm 0 p.1) nm || !p.2.real) (okK (((A ++ A').filter fun n=>Nat.ble nm n).all fun n=>Nat.blt n (nm + 64))
 (passT (sgm L nm 0) N Z h args xs (subH (sgm L nm 0) (fun n=>Z.contains n) N H h (effK (effOf (sgm L nm 0) Z H H') h fun l=>nvalK (renV (sgm L nm 0) r) fun v=>
  listK (Z ++ (A ++ A').filter fun n=>Nat.blt n nm) fun hw=>listK ((A ++ A').filter fun n=>Nat.ble nm n) fun nw=>K v l ⟨[],hw,nw,false⟩)))))))))))
section
variable {P : Program} {tab : Tab}
theorem Below_name {M : Nm} {x : V} (h : x.Below M) : ∀ n ∈ nameOf x,M n:=by
 induction h with
 | un=>simp [nameOf]
 | c v=>simp [nameOf]
 | lst=>simp [nameOf]
 | q=>simp [nameOf]
 | sl n sz off len h=>simpa [nameOf] using h
 | ac n sz len h=>simpa [nameOf] using h
 | sx n sz off len cap h=>simpa [nameOf] using h
 | p n sz i j h=>simpa [nameOf] using h
 | mp n h=>simpa [nameOf] using h
 | agg xs h ih=>intro n hn;simp only [nameOf] at hn;obtain ⟨x,hx,hn⟩:=mem_namesOf.1 hn;exact ih x hx n hn
 | tup xs h ih=>intro n hn;simp only [nameOf] at hn;obtain ⟨x,hx,hn⟩:=mem_namesOf.1 hn;exact ih x hx n hn
 | fn f a b h h' ih ih'=>
  intro n hn
  simp only [nameOf,List.mem_append] at hn
  rcases hn with hn | hn <;> obtain ⟨x,hx,hn⟩:=mem_namesOf.1 hn
  · exact ih x hx n hn
  · exact ih' x hx n hn
 | ifc t x h ih=>intro n hn;simp only [nameOf] at hn;exact ih n hn
theorem B.Below_name {M : Nm} {b : B} (h : b.Below M) : ∀ n ∈ namesB b,M n:=by
 intro n hn
 cases b with
 | rows sz r=>
  obtain ⟨row,hr,hn⟩:=List.mem_flatMap.1 hn
  obtain ⟨x,hx,hn⟩:=mem_namesOf.1 hn
  exact Abs.Below_name (h row hr x hx) n hn
 | dat sz r=>cases hn
 | map es=>
  obtain ⟨e,he,hn⟩:=List.mem_flatMap.1 hn
  exact Abs.Below_name (h e he) n hn
theorem lcallK_of {f : FuncId} {args : List V} {H : List (Nat × B)} {r : V} {H' : List (Nat × B)} {N N' : Nat} (hs : LSpec P f args H N r H' N') {xs : List V} {h : List (Nat × B)} {nm : Nat} {L : List (Option Nat)} {Z : List Nat} {K : V → List (Nat × B) → Dyn → Prop}
 (hk : lcallK args H N r H' N' xs h nm L Z K) : ∃ d u l,d.x = false ∧ LCall P f xs d nm u (renV (sgm L nm 0) r) (hAt h) ∧ hAt l = appU (hAt h) u ∧ K (renV (sgm L nm 0) r) l d:=by
 replace hk:=namesK_of (namesK_of (K:=fun A=>namesK _ H' fun A'=>_) hk)
 generalize hσ : sgm L nm 0 = σ at *
 obtain ⟨g1,hk⟩:=okK_of hk
 obtain ⟨g2,hk⟩:=okK_of hk
 obtain ⟨g3,hk⟩:=okK_of hk
 obtain ⟨g4,hk⟩:=okK_of hk
 obtain ⟨g5,hk⟩:=okK_of hk
 obtain ⟨g6,hk⟩:=okK_of hk
 obtain ⟨g7,hk⟩:=okK_of hk
 obtain ⟨g7',hk⟩:=okK_of hk
 obtain ⟨g8,hk⟩:=okK_of hk
 obtain ⟨hk,g9,g10⟩:=passT_of hk
 obtain ⟨hk,g11⟩:=subH_of hk
 obtain ⟨l,hk,g12⟩:=effK_of hk
 replace hk:=nvalK_of (K:=fun v=>listK _ fun hw=>listK _ fun nw=>K v l ⟨[],hw,nw,false⟩) hk
 replace hk:=listK_of (listK_of hk)
 refine ⟨_,_,l,rfl,⟨?_,?_,?_⟩,g12,hk⟩
 · intro n hn
   simp only [namesU,effOf,List.map_append,List.map_map,List.mem_append,List.mem_map,Function.comp] at hn
   simp only [List.mem_append,List.mem_filter,List.mem_map,Nat.blt_eq,Nat.ble_eq]
   by_cases hlt : n < nm
   · rcases hn with (⟨z,hz,rfl⟩ | ⟨p,hp,rfl⟩) | ⟨p,hp,rfl⟩
     · exact .inl (.inl hz)
     · exact .inl (.inr ⟨.inl ⟨p,hp,rfl⟩,hlt⟩)
     · exact .inl (.inr ⟨.inr ⟨p,hp,rfl⟩,hlt⟩)
   · rcases hn with (⟨z,hz,rfl⟩ | ⟨p,hp,rfl⟩) | ⟨p,hp,rfl⟩
     · exact .inl (.inl hz)
     · exact .inr ⟨.inl ⟨p,hp,rfl⟩,by omega⟩
     · exact .inr ⟨.inr ⟨p,hp,rfl⟩,by omega⟩
 · intro n hn
   have h1:=List.all_eq_true.1 g8 n hn
   rw [List.mem_filter] at hn
   exact ⟨Nat.le_of_ble_eq_true hn.2,by simpa using h1⟩
 · intro h2 he M hfresh hbel
   have eZ : ∀ n ∈ Z,h2 n = hAt h n:=fun n hn=>he n (.inr (by simp [hn]))
   have hH : ∀ p ∈ H,((∃ b',h2 (σ p.1) = some b' ∧ WkB h2 (fun n=>n ∉ Z) σ p.2 b') ∨ p.2.real = false) ∧ σ p.1 ∉ Z:=by
    intro p hp
    have h1 : Nat.blt (σ p.1) nm = true ∨ (!p.2.real) = true:=by
     rw [Bool.or_eq_true] at g7'
     rcases g7' with g | g
     · exact .inl (List.all_eq_true.1 g _ (List.mem_map.2 ⟨p,hp,rfl⟩))
     · have:=List.all_eq_true.1 g p hp
       rwa [Bool.or_eq_true] at this
    refine ⟨?_,by simpa using List.all_eq_true.1 g7 _ (List.mem_map.2 ⟨p,hp,rfl⟩)⟩
    rcases h1 with h1 | h1
    · have : h2 (σ p.1) = hAt h (σ p.1):=he _ (.inr (List.mem_append_right _ (List.mem_filter.2 ⟨List.mem_append_left _ (List.mem_map.2 ⟨p,hp,rfl⟩),h1⟩)))
      rw [this]
      rcases (g11 p hp).2.2 with ⟨b',q1,q2⟩ | q1
      · have q3:=q2 h2 fun n hn=>eZ n (by simpa using hn)
        have e : (fun n=>Z.contains n = false) = fun n=>n ∉ Z:=by funext n;simp
        exact .inl ⟨b',q1,by rw [← e];exact q3⟩
      · exact .inr q1
    · exact .inr (by simpa using h1)
   subst hσ
   refine ACall.mono ?_ (fun v h' e=>e)
   intro F ids w vals hh hsz hv
   refine LSpec.run hs L Z hfresh (Nat.eq_of_beq_eq_true g1) ?_ (Nat.le_of_ble_eq_true g2) (Nat.le_of_ble_eq_true g3) g9 ?_ hH (noTwice_nodup g5) (noTwice_nodup g6) F ids w vals hh hsz hv
   · intro x hx
     have h1:=List.all_eq_true.1 g4 (some x) hx
     dsimp only at h1
     rw [Bool.or_eq_true] at h1
     rcases h1 with h1 | h1
     · obtain ⟨y,hy,hn⟩:=mem_namesOf.1 (by simpa using h1)
       exact Below_name (hbel y hy) x hn
     · rw [Bool.or_eq_true] at h1
       rcases h1 with h1 | h1
       · obtain ⟨p,hp,h1⟩:=List.any_eq_true.1 h1
         rw [Bool.and_eq_true] at h1
         have e2 : h2 (sgm L nm 0 p.1) = hAt h (sgm L nm 0 p.1):=he _ (.inr (List.mem_append_right _ (List.mem_filter.2 ⟨List.mem_append_left _ (List.mem_map.2 ⟨p,hp,rfl⟩),h1.1⟩)))
         revert h1
         cases hb : hAt h (sgm L nm 0 p.1) with
         | none=>intro h1;simp [inBlk] at h1
         | some b=>
          intro h1
          rw [hb] at e2
          exact B.Below_name (hh.below _ _ e2) x (by simpa [inBlk] using h1.2)
       · obtain ⟨p,hp,h1⟩:=List.any_eq_true.1 h1
         simp only [Bool.and_eq_true] at h1
         have hr:=h1.2.2
         obtain ⟨b',this,_⟩:=(hH p hp).1.resolve_right (by simp [hr])
         rw [Nat.eq_of_beq_eq_true h1.1] at this
         exact hh.lt _ _ this
   · exact g10 h2 eZ
theorem dcallL {f : FuncId} {args : List V} {H : List (Nat × B)} {r : V} {H' : List (Nat × B)} {N N' : Nat} {xs : List V} {h : List (Nat × B)} {nm : Nat} {K : V → List (Nat × B) → Dyn → Prop} (hs : LSpec P f args H N r H' N') (L : List (Option Nat)) (Z : List Nat)
 (hk : lcallK args H N r H' N' xs h nm L Z K) : DCallB P f xs h nm K:=by
 obtain ⟨d,u,l,h1,h2,h3,h4⟩:=lcallK_of hs hk
 exact ⟨d,_,u,l,h1,h2,h3,h4⟩
theorem callL {f : FuncId} {args : List V} {H : List (Nat × B)} {r : V} {H' : List (Nat × B)} {N N' : Nat} {xs : List V} {h : List (Nat × B)} {nm : Nat} {K : V → List (Nat × B) → Prop} (hs : LSpec P f args H N r H' N') (L : List (Option Nat)) (Z : List Nat)
 (hb : ltAll nm (namesOf xs) = true) (hk : lcallK args H N r H' N' xs h nm L Z fun v l d=>K v l) : CallB P f xs h nm K:=by
 obtain ⟨d,u,l,h1,h2,h3,h4⟩:=lcallK_of hs hk
 refine ⟨ACall.mono (h2.run _ (fun _ _=>rfl) (Lt nm) (fun k k1 k2 k3=>?_) (all_belows hb)) ?_⟩
 · exact absurd k3 (Nat.not_lt.2 k1)
 · rintro v h' ⟨rfl,rfl⟩
   exact ⟨l,h3.symm,h4⟩
theorem lspec (ht : TabOk P tab) (hmix : P.follows .mixedOrders = true) {f : FuncId} {fn : Func} (hf : P.funcs[f]? = some fn) (hname : (fn.name == "runtime.NumGoroutine") = false)
 {args : List V} {H : List (Nat × B)} {N : Nat} {r : V} {H' : List (Nat × B)} {N' : Nat} (ha : ltAll N (namesOf args) = true) (hH : (H.all fun p=>Nat.blt p.1 N && ltAll N (namesB p.2)) = true) (hNN : Nat.ble N N' = true) (hN : Nat.ble N 64 = true)
 (h : fnK P tab N fn args H 64 fun v h' b=>RetL N N' r H' v h') : LSpec P f args H N r H' N':=
 LSpec.of ht hmix hf hname (all_belows ha) (fun p hp=>by
  have:=List.all_eq_true.1 hH p hp
  rw [Bool.and_eq_true] at this
  exact ⟨by simpa using this.1,ltAll_belowB this.2⟩) (Nat.le_of_ble_eq_true hNN) (Nat.le_of_ble_eq_true hN) h
theorem frzK {h : List (Nat × B)} {v r : V} (hk : subV (fun n=>n) (fun _=>true) h 0 r v True) : RetB h v r:=by
 obtain ⟨_,h1,h2⟩:=subV_of hk
 refine .frz (.sem r v fun F ids w M hh x hx ids'=>?_)
 have h3:=h2 (hAt h) (fun _ _=>rfl) F F ids w M hh (fun _ x=>.inl x) (fun n x hn hxr _=>hh.out n x hn hxr) x hx
 exact h3.mono (Goes.refl F w) (fun _ _ x=>x) (m:=Lt 0) (fun n hn=>absurd hn (Nat.not_lt_zero n)) h1
end
set_option linter.unusedVariables false
set_option linter.unusedSimpArgs false
def noNames (x : V) : Bool:=
 match nameOf x with
 | []=>true
 | _=>false
def lendDat (h : List (Nat × B)) (n sz : Nat) (K : List (List D) → Prop) : Prop:=
 match hAt h n with
 | some (.dat s r)=>okK (Nat.beq s sz) (K r)
 | _=>False
def lendSame (a x : V) (K : Prop) : Prop:=okK (noNames a) (CB (x = a) K)
def lendLst (h : List (Nat × B)) (sz : Nat) (rows : List (List D)) (x : V) (K : Prop) : Prop:=
 match x with
 | .lst sz' rows' _=>okK (Nat.beq sz' sz) (CB (rows' = rows) K)
 | .c (.slice none 0 0)=>CB (rows = []) K
 | .ac n sz' len=>okK (Nat.beq sz' sz) (lendDat h n sz fun r=>CB (len = r.length ∧ r = rows) K)
 | .sl n sz' off len=>okK (Nat.beq sz' sz) (lendDat h n sz fun r=>CB (off + len ≤ r.length ∧ rows = (r.drop off).take len) K)
 | _=>False
def lend0 (h : List (Nat × B)) (a x : V) (K : Prop) : Prop:=
 match a with
 | .lst sz rows cl=>match cl with
  | false=>lendLst h sz rows x K
  | true=>lendSame (.lst sz rows true) x K
 | .q row j=>match x with
  | .p n sz i j'=>okK (Nat.beq j' j) (match hAt h n with
   | some (.dat s r)=>okK (Nat.beq s sz) (CB (r[i]? = some row) K)
   | some (.rows s r)=>okK (Nat.beq s sz) (okK (row.all D.leaf) (CB (r[i]? = some (row.map D.toV)) K))
   | _=>False)
  | x=>lendSame (.q row j) x K
 | a=>lendSame a x K
abbrev LendT:=List V → Prop → Prop
def lendNil : LendT:=fun xs K=>match xs with
 | []=>K
 | _=>False
def lendCons (g : V → V → Prop → Prop) (a : V) (l : List V) (ih : LendT) : LendT:=fun xs K=>match xs with
 | x :: xs=>g a x (ih xs K)
 | []=>False
noncomputable def lendT0 (h : List (Nat × B)) (l : List V) : LendT:=List.rec (motive:=fun _=>LendT) lendNil (lendCons (lend0 h)) l
noncomputable def lend1 (h : List (Nat × B)) (a x : V) (K : Prop) : Prop:=
 match a with
 | .agg l=>match x with
  | .agg xs=>lendT0 h l xs K
  | _=>False
 | .fn f a b=>match x with
  | .fn f' a' b'=>CB (f' = f) (lendT0 h a a' (lendT0 h b b' K))
  | _=>False
 | a=>lend0 h a x K
noncomputable def lendT (h : List (Nat × B)) (l : List V) : LendT:=List.rec (motive:=fun _=>LendT) lendNil (lendCons (lend1 h)) l
theorem noNames_of {x : V} (h : noNames x = true) : x.Below fun _=>False:=by
 unfold noNames at h
 split at h
 · next e=>exact names_below e _
 · cases h
theorem lendSame_of {h : List (Nat × B)} {a x : V} {K : Prop} (hk : lendSame a x K) : K ∧ Lend (hAt h) a x:=by
 obtain ⟨e1,hk1⟩:=okK_of hk
 obtain ⟨e2,hk2⟩:=hk1
 subst e2
 exact ⟨hk2,.same _ (noNames_of e1)⟩
theorem lendDat_of {h : List (Nat × B)} {n sz : Nat} {K : List (List D) → Prop} (hk : lendDat h n sz K) : ∃ r,hAt h n = some (.dat sz r) ∧ K r:=by
 unfold lendDat at hk
 split at hk
 case h_2=>cases hk
 next s r hr=>
 obtain ⟨e,hk1⟩:=okK_of hk
 cases Nat.eq_of_beq_eq_true e
 exact ⟨r,hr,hk1⟩
theorem lendLst_of {h : List (Nat × B)} {sz : Nat} {rows : List (List D)} {x : V} {K : Prop} (hk : lendLst h sz rows x K) : K ∧ Lend (hAt h) (.lst sz rows false) x:=by
 unfold lendLst at hk
 split at hk
 · obtain ⟨e1,hk⟩:=okK_of hk
   obtain ⟨e2,hk1⟩:=hk
   cases Nat.eq_of_beq_eq_true e1
   cases e2
   exact ⟨hk1,.clip _ _ _⟩
 · obtain ⟨e2,hk1⟩:=hk
   subst e2
   exact ⟨hk1,.nil _⟩
 · obtain ⟨e1,hk⟩:=okK_of hk
   obtain ⟨r,hr,⟨e2,e3⟩,hk1⟩:=lendDat_of hk
   cases Nat.eq_of_beq_eq_true e1
   subst e3
   exact ⟨hk1,.ac _ _ _ _ hr e2⟩
 · obtain ⟨e1,hk⟩:=okK_of hk
   obtain ⟨r,hr,⟨e2,e3⟩,hk1⟩:=lendDat_of hk
   cases Nat.eq_of_beq_eq_true e1
   exact ⟨hk1,.sd _ _ _ _ r _ hr e2 e3⟩
 · cases hk
theorem lend0_of {h : List (Nat × B)} {a x : V} {K : Prop} (hk : lend0 h a x K) : K ∧ Lend (hAt h) a x:=by
 unfold lend0 at hk
 split at hk
 · next sz rows cl=>
   cases cl with
   | false=>exact lendLst_of hk
   | true=>exact lendSame_of hk
 · split at hk
   · obtain ⟨e1,hj⟩:=okK_of hk
     clear hk
     cases Nat.eq_of_beq_eq_true e1
     split at hj
     · next s r hr=>
       obtain ⟨e2,hk2⟩:=okK_of hj
       obtain ⟨e3,hk1⟩:=hk2
       cases Nat.eq_of_beq_eq_true e2
       exact ⟨hk1,.pd _ _ _ _ r _ hr e3⟩
     · next s r hr=>
       obtain ⟨e2,hk2⟩:=okK_of hj
       obtain ⟨e4,hk3⟩:=okK_of hk2
       obtain ⟨e3,hk1⟩:=hk3
       cases Nat.eq_of_beq_eq_true e2
       exact ⟨hk1,.p _ _ _ _ r _ hr e3 e4⟩
     · cases hj
   · exact lendSame_of hk
 · exact lendSame_of hk
theorem lendT_gen {h : List (Nat × B)} {g : V → V → Prop → Prop} (hg : ∀ {a x : V} {K : Prop},g a x K → K ∧ Lend (hAt h) a x) : ∀ {l xs : List V} {K : Prop},(List.rec (motive:=fun _=>LendT) lendNil (lendCons g) l : LendT) xs K → K ∧ LendL (hAt h) l xs
 | [],[],K,hk=>⟨hk,trivial⟩
 | a :: l,x :: xs,K,hk=>by
  obtain ⟨hk,h1⟩:=hg (K:=(List.rec (motive:=fun _=>LendT) lendNil (lendCons g) l : LendT) xs K) hk
  obtain ⟨h2,h3⟩:=lendT_gen hg hk
  exact ⟨h2,h1,h3⟩
 | [],_ :: _,K,hk=>by cases hk
 | _ :: _,[],K,hk=>by cases hk
theorem lend1_of {h : List (Nat × B)} {a x : V} {K : Prop} (hk : lend1 h a x K) : K ∧ Lend (hAt h) a x:=by
 unfold lend1 at hk
 split at hk
 · split at hk
   · obtain ⟨h1,h2⟩:=lendT_gen lend0_of hk
     exact ⟨h1,.agg _ _ h2.length fun i x y hx hy=>h2.at i x y hx hy⟩
   · cases hk
 · split at hk
   · obtain ⟨e,hk⟩:=hk
     subst e
     obtain ⟨hk,h2⟩:=lendT_gen lend0_of (K:=lendT0 h _ _ K) hk
     obtain ⟨h1,h3⟩:=lendT_gen lend0_of hk
     exact ⟨h1,.fn _ _ _ _ _ h2.length h3.length (fun i x y hx hy=>h2.at i x y hx hy) fun i x y hx hy=>h3.at i x y hx hy⟩
   · cases hk
 · exact lend0_of hk
theorem lendT_of {h : List (Nat × B)} {l xs : List V} {K : Prop} (hk : lendT h l xs K) : K ∧ LendL (hAt h) l xs:=lendT_gen lend1_of hk
section
variable {P : Program} {tab : Tab}
theorem PSpec.as {f : FuncId} {args xs : List V} {r : V} (hs : PSpec P f args r) (hl : LendL (hAt []) args xs) (hb : ∀ x ∈ xs,x.Below fun _=>False) : PSpec P f xs r:=by
 obtain ⟨h1,h2,h3⟩:=hs
 refine ⟨hb,h2,fun F ids w vals hF hsz hv=>h3 F ids w vals hF (by rw [hsz,hl.length]) fun i d v hd hvi=>?_⟩
 have hh : RepH F ids w (hAt []) (Lt 0):=⟨by simp [hAt],by simp [hAt],by simp [hAt],by simp [hAt],by simp [hAt],hF⟩
 have hi : i < xs.length:=by rw [← hl.length];exact (List.getElem?_eq_some_iff.1 hd).1
 have hr:=hv i xs[i] v (by simp [hi]) hvi
 refine (hl.at i d xs[i] hd (by simp [hi])).sound hh (hr.sub fun b x=>?_)
 rcases x with x | ⟨n,y,hn,_⟩
 · exact x
 · cases hn
def noNamesL (xs : List V) : Bool:=
 match namesOf xs with
 | []=>true
 | _=>false
theorem noNamesL_of {xs : List V} (h : noNamesL xs = true) : ∀ x ∈ xs,x.Below fun _=>False:=by
 unfold noNamesL at h
 split at h
 · next e=>exact names_below.names_below' e _
 · cases h
theorem callC {f : FuncId} {args xs : List V} {h : List (Nat × B)} {b : Nat} {K : V → List (Nat × B) → Prop} {r : V} (hs : PSpec P f args r) (k : okK (noNamesL xs) (lendT [] args xs (K r h))) : CallB P f xs h b K:=by
 obtain ⟨e,k⟩:=okK_of k
 obtain ⟨k,hl⟩:=lendT_of k
 exact callB (hs.as hl (noNamesL_of e)) k
theorem dcallC {f : FuncId} {args xs : List V} {h : List (Nat × B)} {b : Nat} {K : V → List (Nat × B) → Dyn → Prop} {r : V} (hs : PSpec P f args r) (k : okK (noNamesL xs) (lendT [] args xs (K r h ⟨[],[],[],false⟩))) : DCallB P f xs h b K:=by
 obtain ⟨e,k⟩:=okK_of k
 obtain ⟨k,hl⟩:=lendT_of k
 have hn : namesOf xs = []:=by
  unfold noNamesL at e
  split at e
  · assumption
  · cases e
 exact dcallB (hs.as hl (noNamesL_of e)) (by rw [hn];exact k)
theorem callN {f : FuncId} {args xs : List V} {h : List (Nat × B)} {b : Nat} {K : V → List (Nat × B) → Prop} {r : V} (hs : PSpecN P f args r) (k : lendT h args xs (K r h)) : CallB P f xs h b K:=by
 obtain ⟨k,hl⟩:=lendT_of k
 exact callB_lend _ hs hl k
end
set_option linter.unusedVariables false
set_option linter.unusedSimpArgs false
section
variable {P : Program} {tab : Tab}
theorem AOp.ok {op : Op} {e : Operand → V} {h : Hp} {M : Nm} {nm : Nat} {K : V → Hp → Prop}
 (hok : ∀ (F : Nat → Prop) (ids : Nat → Nat × Nat) (w : World) (a : Act) (o : Oper),o.op = op → RepH F ids w h M → (∀ x ∈ op.operands.toList,RepV (Avoid F h ids) ids w (e x) (a.eval x)) → (∀ x ∈ op.operands.toList,(e x).Below M) →
  ∃ v h',K v h' ∧ OpOk F ids w h M ((execOp a.eval o).run P w) v h' (M.add nm)) : AOp P op e h M nm K:=by
 intro F ids w a o ho hh h1 h2 next Q hn
 obtain ⟨v,h',hK,val,w',ids',hrun,hc,hv,hb⟩:=hok F ids w a o ho hh h1 h2
 have hadd : (M.add nm).le (M.call nm):=by rintro k (hk | rfl);exact .inl hk;exact .inr ⟨Nat.le_refl _,by omega⟩
 have:=hn v h' ids' w' val hK (hc.trans (Chg.skip hc.heap hadd)) hv (hb.mono hadd)
 unfold Oper.wp
 rcases hrun with hrun | ⟨hrun,rfl⟩
 · rw [hrun];exact this
 · rw [hrun];exact this
theorem int_val {A : Nat → Prop} {ids : Nat → Nat × Nat} {w : World} {k : IntKind} {n : Int} {v : Value} (h : RepV A ids w (.c (.int k n)) v) : v = .int k n:=by cases h;rfl
inductive ZeroRow : List Value → List D → Prop
 | nil : ZeroRow [] []
 | c (v : Value) {vs : List Value} {ds : List D} (h1 : v.oneCell' = true) (h : ZeroRow vs ds) : ZeroRow (v :: vs) (.c v :: ds)
 | sl (sz : Nat) {vs : List Value} {ds : List D} (h : ZeroRow vs ds) : ZeroRow (.slice none 0 0 :: vs) (.lst sz [] :: ds)
theorem ZeroRow.get {vs : List Value} {ds : List D} (h : ZeroRow vs ds) : ds.length = vs.length ∧ ds.all D.leaf = true ∧ ∀ (A : Nat → Prop) (w : World) (i : Nat) (v : Value) (d : D),vs[i]? = some v → ds[i]? = some d → RepD A w d v:=by
 induction h with
 | nil=>exact ⟨rfl,rfl,by simp⟩
 | c v h1 h ih=>
  obtain ⟨e1,e2,e3⟩:=ih
  refine ⟨by simp [e1],by simp [e2,D.leaf,h1],fun A w i u d hu hd=>?_⟩
  cases i with
  | zero=>simp at hu hd;subst hu;subst hd;exact .c _ h1
  | succ i=>exact e3 A w i u d (by simpa using hu) (by simpa using hd)
 | sl sz h ih=>
  obtain ⟨e1,e2,e3⟩:=ih
  refine ⟨by simp [e1],by simp [e2,D.leaf],fun A w i u d hu hd=>?_⟩
  cases i with
  | zero=>simp at hu hd;subst hu;subst hd;exact .emp _ _ _
  | succ i=>exact e3 A w i u d (by simpa using hu) (by simpa using hd)
theorem makeSlice_aop (ht : TabOk P tab) {M : Nm} {nm : Nat} (hfresh : ¬ M nm) {ty : TypeId} {l c : Operand} {e : Operand → V} {h : Hp} {K : V → Hp → Prop} {ε : Ty} (hε : sliceElem tab ty = some ε) {n : Nat} (hl : e l = V.int n) (hc : e c = V.int n)
 (hn : n < 2147483648) (hby : ε.bytes ≤ 4096) {zr : List D} (hz : ZeroRow ε.zero zr) (hK : K (.ac nm ε.size n) (upd h nm (some (.dat ε.size (List.replicate n zr))))) : AOp P (.makeSlice ty l c) e h M nm K:=by
 refine AOp.ok fun F ids w a o ho hh h1 h2=>⟨_,_,hK,?_⟩
 obtain ⟨et,hd,hte⟩:=sliceElem_desc ht hε
 have el : a.eval l = .int .i64 n:=by have:=h1 l (by simp [Op.operands]);rw [hl] at this;exact int_val this
 have ec : a.eval c = .int .i64 n:=by have:=h1 c (by simp [Op.operands]);rw [hc] at this;exact int_val this
 obtain ⟨i,hi1,hi2⟩:=hte.typeInfo w
 obtain ⟨z,hz1,hz2⟩:=hte.zero w
 have hzl:=hte.zlen
 obtain ⟨zl,zlf,zrep⟩:=hz.get
 let zc : Array Value:=if n * ε.size = 0 then #[] else z.cells
 obtain ⟨arr,harr⟩ : ∃ arr,arr = (Array.range (n * ε.size)).map (zc[· % zc.size]!):=⟨_,rfl⟩
 have hbig : i.bytes * n ≤ 8796093022208:=Nat.le_trans (Nat.mul_le_mul (show i.bytes ≤ 4096 by omega) (show n ≤ 2147483648 by omega)) (by omega)
 have hbig2 : ((i.bytes : Int) * n) ≤ 8796093022208:=by rw [← Int.natCast_mul];omega
 have hwr : IntKind.i64.wrap (n : Int) = n:=by rw [IntKind.wrap_i64];omega
 have hrun : (execOp a.eval o).run P w = .ok (.value (.slice (some ⟨w.heap.size,0,none⟩) n n)) (w.alloc (.cells arr et)):=by
  have hlarge2 : ¬ ((n : Int) < 0):=by omega
  have hlarge3 : ¬ (281474976710656 < ((i.bytes : Int) * n)):=by omega
  by_cases h0 : n * ε.size = 0
  · have hz0 : zc = #[]:=if_pos h0
    rw [harr,hz0]
    simp [execOp,ho,el,ec,Instr.makeSlice,hd,asInt,asIntOf,hi1,hwr,hlarge2,hlarge3,hte.sizeOf,h0,newRow]
  · have hz0 : zc = z.cells:=if_neg h0
    rw [harr,hz0]
    simp [execOp,ho,el,ec,Instr.makeSlice,hd,asInt,asIntOf,hi1,hwr,hlarge2,hlarge3,hte.sizeOf,h0,hz1,newRow]
 have hasz : arr.size = n * ε.size:=by rw [harr];simp
 have hcell : ∀ i j d,i < n → zr[j]? = some d → ∃ v,arr[i * ε.size + j]? = some v ∧ ∀ A w,RepD A w d v:=by
  intro i j d hi hj
  have hjl : j < ε.size:=by rw [← hzl,← zl];exact (List.getElem?_eq_some_iff.1 hj).1
  have hlt:=row_in hi hjl
  have hne : n * ε.size ≠ 0:=by omega
  have hzcs : zc = ε.zero.toArray:=by simp only [zc];rw [if_neg hne,hz2]
  have hjz : j < ε.zero.length:=by omega
  have hmod : (i * ε.size + j) % ε.size = j:=by rw [Nat.mul_comm,Nat.mul_add_mod,Nat.mod_eq_of_lt hjl]
  refine ⟨ε.zero[j],?_,fun A w=>zrep A w j _ d (by simp [hjz]) hj⟩
  rw [harr,Array.getElem?_map,Array.getElem?_range,if_pos hlt,hzcs]
  simp only [Option.map_some,List.size_toArray,hzl,hmod,Option.some.injEq]
  rw [getElem!_pos _ _ (by simpa using hjz)]
  simp
 have hrow : ∀ (i : Nat) (row : List V),(toVs (List.replicate n zr))[i]? = some row → i < n ∧ row = zr.map D.toV:=by
  intro i row hi
  rw [toVs_get,List.getElem?_replicate] at hi
  split at hi
  · next hlt=>simp at hi;exact ⟨hlt,hi.symm⟩
  · cases hi
 have hchg:=Chg.new hh hfresh (.cells arr et) (.dat ε.size (List.replicate n zr)) trivial fun ids' A _ _=>by
  refine ⟨fun _=>⟨arr,et,alloc_new _ _,by simp [toVs_len,hasz],fun row hr=>?_,fun i row j x hi hj=>?_⟩,fun row hr=>?_⟩
  · obtain ⟨k,hk⟩:=List.getElem?_of_mem hr
    rw [(hrow k row hk).2,List.length_map,zl,hzl]
  · obtain ⟨hlt,rfl⟩:=hrow i row hi
    rw [List.getElem?_map,Option.map_eq_some_iff] at hj
    obtain ⟨d,hj,rfl⟩:=hj
    obtain ⟨v,hv,hrep⟩:=hcell i j d hlt hj
    exact ⟨v,by simpa using hv,(hrep A _).toV⟩
  · rw [List.eq_of_mem_replicate hr];exact zlf
 refine OpOk.made hchg hrun ?_ (.ac _ _ _ (.inr rfl))
 by_cases h0 : n = 0
 · subst h0;exact .ac0 _ _ _
 · refine .ac1 _ _ _ _ h0 (.sl _ _ _ _ _ _ (Nat.le_refl _) fun _=>⟨arr,et,?_,?_,?_⟩)
   · rw [upd_same];exact alloc_new _ _
   · rw [upd_same];simp
   · rw [upd_same,hasz];simp
theorem makeB (ht : TabOk P tab) {ty : TypeId} {l c : Operand} {t : List V} {h : List (Nat × B)} {b : Nat} {K : V → List (Nat × B) → Prop} (n : Nat) (zr : List D) (ε : Ty) (hε : sliceElem tab ty = some ε) (hz : ZeroRow ε.zero zr) (hl : evS (tAt t) l = V.int n) (hc : evS (tAt t) c = V.int n)
 (hn : n < 2147483648) (hby : Nat.ble ε.bytes 4096 = true) (k : hSet h b (.dat ε.size (List.replicate n zr)) fun h=>K (.ac b ε.size n) h) : OpB P (.makeSlice ty l c) t h b K:=by
 obtain ⟨l',hk,e⟩:=hSet_of k
 exact ⟨makeSlice_aop (M:=Lt b) ht (Nat.lt_irrefl b) (K:=fun v h'=>∃ l,h' = hAt l ∧ K v l) hε hl hc hn (Nat.le_of_ble_eq_true hby) hz ⟨l',e.symm,hk⟩⟩
inductive CopySrc (h : Hp) (sz k : Nat) : V → Nat → List (List D) → Prop
 | lst (rows : List (List D)) (cl : Bool) (hk : k ≤ rows.length) : CopySrc h sz k (.lst sz rows cl) rows.length (rows.take k)
 | sl (n off len : Nat) (r : List (List D)) (hn : h n = some (.dat sz r)) (hr : r ≠ []) (hk : k ≤ len) (hl : off + k ≤ r.length) : CopySrc h sz k (.sl n sz off len) len ((r.drop off).take k)
 | sx (n off len cap : Nat) (r : List (List D)) (hn : h n = some (.dat sz r)) (hr : r ≠ []) (hk : k ≤ len) (hl : off + k ≤ r.length) : CopySrc h sz k (.sx n sz off len cap) len ((r.drop off).take k)
theorem CopySrc.sizes {h : Hp} {sz k m : Nat} {x : V} {src : List (List D)} (hs : CopySrc h sz k x m src) : src.length = k ∧ k ≤ m:=by
 cases hs with
 | lst rows cl hk=>exact ⟨by simp [hk],hk⟩
 | sl n off len r hn hr hk hl=>exact ⟨by simp;omega,hk⟩
 | sx n off len cap r hn hr hk hl=>exact ⟨by simp;omega,hk⟩
theorem firstCells_len (size k : Nat) (ad : Option Addr) (l l' c c' : Nat) : Builtin.firstCells size k (.slice ad l c) = Builtin.firstCells size k (.slice ad l' c'):=by cases ad <;> rfl
theorem RepR.first {A : Nat → Prop} {ids : Nat → Nat × Nat} {w : World} {p : Nat × Nat} {sz off k len cap : Nat} {r : List (List V)} {ad : Option Addr} (h : RepR A ids w p sz r) (hk : k ≤ cap) (hr : off + k ≤ r.length)
 (ha : cap ≠ 0 → ad = some ⟨p.1,p.2 + off * sz,none⟩) : ∃ arr,(Builtin.firstCells sz k (.slice ad len cap)).run P w = .ok arr w ∧ StandsR A ids w sz ((r.drop off).take k) arr:=by
 obtain ⟨a,c,e,hc,arr,h1,h2⟩:=RepR.reads (P:=P) h hk hr ha
 have hl : ((r.drop off).take k).length = k:=by simp;omega
 refine ⟨arr,?_,h2⟩
 rw [hl] at h1
 rw [firstCells_len sz k ad len k cap cap];exact h1
theorem CopySrc.sound {F : Nat → Prop} {ids : Nat → Nat × Nat} {w : World} {h : Hp} {nx : Nm} (hh : RepH F ids w h nx) {sz k m : Nat} {x : V} {src : List (List D)} (hs : CopySrc h sz k x m src) {v : Value} (hx : RepV (Avoid F h ids) ids w x v) :
 ∃ a c,v = .slice a m c ∧ ∃ arr,(Builtin.firstCells sz k v).run P w = .ok arr w ∧ StandsR (Avoid F h ids) ids w sz (toVs src) arr:=by
 cases hs with
 | lst rows cl hk=>
  cases hx with
  | lst _ _ _ _ hd _=>
   have h2 : ∃ a c,v = .slice a rows.length c ∧ rows.length ≤ c:=by
    obtain ⟨a,c,e,hc,_⟩:=hd.reads (P:=P) (A:=Avoid F h ids) (ids:=ids)
    exact ⟨a,c,by rw [e,toVs_len],by simpa [toVs_len] using hc⟩
   obtain ⟨a,c,e,hc⟩:=h2
   subst e
   refine ⟨a,c,rfl,?_⟩
   have hd' : RepD (Avoid F h ids) w (.lst sz (rows.take k)) (.slice a k c):=by
    cases hd with
    | emp=>simp at hk;subst hk;simpa using RepD.emp sz a c
    | lst _ _ b o cap cell hcap hb hA hw hcell hdd=>
     have hl : (rows.take k).length = k:=by simp [hk]
     have:=RepD.lst (A:=Avoid F h ids) (w:=w) sz (rows.take k) b o c cell (by omega) hb hA (fun row hr=>hw row (List.mem_of_mem_take hr)) (fun i row j d hi hj=>by
      have hlt : i < k:=by have:=(List.getElem?_eq_some_iff.1 hi).1;omega
      rw [List.getElem?_take_of_lt hlt] at hi
      exact hcell i row j d hi hj) (fun i row j d hi hj=>by
      have hlt : i < k:=by have:=(List.getElem?_eq_some_iff.1 hi).1;omega
      rw [List.getElem?_take_of_lt hlt] at hi
      exact hdd i row j d hi hj)
     rw [hl] at this
     exact this
   obtain ⟨_,_,_,_,arr,h1,h2⟩:=hd'.reads (P:=P) (A:=Avoid F h ids) (ids:=ids)
   refine ⟨arr,?_,h2⟩
   rw [toVs_len,List.length_take,Nat.min_eq_left hk] at h1
   rw [firstCells_len sz k a _ k c c];exact h1
 | sl n off len r hn hr hk hl=>
  cases hx with
  | sl _ _ _ _ cap ad hlc hc=>
   refine ⟨ad,cap,rfl,?_⟩
   obtain ⟨arr,h1,h2⟩:=RepR.first (P:=P) (len:=m) ((hh.blk n _ hn).1 hr) (off:=off) (k:=k) (cap:=cap) (by omega) (by rw [toVs_len];exact hl) fun h0=>by obtain ⟨_,_,_,h3,_⟩:=hc h0;exact h3
   exact ⟨arr,h1,by rw [toVs_cut];exact h2⟩
 | sx n off len cap r hn hr hk hl=>
  cases hx with
  | sx _ _ _ _ _ ad hlc hc=>
   refine ⟨ad,cap,rfl,?_⟩
   obtain ⟨arr,h1,h2⟩:=RepR.first (P:=P) (len:=m) ((hh.blk n _ hn).1 hr) (off:=off) (k:=k) (cap:=cap) (by omega) (by rw [toVs_len];exact hl) fun h0=>by obtain ⟨_,_,_,h3,_⟩:=hc h0;exact h3
   exact ⟨arr,h1,by rw [toVs_cut];exact h2⟩
theorem CopySrc.leaves {F : Nat → Prop} {ids : Nat → Nat × Nat} {w : World} {h : Hp} {nx : Nm} (hh : RepH F ids w h nx) {sz k m : Nat} {x : V} {src : List (List D)} (hs : CopySrc h sz k x m src) {v : Value} (hx : RepV (Avoid F h ids) ids w x v) : leaves src:=by
 cases hs with
 | lst rows cl hk=>
  cases hx with
  | lst _ _ _ _ hd _=>exact fun row hr=>hd.leaves row (List.mem_of_mem_take hr)
 | sl n off len r hn hr hk hl=>exact leaves_cut (hh.blk n _ hn).2 _ _
 | sx n off len cap r hn hr hk hl=>exact leaves_cut (hh.blk n _ hn).2 _ _
theorem copy_aop (ht : TabOk P tab) {M : Nm} {nm : Nat} {d s : Operand} {dT sT : TypeId} {e : Operand → V} {h : Hp} {K : V → Hp → Prop} {ε : Ty} (hε : sliceElem tab dT = some ε) {n off len m k : Nat} {r src : List (List D)}
 (hd : e d = .sl n ε.size off len) (hn : h n = some (.dat ε.size r)) (hr : r ≠ []) (ho : off ≤ r.length) (hk : k = min m len) (hs : CopySrc h ε.size k (e s) m src)
 (hK : K (V.int k) (upd h n (some (.dat ε.size (r.take off ++ (src ++ r.drop (off + k))))))) : AOp P (.call ⟨.builtin .copy,#[d,s],#[dT,sT]⟩) e h M nm K:=by
 refine AOp.ok fun F ids w a o hop hh h1 h2=>⟨_,_,hK,?_⟩
 obtain ⟨et,hdt,hte⟩:=sliceElem_desc ht hε
 have hdv:=h1 d (by simp [Op.operands,Call.operands]);rw [hd] at hdv
 have hsv:=h1 s (by simp [Op.operands,Call.operands])
 obtain ⟨sl1,sl2⟩:=hs.sizes
 have hlv:=hs.leaves hh hsv
 obtain ⟨sa,sc,hse,arr,harr,hst⟩:=hs.sound (P:=P) hh hsv
 generalize hsq : a.eval s = sv at *
 subst hse
 generalize hdq : a.eval d = dv at *
 cases hdv with
 | sl _ _ _ _ cap ad hlc hc=>
 obtain ⟨arr0,T0,hb0,hsz0,hwid,hcell⟩:=(hh.blk n _ hn).1 hr
 have hreal : (B.dat ε.size r).real = true:=dat_real hr
 have hlt:=(Array.getElem?_eq_some_iff.1 hb0).1
 have hkl : k ≤ len:=by omega
 have hroom : (ids n).2 + off * ε.size + arr.toList.length ≤ arr0.size:=by
  simp only [Array.length_toList,hst.len,toVs_len,sl1]
  by_cases h0 : k = 0
  · subst h0
    have : off * ε.size ≤ (toVs r).length * ε.size:=Nat.mul_le_mul_right _ (by rw [toVs_len];exact ho)
    omega
  · obtain ⟨arr1,T1,g1,_,g3⟩:=hc (by omega)
    rw [hb0] at g1;cases g1
    have : (off + k) * ε.size ≤ (off + cap) * ε.size:=Nat.mul_le_mul_right _ (by omega)
    rw [Nat.add_mul] at this
    omega
 obtain ⟨arr',harr'⟩ : ∃ x,x = splice arr0 ((ids n).2 + off * ε.size) arr.toList:=⟨_,rfl⟩
 have hsz' : arr'.size = arr0.size:=by rw [harr'];exact splice_size _ _ _
 have hget : ∀ j,arr'[j]? = if (ids n).2 + off * ε.size ≤ j ∧ j < (ids n).2 + off * ε.size + arr.toList.length then arr.toList[j - ((ids n).2 + off * ε.size)]? else arr0[j]?:=by
  intro j;rw [harr'];exact splice_get _ _ _ _ hroom
 have hput : arr.toList = [] → World.put w (ids n).1 (.cells arr' T0 (0,0)) = w:=fun hz=>by
  have : arr' = arr0:=by rw [harr',hz];rfl
  rw [this];exact put_self hb0
 have hone : ∀ v ∈ arr.toList,v.oneCell' = true:=hst.oneCells (leaves_toVs hlv)
 have hstore : (stAt ad 0 arr.toList).run P w = .ok () (World.put w (ids n).1 (.cells arr' T0 (0,0))):=by
  by_cases hz : arr.toList = []
  · rw [hput hz]
    cases ad <;> simp only [stAt,hz,storeCells] <;> rfl
  · have hpos : 0 < k * ε.size:=by
     have:=hst.len
     rw [toVs_len,sl1] at this
     rw [← this];exact Nat.pos_of_ne_zero fun e=>hz (by simpa using Array.eq_empty_of_size_eq_zero e)
    have hkp : 0 < k:=Nat.pos_of_ne_zero fun e=>by rw [e] at hpos;simp at hpos
    obtain ⟨_,_,_,rfl,_⟩:=hc (by omega)
    have hrun2:=storeCells_run P (ids n).1 T0 arr.toList hone w ((ids n).2 + off * ε.size) 0 arr0 hb0 (by omega)
    rw [if_neg hz] at hrun2
    simp only [stAt,add_none]
    rw [harr']
    exact hrun2
 have hrun : (execOp a.eval o).run P w = .ok (.value (.int .i64 k)) (World.put w (ids n).1 (.cells arr' T0 (0,0))):=by
  have hmin : Nat.min m len = k:=hk.symm
  cases ad with
  | none=>
   have e : World.put w (ids n).1 (.cells arr' T0 (0,0)) = w:=by simp only [stAt,Sem.run_pure,Result.ok.injEq,true_and] at hstore;exact hstore.symm
   rw [e]
   simp [execOp,hop,resolve,invoke,builtin,hdq,hsq,Builtin.copy_,hdt,Builtin.lenOf,hmin,hte.sizeOf,harr,goInt]
  | some b=>
   have e : (storeCells b arr.toList).run P w = .ok () (World.put w (ids n).1 (.cells arr' T0 (0,0))):=by
    simp only [stAt] at hstore
    rw [← hstore]
    congr 2
   simp [execOp,hop,resolve,invoke,builtin,hdq,hsq,Builtin.copy_,hdt,Builtin.lenOf,hmin,hte.sizeOf,harr,goInt,e]
 have hgo : Goes (Avoid F h ids) w (World.put w (ids n).1 (.cells arr' T0 (0,0))):=by
  refine ⟨Nat.le_of_eq (put_size _ _ _).symm,fun c _ hc=>put_other _ _ _ _ fun e=>hc (.inr ⟨n,_,hn,hreal,e.symm⟩),fun c arr1 T1 fz hc=>?_,fun c es k hc=>?_,⟨rfl,rfl⟩,fun a=>?_⟩
  · by_cases e : c = (ids n).1
    · subst e
      rw [hb0] at hc;cases hc
      exact ⟨_,put_same _ _ _ hlt,hsz'⟩
    · exact ⟨arr1,by rw [put_other _ _ _ _ e];exact hc,rfl⟩
  · by_cases e : c = (ids n).1
    · subst e;rw [hb0] at hc;cases hc
    · exact ⟨es,k,by rw [put_other _ _ _ _ e];exact hc⟩
  · by_cases e : a.block = (ids n).1
    · exact frozen_cells (by rw [e];exact hb0) (by rw [e,put_same _ _ _ hlt])
    · exact frozen_same (put_other _ _ _ _ e)
 have hbr : ∀ row ∈ toVs r,∀ x ∈ row,x.Below M:=toVs_below M r
 have hbs : ∀ row ∈ toVs src,∀ x ∈ row,x.Below M:=toVs_below M src
 have hsl : (toVs src).length = k:=by rw [toVs_len,sl1]
 have hchg:=Chg.write (b':=.dat ε.size (r.take off ++ (src ++ r.drop (off + k)))) hh hn hreal (.cells arr0 T0 (0,0)) (.cells arr' T0 (0,0)) hb0 (fun arr T fz e=>by cases e;exact ⟨_,rfl,hsz'⟩) (fun es k e=>by cases e) trivial fun A hA=>by
  refine ⟨fun _=>⟨arr',T0,put_same _ _ _ hlt,?_,fun row hrow=>?_,fun i row j x hi hj=>?_⟩,?_⟩
  · rw [hsz',toVs_len]
    simp only [List.length_append,List.length_take,List.length_drop,sl1,Nat.min_eq_left ho]
    rw [toVs_len] at hsz0
    simp only [Array.length_toList,hst.len,hsl] at hroom
    by_cases hc1 : off + k ≤ r.length
    · rw [show off + (k + (r.length - (off + k))) = r.length by omega];exact hsz0
    · rw [show off + (k + (r.length - (off + k))) = off + k by omega,Nat.add_mul];omega
  · rw [toVs_app,toVs_app] at hrow
    rcases List.mem_append.1 hrow with hrow | hrow
    · exact hwid row (by unfold toVs at hrow ⊢;rw [List.map_take] at hrow;exact List.mem_of_mem_take hrow)
    · rcases List.mem_append.1 hrow with hrow | hrow
      · exact hst.wid row hrow
      · exact hwid row (by unfold toVs at hrow ⊢;rw [List.map_drop] at hrow;exact List.mem_of_mem_drop hrow)
  · have hjr : j < row.length:=(List.getElem?_eq_some_iff.1 hj).1
    have old : (toVs r)[i]? = some row → (i < off ∨ off + k ≤ i) → ∃ v,arr'[(ids n).2 + (i * ε.size + j)]? = some v ∧ RepV A ids (World.put w (ids n).1 (.cells arr' T0 (0,0))) x v:=by
     intro hi hio
     have hjs : j < ε.size:=by rw [← hwid row (List.mem_of_getElem? hi)];exact hjr
     obtain ⟨v,hv,hrep⟩:=hcell i row j x hi hj
     refine ⟨v,?_,hrep.mono hgo hA (fun _ _=>rfl) (hbr row (List.mem_of_getElem? hi) x (List.mem_of_getElem? hj))⟩
     rw [hget,if_neg]
     · exact hv
     · simp only [Array.length_toList,hst.len,hsl]
       rcases hio with hio | hio
       · have:=row_in (n:=off) hio hjs;omega
       · have : (off + k) * ε.size ≤ i * ε.size:=Nat.mul_le_mul_right _ hio
         rw [Nat.add_mul] at this;omega
    rw [toVs_app,toVs_app] at hi
    have hto : (toVs (r.take off)).length = off:=by rw [toVs_len,List.length_take];omega
    by_cases c1 : i < off
    · rw [List.getElem?_append_left (by omega)] at hi
      refine old ?_ (.inl c1)
      unfold toVs at hi ⊢
      rw [List.map_take,List.getElem?_take_of_lt c1] at hi;exact hi
    · rw [List.getElem?_append_right (by omega),hto] at hi
      by_cases c2 : i < off + k
      · rw [List.getElem?_append_left (by omega)] at hi
        obtain ⟨v,hv,hrep⟩:=hst.rep _ row j x hi hj
        have hlt2:=(Array.getElem?_eq_some_iff.1 hv).1
        have e : i * ε.size = off * ε.size + (i - off) * ε.size:=by rw [← Nat.add_mul];congr 1;omega
        refine ⟨v,?_,hrep.mono hgo hA (fun _ _=>rfl) (hbs row (List.mem_of_getElem? hi) x (List.mem_of_getElem? hj))⟩
        rw [hget,if_pos (by simp;omega),show (ids n).2 + (i * ε.size + j) - ((ids n).2 + off * ε.size) = (i - off) * ε.size + j by omega]
        simpa using hv
      · rw [List.getElem?_append_right (by omega),hsl] at hi
        refine old ?_ (.inr (by omega))
        unfold toVs at hi ⊢
        rw [List.map_drop,List.getElem?_drop] at hi
        rw [← hi];congr 1;omega
  · exact leaves_app (fun row hrow=>(hh.blk n _ hn).2 row (List.mem_of_mem_take hrow)) (leaves_app hlv fun row hrow=>(hh.blk n _ hn).2 row (List.mem_of_mem_drop hrow))
 exact ⟨_,_,_,.inl hrun,hchg.trans (Chg.skip hchg.heap (Nm.le_add _ _)),.c _,.c _⟩
end
set_option linter.unusedVariables false
set_option linter.unusedSimpArgs false
section
variable {P : Program} {tab : Tab}
def unSx (x : V) : V:=
 match x with
 | .sx n sz off len _=>.sl n sz off len
 | x=>x
theorem unSx_rep {A : Nat → Prop} {ids : Nat → Nat × Nat} {w : World} {x : V} {v : Value} (h : RepV A ids w x v) : RepV A ids w (unSx x) v:=by
 cases h with
 | sx n sz off len cap ad hl hc=>exact .sl _ _ _ _ cap ad hl hc
 | un=>exact .un _
 | c=>exact .c _
 | lst _ _ _ _ h hcl=>exact .lst _ _ _ _ h hcl
 | sl _ _ _ _ _ _ hl hc=>exact .sl _ _ _ _ _ _ hl hc
 | ac0=>exact .ac0 _ _ _
 | ac1 _ _ _ _ h0 h=>exact .ac1 _ _ _ _ h0 h
 | p=>exact .p ..
 | q _ _ _ _ _ h1 h2 h3 h4=>exact .q _ _ _ _ _ h1 h2 h3 h4
 | agg _ _ hs h=>exact .agg _ _ hs h
 | tup _ _ hs h=>exact .tup _ _ hs h
 | fn _ _ _ _ _ h1 h2 h3 h4=>exact .fn _ _ _ _ _ h1 h2 h3 h4
 | ifc _ _ _ h=>exact .ifc _ _ _ h
 | mp=>exact .mp ..
theorem unSx_below {m : Nm} {x : V} (h : x.Below m) : (unSx x).Below m:=by
 cases h with
 | sx n sz off len cap h=>exact .sl _ _ _ _ h
 | un=>exact .un
 | c=>exact .c _
 | lst=>exact .lst ..
 | sl _ _ _ _ h=>exact .sl _ _ _ _ h
 | ac _ _ _ h=>exact .ac _ _ _ h
 | p _ _ _ _ h=>exact .p _ _ _ _ h
 | q=>exact .q ..
 | agg _ h=>exact .agg _ h
 | tup _ h=>exact .tup _ h
 | fn _ _ _ h1 h2=>exact .fn _ _ _ h1 h2
 | ifc _ _ h=>exact .ifc _ _ h
 | mp _ h=>exact .mp _ h
theorem tAt_map : ∀ (t : List V) (i : Nat),tAt (t.map unSx) i = unSx (tAt t i)
 | [],i=>rfl
 | x :: t,0=>rfl
 | x :: t,i + 1=>tAt_map t i
theorem evS_unSx (t : List V) (x : Operand) : evS (tAt (t.map unSx)) x = unSx (evS (tAt t) x):=by
 cases x with
 | tmp i=>exact tAt_map t i
 | const v=>cases v <;> rfl
 | _=>rfl
theorem AOp.of_sop (ht : TabOk P tab) {M : Nm} {nm : Nat} (hfresh : ¬ M nm) {op : Op} {e e0 : Operand → V} {h h' : Hp} {K : V → Hp → Prop} {v : V} (hs : sop tab nm e h op = some (v,h'))
 (hw : ∀ x ∈ op.operands.toList,(∀ (A : Nat → Prop) (ids : Nat → Nat × Nat) (w : World) (u : Value),RepV A ids w (e0 x) u → RepV A ids w (e x) u) ∧ ((e0 x).Below M → (e x).Below M)) (hK : K v h') : AOp P op e0 h M nm K:=by
 classical
 refine AOp.ok fun F ids w a o ho hh h1 h2=>⟨v,h',hK,?_⟩
 subst ho
 have h3 : ∀ x ∈ o.op.operands.toList,(if x ∈ o.op.operands.toList then e x else V.un) = e x:=fun x hx=>if_pos hx
 have hs2 : sop tab nm (fun x=>if x ∈ o.op.operands.toList then e x else .un) h o.op = some (v,h'):=by rw [(sop_ev (tab:=tab) h3).1];exact hs
 refine sop_sound ht hh hfresh _ a.eval (fun x=>?_) (fun x=>?_) (fun _=>rfl) o hs2
 · by_cases hx : x ∈ o.op.operands.toList
   · simp only [hx,if_true];exact (hw x hx).1 _ _ _ _ (h1 x hx)
   · simp only [hx,if_false];exact .un _
 · by_cases hx : x ∈ o.op.operands.toList
   · simp only [hx,if_true];exact (hw x hx).2 (h2 x hx)
   · simp only [hx,if_false];exact .un
theorem asSl (ht : TabOk P tab) {op : Op} {t : List V} {h : List (Nat × B)} {b : Nat} {K : V → List (Nat × B) → Prop} (k : opK tab b (t.map unSx) h op K) : OpB P op t h b K:=by
 obtain ⟨v,l,hs,hk⟩:=opK_of k
 exact ⟨AOp.of_sop (M:=Lt b) ht (Nat.lt_irrefl b) hs (fun x _=>by rw [evS_unSx];exact ⟨fun _ _ _ _ hr=>unSx_rep hr,fun hb=>unSx_below hb⟩) ⟨l,rfl,hk⟩⟩
def atO (e : Operand → V) (o : Option Operand) (d n : Nat) : Prop:=
 match o with
 | none=>n = d
 | some x=>∃ k,e x = .c (.int k (n : Int))
theorem sliceBounds_run {w : World} {len cap a b : Nat} {vlo vhi : Option Value} (hlo : (vlo = none ∧ a = 0) ∨ ∃ k,vlo = some (.int k (a : Int))) (hhi : (vhi = none ∧ b = len) ∨ ∃ k,vhi = some (.int k (b : Int))) (h1 : a ≤ b) (h2 : b ≤ cap) :
 (Instr.sliceBounds true len cap vlo vhi none).run P w = .ok (a,b,cap) w:=by
 rcases hlo with ⟨rfl,rfl⟩ | ⟨k,rfl⟩ <;> rcases hhi with ⟨rfl,rfl⟩ | ⟨k',rfl⟩ <;> simp [Instr.sliceBounds,Instr.sliceBound,asIntOf,h1,h2]
inductive InBlk (n sz : Nat) : V → Nat → Nat → Option Nat → Prop
 | sl (off len : Nat) : InBlk n sz (.sl n sz off len) off len none
 | ac (len : Nat) : InBlk n sz (.ac n sz len) 0 len none
 | sx (off len cap : Nat) : InBlk n sz (.sx n sz off len cap) off len (some cap)
theorem InBlk.rep {n sz off len : Nat} {c : Option Nat} {x : V} (hx : InBlk n sz x off len c) {A : Nat → Prop} {ids : Nat → Nat × Nat} {w : World} {v : Value} (h : RepV A ids w x v) : ∃ cap,(∀ c',c = some c' → cap = c') ∧ RepV A ids w (.sx n sz off len cap) v:=by
 cases hx with
 | sl=>cases h with | sl _ _ _ _ cap ad hl hc=>exact ⟨cap,by simp,.sx _ _ _ _ _ ad hl hc⟩
 | ac=>cases h with
  | ac0=>exact ⟨0,by simp,.sx _ _ _ _ _ _ (Nat.le_refl _) (fun h=>absurd rfl h)⟩
  | ac1 _ _ _ _ h0 h=>cases h with | sl _ _ _ _ cap ad hl hc=>exact ⟨cap,by simp,.sx _ _ _ _ _ ad hl hc⟩
 | sx=>cases h with | sx _ _ _ _ _ ad hl hc=>exact ⟨_,by simp,.sx _ _ _ _ _ ad hl hc⟩
theorem optVal {e : Operand → V} {o : Option Operand} {d n : Nat} (ho : atO e o d n) {A : Nat → Prop} {ids : Nat → Nat × Nat} {w : World} {ρ : Operand → Value} (hr : ∀ x ∈ o.toList,RepV A ids w (e x) (ρ x)) :
 (o.map ρ = none ∧ n = d) ∨ ∃ k,o.map ρ = some (.int k (n : Int)):=by
 cases o with
 | none=>exact .inl ⟨rfl,ho⟩
 | some x=>
  obtain ⟨k,hk⟩:=ho
  have:=hr x (by simp)
  rw [hk] at this
  exact .inr ⟨k,by rw [Option.map_some,int_val this]⟩
theorem cutSx (ht : TabOk P tab) {ty : TypeId} {x : Operand} {lo hi : Option Operand} {t : List V} {h : List (Nat × B)} {bn : Nat} {K : V → List (Nat × B) → Prop} (ε : Ty) (hε : sliceElem tab ty = some ε) {n off len cap : Nat} (a b : Nat) (hx : evS (tAt t) x = .sx n ε.size off len cap)
 (hlo : atO (evS (tAt t)) lo 0 a) (hhi : atO (evS (tAt t)) hi len b) (h1 : a ≤ b) (h2 : b ≤ cap) (k : K (.sx n ε.size (off + a) (b - a) (cap - a)) h) : OpB P (.slice ty x lo hi none) t h bn K:=by
 refine ⟨AOp.ok fun F ids w ac o ho hh hr hb=>⟨_,_,⟨h,rfl,k⟩,?_⟩⟩
 obtain ⟨τ,et,hτ,hk,he⟩:=sliceElem_some hε
 have hd:=slice_desc ht hτ hk
 have hxv:=hr x (by simp [Op.operands])
 have hxb:=hb x (by simp [Op.operands])
 rw [hx] at hxv hxb
 have p1:=optVal (ρ:=ac.eval) hlo fun y hy=>hr y (by simp only [Op.operands,Array.toList_append,List.mem_append];simp at hy ⊢;simp [hy])
 have p2:=optVal (ρ:=ac.eval) hhi fun y hy=>hr y (by simp only [Op.operands,Array.toList_append,List.mem_append];simp at hy ⊢;simp [hy])
 generalize hq : ac.eval x = xv at hxv
 cases hxb with
 | sx _ _ _ _ _ hn=>
 cases hxv with
 | sx _ _ _ _ _ ad hl hcc=>
 have hrun:=sliceBounds_run (P:=P) (w:=w) (len:=len) p1 p2 h1 h2
 refine OpOk.still (val:=.slice (if cap = a then ad else ad.map (·.add (a * ε.size))) (b - a) (cap - a)) hh (Nm.le_add _ _) ?_ (.sx _ _ _ _ _ _ (by omega) fun h0=>?_) (.sx _ _ _ _ _ hn)
 · simp only [execOp,ho,hq,Instr.sliceAt,Sem.run_bind,hd,Result.andThen_ok,Instr.slice,Option.map_none,hrun,(ht _ _ he).sizeOf,Sem.run_pure]
 · have hca : cap ≠ a:=by omega
   obtain ⟨arr,T,hs,rfl,ha⟩:=hcc (by omega)
   refine ⟨arr,T,hs,?_,by rw [show off + a + (cap - a) = off + cap by omega];exact ha⟩
   rw [if_neg hca,Option.map_some,add_none,Nat.add_mul,Nat.add_assoc]
theorem capB (ht : TabOk P tab) {ty : TypeId} {x : Operand} {t : List V} {h : List (Nat × B)} {bn : Nat} {K : V → List (Nat × B) → Prop} (ε : Ty) (hε : sliceElem tab ty = some ε) {n sz off len cap : Nat} (hx : evS (tAt t) x = .sx n sz off len cap) (k : K (V.int cap) h) : OpB P (.call ⟨.builtin .cap,#[x],#[ty]⟩) t h bn K:=by
 refine ⟨AOp.ok fun F ids w ac o ho hh hr hb=>⟨_,_,⟨h,rfl,k⟩,?_⟩⟩
 obtain ⟨τ,et,hτ,hk,he⟩:=sliceElem_some hε
 have hd:=slice_desc ht hτ hk
 have hxv:=hr x (by simp [Op.operands,Call.operands])
 rw [hx] at hxv
 generalize hq : ac.eval x = xv at hxv
 cases hxv with
 | sx _ _ _ _ _ ad hl hcc=>
 refine OpOk.still (val:=.int .i64 cap) hh (Nm.le_add _ _) ?_ (.c _) (.c _)
 simp [execOp,ho,resolve,invoke,builtin,hq,Builtin.cap_,hd,goInt]
end
set_option linter.unusedVariables false
set_option linter.unusedSimpArgs false
section
variable {P : Program} {tab : Tab}
theorem int_desc (ht : TabOk P tab) {t : TypeId} {k : IntKind} {τ : Ty} (hτ : tab t = some τ) (hk : τ.kind = .int k) (w : World) : (underlying t).run P w = .ok (.int k) w:=by
 obtain ⟨d,h1,_,hf⟩:=(ht t τ hτ).desc
 rw [hk] at hf
 generalize τ.agg = g at hf
 cases hf;exact h1 w
theorem appendZ_run (ht : TabOk P tab) {t tn T e : TypeId} {τ τn ε : Ty} (hτ : tab t = some τ) (hk : τ.kind = .slice e) (he : tab e = some ε) {kn kq : IntKind} (hτn : tab tn = some τn) (hkn : τn.kind = .int kn) {w : World}
 {base : Option Addr} {sLen sCap k : Nat} (hb : ε.bytes ≤ 4096) (hneed : sLen + k < 2147483648) (hgt : sCap < sLen + k) (hs : 0 < ε.size) (h0 : 0 < k) :
 ∃ newCap,sLen + k ≤ newCap ∧ ∀ old : Array Value,(Builtin.firstCells ε.size sLen (.slice base sLen sCap)).run P w.drew = .ok old w.drew →
  ∃ rest : Array Value,rest.size = (newCap - (sLen + k)) * ε.size ∧ (Builtin.append_ #[t,tn] T #[.slice base sLen sCap,.int kq k]).run P w = .ok (.slice (some ⟨w.heap.size,0,none⟩) (sLen + k) newCap) (w.drew.alloc (.cells (old ++ Builtin.zeroCells ε.zero.toArray k ++ rest) e)):=by
 have hd:=slice_desc ht hτ hk
 have hez:=(ht e ε he).sizeOf
 have hdn:=int_desc ht hτn hkn
 obtain ⟨z,hz,hzc⟩:=(ht e ε he).zero w.drew
 have hzl:=(ht e ε he).zlen
 obtain ⟨i,hi1,hi2⟩:=(ht e ε he).typeInfo w
 obtain ⟨i',hi1',hi2'⟩:=(ht e ε he).typeInfo w.drew
 have hnc:=nextslicecap_le (need:=sLen + k) (cap:=sCap) hgt
 have hsz : ¬ 281474976710656 < Builtin.nextslicecap (sLen + k) sCap * i.bytes:=by
  have h2 : Builtin.nextslicecap (sLen + k) sCap * i.bytes ≤ (2 * (sLen + k) + 192) * 4096:=Nat.mul_le_mul hnc (by omega)
  omega
 have hmx : ¬ (9223372036854775807 : Int) < (sLen : Int) + k:=by omega
 have hforced : (Question.appendCap (sLen + k) sCap e).forced = false:=rfl
 have hw : IntKind.i64.wrap (k : Int) = k:=by rw [IntKind.wrap_i64];omega
 have hneg : ¬ ((k : Int) < 0):=by omega
 have hkb : k * i.bytes ≤ 8796093022208:=Nat.le_trans (Nat.mul_le_mul (show k ≤ 2147483648 by omega) (show i.bytes ≤ 4096 by omega)) (by omega)
 have h48 : ¬ (281474976710656 < ((k : Int) * (i.bytes : Int))):=by rw [← Int.natCast_mul];omega
 have hns : ¬ (k * ε.size = 0):=by have:=Nat.mul_pos h0 hs;omega
 have hnle : ¬ (sLen + k ≤ sCap):=by omega
 refine ⟨(Question.appendCap (sLen + k) sCap e).cut (w.tape w.drawn (.appendCap (sLen + k) sCap e)),by simp only [Question.cut];omega,fun old hold=>?_⟩
 refine ⟨Builtin.zeroCells z.cells ((Question.appendCap (sLen + k) sCap e).cut (w.tape w.drawn (.appendCap (sLen + k) sCap e)) - (sLen + k)),by simp [Builtin.zeroCells,hzc,hzl],?_⟩
 rw [← hzc]
 simp [Builtin.append_,hd,hdn,hez,asInt,asIntOf,hw,hneg,h48,hnle,hi1,hmx,hsz,hforced,hi1',hold,hns,hz,newRow]
theorem zeroCells_get {z : List Value} {sz k i j : Nat} (hz : z.length = sz) (hi : i < k) (hj : j < sz) : (Builtin.zeroCells z.toArray k)[i * sz + j]? = z[j]?:=by
 have hlt:=row_in hi hj
 subst hz
 have hm : (i * z.length + j) % z.length = j:=by rw [Nat.mul_comm,Nat.mul_add_mod,Nat.mod_eq_of_lt hj]
 simp only [Builtin.zeroCells,Array.getElem?_map,Array.getElem?_range,List.size_toArray,hlt,if_true,Option.map_some,hm]
 rw [getElem!_pos _ _ (by simpa using hj)]
 simp [hj]
theorem zeros_stand {A : Nat → Prop} {ids : Nat → Nat × Nat} {w : World} {ε : Ty} (hzl : ε.zero.length = ε.size) {zr : List D} (hz : ZeroRow ε.zero zr) (k : Nat) : StandsR A ids w ε.size (toVs (List.replicate k zr)) (Builtin.zeroCells ε.zero.toArray k):=by
 obtain ⟨zl,zlf,zrep⟩:=hz.get
 have hrow : ∀ (i : Nat) (row : List V),(toVs (List.replicate k zr))[i]? = some row → i < k ∧ row = zr.map D.toV:=by
  intro i row hi
  rw [toVs_get,List.getElem?_replicate] at hi
  split at hi
  · next hlt=>simp at hi;exact ⟨hlt,hi.symm⟩
  · cases hi
 refine ⟨fun row hr=>?_,by simp [Builtin.zeroCells,toVs_len,hzl],fun i row j x hi hj=>?_⟩
 · obtain ⟨i,hi⟩:=List.getElem?_of_mem hr
   rw [(hrow i row hi).2,List.length_map,zl,hzl]
 · obtain ⟨hlt,rfl⟩:=hrow i row hi
   rw [List.getElem?_map,Option.map_eq_some_iff] at hj
   obtain ⟨d,hj,rfl⟩:=hj
   have hjl : j < ε.size:=by rw [← hzl,← zl];exact (List.getElem?_eq_some_iff.1 hj).1
   have hjz : j < ε.zero.length:=by omega
   exact ⟨ε.zero[j],by rw [zeroCells_get hzl hlt hjl];simp [hjz],(zrep A w j _ d (by simp [hjz]) hj).toV⟩
theorem appendZ_aop (ht : TabOk P tab) {M : Nm} {nm : Nat} (hfresh : ¬ M nm) {ty tn : TypeId} {s x : Operand} {e : Operand → V} {h : Hp} {K : V → Hp → Prop} {ε τn : Ty} (hε : sliceElem tab ty = some ε) {kn kq : IntKind} (hτn : tab tn = some τn) (hkn : τn.kind = .int kn)
 {n off len cap k : Nat} {r : List (List D)} (hs : e s = .sx n ε.size off len cap) (hx : e x = .c (.int kq (k : Int))) (hr : h n = some (.dat ε.size r)) (hr0 : r ≠ []) (hin : off + len ≤ r.length) (hgt : cap < len + k) (h0 : 0 < k) (hsz : 0 < ε.size)
 (hneed : len + k < 2147483648) (hby : ε.bytes ≤ 4096) {zr : List D} (hz : ZeroRow ε.zero zr) (hK : K (.sl nm ε.size 0 (len + k)) (upd h nm (some (.dat ε.size ((r.drop off).take len ++ List.replicate k zr))))) : AOp P (.call ⟨.builtin .append,#[s,x],#[ty,tn]⟩) e h M nm K:=by
 refine AOp.ok fun F ids w a o ho hh h1 h2=>⟨_,_,hK,?_⟩
 obtain ⟨τ,et,hτ,hk,he⟩:=sliceElem_some hε
 have hte:=ht _ _ he
 have hsv:=h1 s (by simp [Op.operands,Call.operands]);rw [hs] at hsv
 have hxv:=h1 x (by simp [Op.operands,Call.operands]);rw [hx] at hxv
 have ex:=int_val hxv
 generalize hq : a.eval s = sv at hsv
 cases hsv with
 | sx _ _ _ _ _ ad hl hc=>
 have hdr:=Chg.drew hh
 obtain ⟨old,hold,hst⟩:=RepR.first (P:=P) (len:=len) ((hdr.heap.blk n _ hr).1 hr0) (off:=off) (k:=len) (cap:=cap) hl (by rw [toVs_len];exact hin) fun h0=>by obtain ⟨_,_,_,h3,_⟩:=hc h0;exact h3
 obtain ⟨newCap,hcap,hrun⟩:=appendZ_run (P:=P) (T:=o.type) (kq:=kq) ht hτ hk he hτn hkn (w:=w) (base:=ad) (sLen:=len) (sCap:=cap) (k:=k) hby hneed hgt hsz h0
 obtain ⟨rest,hrest,hrun⟩:=hrun old hold
 have hzs:=zeros_stand (A:=Avoid F h ids) (ids:=ids) (w:=w.drew) hte.zlen hz k
 have hboth:=hst.append hzs
 rw [← toVs_cut] at hboth
 have hgo : Goes (Avoid F h ids) w.drew (w.drew.alloc (.cells (old ++ Builtin.zeroCells ε.zero.toArray k ++ rest) et)):=Goes.alloc _ _ _
 have hlv : leaves ((r.drop off).take len ++ List.replicate k zr):=leaves_app (leaves_cut (hh.blk n _ hr).2 _ _) fun row hrow=>by rw [List.eq_of_mem_replicate hrow];exact hz.get.2.1
 have hlen : ((r.drop off).take len ++ List.replicate k zr).length = len + k:=by simp;omega
 have hchg:=(Chg.new hdr.heap hfresh (.cells (old ++ Builtin.zeroCells ε.zero.toArray k ++ rest) et) (.dat ε.size ((r.drop off).take len ++ List.replicate k zr)) trivial fun ids' A h1 h2=>by
  refine ⟨fun _=>⟨_,et,alloc_new _ _,?_,?_,fun i row j x hi hj=>?_⟩,hlv⟩
  · rw [toVs_len,hlen,Array.size_append,hboth.len,List.length_append,toVs_len,toVs_len]
    have : ((r.drop off).take len).length = len:=by simp;omega
    rw [this,List.length_replicate];dsimp only;omega
  · rw [toVs_app];exact hboth.wid
  · rw [toVs_app] at hi
    obtain ⟨v,hv,hrep⟩:=hboth.rep i row j x hi hj
    have hlt:=(Array.getElem?_eq_some_iff.1 hv).1
    refine ⟨v,by dsimp only;rw [Nat.zero_add,Array.getElem?_append_left hlt];exact hv,hrep.mono hgo h2 h1 ?_⟩
    have hm : row ∈ toVs ((r.drop off).take len ++ List.replicate k zr):=by rw [toVs_app];exact List.mem_of_getElem? hi
    exact toVs_below M _ row hm x (List.mem_of_getElem? hj))
 refine OpOk.made (val:=.slice (some ⟨w.heap.size,0,none⟩) (len + k) newCap) (hdr.trans hchg) (by simp only [execOp,ho,resolve,invoke,builtin,Sem.run_bind,Sem.run_pure,Result.andThen_ok,List.map_toArray,List.map_cons,List.map_nil,hq,ex,hrun]) ?_ (.sl _ _ _ _ (.inr rfl))
 refine .sl _ _ _ _ _ _ hcap fun _=>⟨_,et,by rw [upd_same];exact alloc_new _ _,by rw [upd_same];simp,?_⟩
 rw [upd_same,Array.size_append,hboth.len,hrest,List.length_append,toVs_len,toVs_len,List.length_replicate]
 have : ((r.drop off).take len).length = len:=by simp;omega
 rw [this]
 dsimp only
 rw [← Nat.add_mul,show len + k + (newCap - (len + k)) = 0 + newCap by omega]
 omega
theorem appendZ (ht : TabOk P tab) {ty tn : TypeId} {s x : Operand} {t : List V} {h : List (Nat × B)} {b : Nat} {K : V → List (Nat × B) → Prop} (ε τn : Ty) (zr : List D) (hε : sliceElem tab ty = some ε) (hz : ZeroRow ε.zero zr) {kn kq : IntKind} (hτn : tab tn = some τn) (hkn : τn.kind = .int kn)
 {n off len cap : Nat} (k : Nat) {r : List (List D)} (hs : evS (tAt t) s = .sx n ε.size off len cap) (hx : evS (tAt t) x = .c (.int kq (k : Int))) (hr : hAt h n = some (.dat ε.size r)) (hc : r ≠ [] ∧ off + len ≤ r.length ∧ cap < len + k ∧ 0 < k ∧ len + k < 2147483648) (hsz : Nat.blt 0 ε.size = true) (hby : Nat.ble ε.bytes 4096 = true)
 (hk : hSet h b (.dat ε.size ((r.drop off).take len ++ List.replicate k zr)) fun h=>K (.sl b ε.size 0 (len + k)) h) : OpB P (.call ⟨.builtin .append,#[s,x],#[ty,tn]⟩) t h b K:=by
 obtain ⟨l',hk,e⟩:=hSet_of hk
 exact ⟨appendZ_aop (M:=Lt b) ht (Nat.lt_irrefl b) (K:=fun v h'=>∃ l,h' = hAt l ∧ K v l) hε hτn hkn hs hx hr hc.1 hc.2.1 hc.2.2.1 hc.2.2.2.1 (by simpa [Nat.blt_eq] using hsz) hc.2.2.2.2 (Nat.le_of_ble_eq_true hby) hz ⟨l',e.symm,hk⟩⟩
theorem copyB (ht : TabOk P tab) {d s : Operand} {dT sT : TypeId} {t : List V} {h : List (Nat × B)} {b : Nat} {K : V → List (Nat × B) → Prop} (ε : Ty) (hε : sliceElem tab dT = some ε) {n off len m : Nat} (k : Nat) {r src : List (List D)}
 (hd : evS (tAt t) d = .sl n ε.size off len) (hn : hAt h n = some (.dat ε.size r)) (hc : r ≠ [] ∧ off ≤ r.length ∧ k = min m len) (hs : CopySrc (hAt h) ε.size k (evS (tAt t) s) m src)
 (hk : hSet h n (.dat ε.size (r.take off ++ (src ++ r.drop (off + k)))) fun h=>K (V.int k) h) : OpB P (.call ⟨.builtin .copy,#[d,s],#[dT,sT]⟩) t h b K:=by
 obtain ⟨l',hk,e⟩:=hSet_of hk
 exact ⟨copy_aop (M:=Lt b) ht (K:=fun v h'=>∃ l,h' = hAt l ∧ K v l) hε hd hn hc.1 hc.2.1 hc.2.2 hs ⟨l',e.symm,hk⟩⟩
def srcName : V → List Nat
 | .sl n _ _ _=>[n]
 | .sx n _ _ _ _=>[n]
 | _=>[]
theorem CopySrc.congr {h h2 : Hp} {sz k m : Nat} {x : V} {src : List (List D)} (hs : CopySrc h sz k x m src) (he : ∀ n ∈ srcName x,h2 n = h n) : CopySrc h2 sz k x m src:=by
 cases hs with
 | lst rows cl hk=>exact .lst rows cl hk
 | sl n off len r hn hr hk hl=>exact .sl n off _ r (by rw [he n (by simp [srcName])];exact hn) hr hk hl
 | sx n off len cap r hn hr hk hl=>exact .sx n off _ cap r (by rw [he n (by simp [srcName])];exact hn) hr hk hl
theorem dcopyB (ht : TabOk P tab) {d s : Operand} {dT sT : TypeId} {t : List V} {h : List (Nat × B)} {b : Nat} {K : V → List (Nat × B) → Dyn → Prop} (ε : Ty) (hε : sliceElem tab dT = some ε) {n off len m : Nat} (k : Nat) {r src : List (List D)}
 (hd : evS (tAt t) d = .sl n ε.size off len) (hn : hAt h n = some (.dat ε.size r)) (hc : r ≠ [] ∧ off ≤ r.length ∧ k = min m len) (hs : CopySrc (hAt h) ε.size k (evS (tAt t) s) m src)
 (hk : listK (srcName (evS (tAt t) s)) fun hr=>hSet h n (.dat ε.size (r.take off ++ (src ++ r.drop (off + k)))) fun h=>K (V.int k) h ⟨hr,[n],[],false⟩) : DOpB P (.call ⟨.builtin .copy,#[d,s],#[dT,sT]⟩) t h b K:=by
 obtain ⟨l',hk,e⟩:=hSet_of (listK_of hk)
 refine ⟨_,V.int k,[(n,some (.dat ε.size (r.take off ++ (src ++ r.drop (off + k)))))],l',rfl,⟨by simp [namesU],by simp,fun h2 he M hf hb=>?_⟩,e,hk⟩
 exact copy_aop ht hε hd (by rw [he n (.inr (by simp))];exact hn) hc.1 hc.2.1 hc.2.2 (hs.congr fun n hn=>he n (.inl hn)) ⟨rfl,rfl⟩
theorem DOpB.still {op : Op} {t : List V} {h : List (Nat × B)} {b : Nat} {K : V → List (Nat × B) → Dyn → Prop} {v : V} (hrun : ∀ (h2 : Hp) (M : Nm),AOp P op (evS (tAt t)) h2 M b fun r h'=>r = v ∧ h' = h2) (hk : K v h ⟨[],[],[],false⟩) : DOpB P op t h b K:=
 ⟨_,v,[],h,rfl,⟨by simp [namesU],by simp,fun h2 _ M _ _=>hrun h2 M⟩,rfl,hk⟩
theorem cutSx_aop (ht : TabOk P tab) {ty : TypeId} {x : Operand} {lo hi : Option Operand} {e : Operand → V} {h : Hp} {M : Nm} {nm : Nat} {K : V → Hp → Prop} {ε : Ty} (hε : sliceElem tab ty = some ε) {n off len cap : Nat} {a b : Nat} (hx : e x = .sx n ε.size off len cap)
 (hlo : atO e lo 0 a) (hhi : atO e hi len b) (h1 : a ≤ b) (h2 : b ≤ cap) (k : K (.sx n ε.size (off + a) (b - a) (cap - a)) h) : AOp P (.slice ty x lo hi none) e h M nm K:=by
 refine AOp.ok fun F ids w ac o ho hh hr hb=>⟨_,_,k,?_⟩
 obtain ⟨τ,et,hτ,hk,he⟩:=sliceElem_some hε
 have hd:=slice_desc ht hτ hk
 have hxv:=hr x (by simp [Op.operands])
 have hxb:=hb x (by simp [Op.operands])
 rw [hx] at hxv hxb
 have p1:=optVal (ρ:=ac.eval) hlo fun y hy=>hr y (by simp only [Op.operands,Array.toList_append,List.mem_append];simp at hy ⊢;simp [hy])
 have p2:=optVal (ρ:=ac.eval) hhi fun y hy=>hr y (by simp only [Op.operands,Array.toList_append,List.mem_append];simp at hy ⊢;simp [hy])
 generalize hq : ac.eval x = xv at hxv
 cases hxb with
 | sx _ _ _ _ _ hn=>
 cases hxv with
 | sx _ _ _ _ _ ad hl hcc=>
 have hrun:=sliceBounds_run (P:=P) (w:=w) (len:=len) p1 p2 h1 h2
 refine OpOk.still (val:=.slice (if cap = a then ad else ad.map (·.add (a * ε.size))) (b - a) (cap - a)) hh (Nm.le_add _ _) ?_ (.sx _ _ _ _ _ _ (by omega) fun h0=>?_) (.sx _ _ _ _ _ hn)
 · simp only [execOp,ho,hq,Instr.sliceAt,Sem.run_bind,hd,Result.andThen_ok,Instr.slice,Option.map_none,hrun,(ht _ _ he).sizeOf,Sem.run_pure]
 · have hca : cap ≠ a:=by omega
   obtain ⟨arr,T,hs,rfl,ha⟩:=hcc (by omega)
   refine ⟨arr,T,hs,?_,by rw [show off + a + (cap - a) = off + cap by omega];exact ha⟩
   rw [if_neg hca,Option.map_some,add_none,Nat.add_mul,Nat.add_assoc]
theorem dcutSx (ht : TabOk P tab) {ty : TypeId} {x : Operand} {lo hi : Option Operand} {t : List V} {h : List (Nat × B)} {bn : Nat} {K : V → List (Nat × B) → Dyn → Prop} (ε : Ty) (hε : sliceElem tab ty = some ε) {n off len cap : Nat} (a b : Nat) (hx : evS (tAt t) x = .sx n ε.size off len cap)
 (hlo : atO (evS (tAt t)) lo 0 a) (hhi : atO (evS (tAt t)) hi len b) (h12 : a ≤ b ∧ b ≤ cap) (k : K (.sx n ε.size (off + a) (b - a) (cap - a)) h ⟨[],[],[],false⟩) : DOpB P (.slice ty x lo hi none) t h bn K:=
 DOpB.still (fun h2 M=>cutSx_aop ht hε hx hlo hhi h12.1 h12.2 ⟨rfl,rfl⟩) k
theorem cutSl (ht : TabOk P tab) {ty : TypeId} {x : Operand} {lo hi : Option Operand} {t : List V} {h : List (Nat × B)} {bn : Nat} {K : V → List (Nat × B) → Prop} (ε : Ty) (hε : sliceElem tab ty = some ε) {n off len cap : Nat} (a b : Nat) (hx : evS (tAt t) x = .sx n ε.size off len cap)
 (hlo : atO (evS (tAt t)) lo 0 a) (hhi : atO (evS (tAt t)) hi len b) (h12 : a ≤ b ∧ b ≤ cap) (k : K (.sl n ε.size (off + a) (b - a)) h) : OpB P (.slice ty x lo hi none) t h bn K:=by
 refine ⟨fun F ids w ac o ho hh hr hb next Q hn=>cutSx_aop (nm:=bn) (K:=fun v h'=>h' = hAt h ∧ v = .sx n ε.size (off + a) (b - a) (cap - a)) ht hε hx hlo hhi h12.1 h12.2 ⟨rfl,rfl⟩ F ids w ac o ho hh hr hb next Q ?_⟩
 rintro v h' ids' w' val ⟨rfl,rfl⟩ hc hv hvb
 exact hn _ _ ids' w' val ⟨h,rfl,k⟩ hc (unSx_rep hv) (unSx_below hvb)
theorem overlaps_no (w : World) (tS tR e : TypeId) (ht : P.underlying tS = some (.slice e)) (size : Nat) (hz : ∀ w,(Go.sizeOf e).run P w = .ok size w) (ba oa bb ob la ca lb cb : Nat) (hne : ba ≠ bb) {arrA arrB : Array Value} {tA tB : TypeId} {fA : Nat × Nat}
 (hA : w.heap[ba]? = some (.cells arrA tA fA)) (hB : w.heap[bb]? = some (.cells arrB tB (0,0))) (hA0 : arrA.size ≠ 0) (hB0 : arrB.size ≠ 0) :
 (Extern.SlicesOverlaps.overlaps #[tS,tS] #[tR] #[.slice (some ⟨ba,oa,none⟩) la ca,.slice (some ⟨bb,ob,none⟩) lb cb]).run P w = .ok (.bool false) w:=by
 have hnb : (ba != bb) = true:=by simpa using hne
 have hnb' : (ba == bb) = false:=by simpa using hne
 change Sem.run P (α:=Value) (do
  let some t := (#[tS, tS] : Array TypeId)[0]? | stuck "slices.overlaps: no parameter types"
  let .slice elem ← underlying t | stuck "slices.overlaps: slice type expected"
  let size ← sizeOf elem
  match (some (⟨ba,oa,none⟩ : Addr) : Option Addr),(some (⟨bb,ob,none⟩ : Addr) : Option Addr) with
  | some a,some b=>
   if la = 0 ∨ lb = 0 ∨ size = 0 then pure (Value.bool false)
   else if a.block != b.block && (← frozen a) && (← frozen b) then unsupported .addressObserved
   else do
    if a.block != b.block then do
     noView a;noView b
     if ← mayBeOne a b then return Value.bool ((← choose (.extern "sameAddr.stringBytes" 2)) == 1)
    pure (Value.bool (a.block == b.block && a.off < b.off + lb * size && b.off < a.off + la * size))
  | _,_=>pure (Value.bool false)) w = _
 have sA : w.shape? ba = some (tA,arrA.size):=by simp [World.shape?,hA]
 have sB : w.shape? bb = some (tB,arrB.size):=by simp [World.shape?,hB]
 have fB : ∀ o,w.frozen? ⟨bb,o,none⟩ = false:=fun o=>frozen_of hB
 by_cases h0 : la = 0 ∨ lb = 0 ∨ size = 0
 · simp [run_underlying ht,hz,h0]
 · obtain ⟨na,hna⟩ : ∃ n,arrA.size = n + 1:=⟨arrA.size - 1,by omega⟩
   obtain ⟨nb,hnb2⟩ : ∃ n,arrB.size = n + 1:=⟨arrB.size - 1,by omega⟩
   rw [hna] at sA
   rw [hnb2] at sB
   by_cases c1 : w.frozen? ⟨ba,oa,none⟩ = true
   · simp [run_underlying ht,hz,h0,hnb,hnb',frozen,noView,viewAt,mayBeOne,stringish,shape,Sem.run,sA,sB,fB,c1]
   · by_cases c2 : w.frozen? ⟨ba,na + 1,none⟩ = true
     · simp [run_underlying ht,hz,h0,hnb,hnb',frozen,noView,viewAt,mayBeOne,stringish,shape,Sem.run,sA,sB,fB,c1,c2]
     · simp [run_underlying ht,hz,h0,hnb,hnb',frozen,noView,viewAt,mayBeOne,stringish,shape,Sem.run,sA,sB,fB,c1,c2]
theorem overlapsB (ht : TabOk P tab) {f : FuncId} {fn : Func} {tS tR : TypeId} (hf : P.funcs[f]? = some fn) (hname : (fn.name == "runtime.NumGoroutine") = false) (hbn : fn.body.isNone = true) (hn : Extern.findNext fn = none) (he : Extern.find fn = some (Extern.SlicesOverlaps.overlaps #[tS, tS] #[tR]))
 {ε : Ty} (hε : sliceElem tab tS = some ε) {row : List D} {cl : Bool} {n off len : Nat} {x : V} {c : Option Nat} (hx : InBlk n ε.size x off len c) {r : List (List D)} {h : List (Nat × B)} {b : Nat} {K : V → List (Nat × B) → Prop} (hr : hAt h n = some (.dat ε.size r)) (hr0 : r ≠ []) (hs0 : 0 < ε.size) (hl0 : 0 < len)
 (k : K (V.bool false) h) : CallB P f [.lst ε.size [row] cl,x] h b K:=by
 refine ⟨fun F ids w vals hh hsz hv=>.inr ?_⟩
 obtain ⟨τ,et,hτ,hk,hte⟩:=sliceElem_some hε
 obtain ⟨d,hd,hu,hfit⟩:=(ht _ _ hτ).desc
 have hu : P.underlying tS = some (.slice et):=by
  rw [hk] at hfit
  generalize τ.agg = g at hfit
  cases hfit;exact hu
 have hs2 : vals.size = 2:=hsz
 have ev : vals = #[vals[0]'(by omega),vals[1]'(by omega)]:=by
  apply Array.ext
  · simp [hs2]
  · intro i h1 h2
    match i,h1 with
    | 0,_=>rfl
    | 1,_=>rfl
    | i + 2,h1=>omega
 have h0:=hv 0 _ (vals[0]'(by omega)) rfl (by simp [hs2])
 have h1:=hv 1 _ (vals[1]'(by omega)) rfl (by simp [hs2])
 generalize vals[0]'(by omega) = v0 at ev h0
 generalize vals[1]'(by omega) = v1 at ev h1
 subst ev
 obtain ⟨cap,_,h1⟩:=hx.rep h1
 obtain ⟨arrB,TB,b1,b2,b3,b4⟩:=(hh.blk n _ hr).1 hr0
 have hB0 : arrB.size ≠ 0:=by
  have:=List.length_pos_iff.2 hr0
  have h3 : 1 * ε.size ≤ (toVs r).length * ε.size:=Nat.mul_le_mul_right _ (by rw [toVs_len];exact this)
  omega
 refine ⟨.bool false,V.bool false,hAt h,ids,w,?_,⟨h,rfl,k⟩,Chg.skip hh (fun _ hk=>.inl hk),.c _,.c _⟩
 rw [run_callFunc_extern hf hname hbn hn he]
 cases h0 with
 | lst _ _ _ _ hd0 _=>
 cases hd0 with
 | lst _ _ ba oa ca cell hcap hbb hA hw hcell hdd=>
 cases h1 with
 | sx _ _ _ _ _ ad hl hcc=>
 have hrow : row.length = ε.size:=hw row (by simp)
 obtain ⟨d0,hd0⟩ : ∃ d0,row[0]? = some d0:=⟨row[0]'(by omega),by simp⟩
 have hc0:=hcell 0 row 0 d0 rfl hd0
 have hheap : ∃ arrA tA fA,w.heap[ba]? = some (.cells arrA tA fA) ∧ arrA.size ≠ 0:=by
  unfold World.cell? at hc0
  split at hc0
  · next c t f hq=>
    refine ⟨c,t,f,hq,?_⟩
    simp only [Option.isSome_none,Bool.false_eq_true,if_false] at hc0
    have:=(Array.getElem?_eq_some_iff.1 hc0).1
    omega
  · cases hc0
 obtain ⟨arrA,tA,fA,g1,g2⟩:=hheap
 have hne : ba ≠ (ids n).1:=fun e=>hA (.inr ⟨n,_,hr,dat_real hr0,e.symm⟩)
 have hz : cap ≠ 0:=by omega
 obtain ⟨_,_,_,rfl,_⟩:=hcc hz
 rw [overlaps_no w tS tR et hu ε.size (ht _ _ hte).sizeOf ba oa (ids n).1 _ _ _ _ _ hne g1 b1 g2 hB0]
 rfl
theorem LSpec.room {f : FuncId} {n sz len : Nat} {args : List V} {H : List (Nat × B)} {N : Nat} {r : V} {H' : List (Nat × B)} {N' : Nat} (hs : ∀ cap,len ≤ cap → LSpec P f (.sx n sz 0 len cap :: args) H N r H' N') : LSpec P f (.ac n sz len :: args) H N r H' N':=by
 obtain ⟨a1,a2,_⟩:=hs len (Nat.le_refl _)
 refine ⟨fun x hx=>?_,a2,fun F ids w vals hh hsz hv=>?_⟩
 · rcases List.mem_cons.1 hx with rfl | hx
   · have:=a1 _ (List.mem_cons_self);cases this;exact .ac _ _ _ (by assumption)
   · exact a1 x (List.mem_cons_of_mem _ hx)
 · have h0 : 0 < vals.size:=by rw [hsz];simp
   obtain ⟨cap,_,hr⟩:=InBlk.rep (.ac len) (hv 0 _ vals[0] rfl (by simp))
   have hlc : len ≤ cap:=by generalize vals[0] = v0 at hr;cases hr;assumption
   obtain ⟨_,_,h3⟩:=hs cap hlc
   refine h3 F ids w vals hh hsz fun i x v hx hvi=>?_
   cases i with
   | zero=>
    simp only [List.getElem?_cons_zero,Option.some.injEq] at hx
    subst hx
    have : v = vals[0]:=by simp [h0] at hvi;exact hvi.symm
    rw [this];exact hr
   | succ i=>exact hv (i + 1) x v (by simpa using hx) hvi
end
set_option linter.unusedVariables false
set_option linter.unusedSimpArgs false
section
variable {P : Program} {tab : Tab}
def leafEqK : Bool → V → V → Option Bool
 | true,.c (.int k a),.c (.int k' b)=>if k = k' then some (decide (a = b)) else none
 | false,.c (.bool a),.c (.bool b)=>some (a == b)
 | _,_,_=>none
def listEqK : List Bool → List V → List V → Option Bool
 | [],[],[]=>some true
 | k :: ks,x :: xs,y :: ys=>(leafEqK k x y).bind fun b=>(listEqK ks xs ys).bind fun c=>some (b && c)
 | _,_,_=>none
def eqFieldsOk (P : Program) : List Field → Nat → List Bool → Bool
 | [],_,[]=>true
 | f :: fs, i, k :: ks => f.name != "_" && f.offset == i && (match P.underlying f.type, k with
  | some (.int _),true=>true
  | some .bool,false=>true
  | _,_=>false) && eqFieldsOk P fs (i + 1) ks
 | _,_,_=>false
def eqTyOk (P : Program) (t : TypeId) (ks : List Bool) : Bool:=
 (match P.underlying t with
  | some (.struct fs)=>eqFieldsOk P fs.toList 0 ks
  | _=>false) && !P.stoodInHeld t && !P.eqGuardType P.depth t
theorem run_isAgg_int {t : TypeId} {k : IntKind} (h : P.underlying t = some (.int k)) (w : World) : (isAgg t).run P w = .ok false w:=by
 simp [isAgg,run_underlying h]
theorem run_isAgg_bool {t : TypeId} (h : P.underlying t = some .bool) (w : World) : (isAgg t).run P w = .ok false w:=by
 simp [isAgg,run_underlying h]
theorem eqFields_run (w : World) (d : Nat) {A : Nat → Prop} {ids : Nat → Nat × Nat} : ∀ (fs : List Field) (i : Nat) (ks : List Bool) (X Y : List V) (vx vy : Array Value) (z : Bool),eqFieldsOk P fs i ks = true → listEqK ks (X.drop i) (Y.drop i) = some z →
 vx.size = X.length → vy.size = Y.length → (∀ (i : Nat) (x : V) (v : Value),X[i]? = some x → vx[i]? = some v → RepV A ids w x v) → (∀ (i : Nat) (x : V) (v : Value),Y[i]? = some x → vy[i]? = some v → RepV A ids w x v) →
 (Op.eqFields (d + 1) vx vy fs).run P w = .ok z w:=by
 intro fs
 induction fs with
 | nil=>
  intro i ks X Y vx vy z hok hz _ _ _ _
  cases ks with
  | nil=>
   have : z = true:=by
    revert hz
    cases X.drop i <;> cases Y.drop i <;> simp [listEqK]
   subst this
   simp [Op.eqFields]
  | cons k ks=>simp [eqFieldsOk] at hok
 | cons f fs ih=>
  intro i ks X Y vx vy z hok hz hsx hsy hx hy
  cases ks with
  | nil=>simp [eqFieldsOk] at hok
  | cons k ks=>
   simp only [eqFieldsOk,Bool.and_eq_true,bne_iff_ne,beq_iff_eq] at hok
   obtain ⟨⟨⟨hn,ho⟩,hk⟩,hrest⟩:=hok
   cases hX : X.drop i with
   | nil=>rw [hX] at hz;simp [listEqK] at hz
   | cons x xs=>
    cases hY : Y.drop i with
    | nil=>rw [hX,hY] at hz;simp [listEqK] at hz
    | cons y ys=>
     rw [hX,hY] at hz
     simp only [listEqK,Option.bind_eq_some_iff,Option.some.injEq] at hz
     obtain ⟨b,hb,c,hc,rfl⟩:=hz
     have gx : X[i]? = some x:=by rw [← List.head?_drop,hX];rfl
     have gy : Y[i]? = some y:=by rw [← List.head?_drop,hY];rfl
     have dx : X.drop (i + 1) = xs:=by rw [← List.tail_drop,hX];rfl
     have dy : Y.drop (i + 1) = ys:=by rw [← List.tail_drop,hY];rfl
     obtain ⟨v,hv⟩ : ∃ v,vx[i]? = some v:=by
      have : i < X.length:=(List.getElem?_eq_some_iff.1 gx).1
      exact ⟨vx[i],by rw [Array.getElem?_eq_getElem (by omega)]⟩
     obtain ⟨u,hu⟩ : ∃ v,vy[i]? = some v:=by
      have : i < Y.length:=(List.getElem?_eq_some_iff.1 gy).1
      exact ⟨vy[i],by rw [Array.getElem?_eq_getElem (by omega)]⟩
     have rx:=hx i x v gx hv
     have ry:=hy i y u gy hu
     have hnext:=ih (i + 1) ks X Y vx vy c hrest (by rw [dx,dy];exact hc) hsx hsy hx hy
     have hfin : ∀ b : Bool,(Op.equalIn (d + 1) f.type v u).run P w = .ok b w → (isAgg f.type).run P w = .ok false w → (Op.eqFields (d + 1) vx vy (f :: fs)).run P w = .ok (b && c) w:=by
      intro b he ha
      have pv : (part f.type vx f.offset).run P w = .ok v w:=by simp [part,ha,ho,hv]
      have pu : (part f.type vy f.offset).run P w = .ok u w:=by simp [part,ha,ho,hu]
      simp only [Op.eqFields,ne_eq,hn,not_false_eq_true,if_true,Sem.run_bind,pv,pu,he,Result.andThen_ok]
      cases b with
      | true=>simp only [Bool.not_true,Bool.false_eq_true,if_false,Bool.true_and];exact hnext
      | false=>simp
     cases k with
     | true=>
      have hu' : ∃ k,P.underlying f.type = some (.int k):=by
       revert hk
       cases P.underlying f.type with
       | none=>simp
       | some t=>cases t <;> simp
      obtain ⟨kk,hu'⟩:=hu'
      revert hb
      cases rx <;> simp only [leafEqK,reduceCtorEq,false_implies]
      cases ry <;> try (cases v <;> simp only [leafEqK,reduceCtorEq,false_implies])
      cases v <;> try (simp only [leafEqK,reduceCtorEq,false_implies])
      cases u <;> try (simp only [leafEqK,reduceCtorEq,false_implies])
      intro hb
      split at hb
      · next e=>
        subst e
        cases hb
        refine hfin _ ?_ (run_isAgg_int hu' w)
        rw [run_equalIn_int w d _ _ _ _ _ hu']
        rfl
      · cases hb
     | false=>
      have hu' : P.underlying f.type = some .bool:=by
       revert hk
       cases P.underlying f.type with
       | none=>simp
       | some t=>cases t <;> simp
      revert hb
      cases rx <;> simp only [leafEqK,reduceCtorEq,false_implies]
      cases ry <;> try (cases v <;> simp only [leafEqK,reduceCtorEq,false_implies])
      cases v <;> try (simp only [leafEqK,reduceCtorEq,false_implies])
      cases u <;> try (simp only [leafEqK,reduceCtorEq,false_implies])
      intro hb
      cases hb
      exact hfin _ (run_equalIn_bool' w d _ _ _ hu') (run_isAgg_bool hu' w)
theorem eq_aop {M : Nm} {nm : Nat} {neg : Bool} {ty ty' : TypeId} {x y : Operand} {e : Operand → V} {h : Hp} {K : V → Hp → Prop} {ks : List Bool} (hty : eqTyOk P ty ks = true) {X Y : List V} {z : Bool} (hx : e x = .agg X) (hy : e y = .agg Y)
 (hz : listEqK ks X Y = some z) (hK : K (.c (.bool (z != neg))) h) : AOp P (.binOp (if neg then .neq else .eql) ty x y ty') e h M nm K:=by
 refine AOp.ok fun F ids w a o ho hh h1 h2=>⟨_,_,hK,?_⟩
 simp only [eqTyOk,Bool.and_eq_true,Bool.not_eq_true'] at hty
 obtain ⟨⟨hfs,hst⟩,hg⟩:=hty
 have r1:=h1 x (by simp [Op.operands])
 have r2:=h1 y (by simp [Op.operands])
 rw [hx] at r1
 rw [hy] at r2
 cases hax : a.eval x <;> rw [hax] at r1 <;> cases r1
 next vx sx rx=>
 cases hay : a.eval y <;> rw [hay] at r2 <;> cases r2
 next vy sy ry=>
 cases hu : P.underlying ty with
 | none=>rw [hu] at hfs;cases hfs
 | some d=>
  rw [hu] at hfs
  cases d with
  | struct fs=>
   have hfo : P.fieldsOf ty = fs:=by simp [Program.fieldsOf,hu]
   have hS : P.underlying ty = some (.struct (P.fieldsOf ty)):=by rw [hu,hfo]
   have heq : (Op.equalIn 10000 ty (.agg vx) (.agg vy)).run P w = .ok z w:=by
    rw [show (10000 : Nat) = 9999 + 1 from rfl,run_equalIn_agg w 9999 ty _ _ hS hst,hfo]
    exact eqFields_run w 9998 fs.toList 0 ks X Y vx vy z hfs (by simpa using hz) sx sy rx ry
   have hrun : (execOp a.eval o).run P w = .ok (.value (.bool (z != neg))) w:=by
    cases neg with
    | true=>
     simp only [execOp,ho,if_true,Sem.run_bind,hax,hay,run_eqGuard_agg w _ ty x y vx vy hg,Result.andThen_ok,run_neq_struct,heq,Sem.run_pure]
     cases z <;> rfl
    | false=>
     simp only [execOp,ho,Bool.false_eq_true,if_false,Sem.run_bind,hax,hay,run_eqGuard_agg w _ ty x y vx vy hg,Result.andThen_ok,run_eql_struct,heq,Sem.run_pure]
     cases z <;> rfl
   exact OpOk.still hh (Nm.le_add _ _) hrun (.c _) (.c _)
  | _=>cases hfs
theorem eqB {ty ty' : TypeId} {x y : Operand} {t : List V} {h : List (Nat × B)} {b : Nat} {K : V → List (Nat × B) → Prop} (ks : List Bool) (hty : eqTyOk P ty ks = true) {X Y : List V} {z : Bool} (hx : evS (tAt t) x = .agg X) (hy : evS (tAt t) y = .agg Y)
 (hz : listEqK ks X Y = some z) (k : K (.c (.bool z)) h) : OpB P (.binOp .eql ty x y ty') t h b K:=
 ⟨eq_aop (neg:=false) (K:=fun v h'=>∃ l,h' = hAt l ∧ K v l) hty hx hy hz ⟨h,rfl,by rw [Bool.bne_false];exact k⟩⟩
theorem dneqB {ty ty' : TypeId} {x y : Operand} {t : List V} {h : List (Nat × B)} {b : Nat} {K : V → List (Nat × B) → Dyn → Prop} (ks : List Bool) (hty : eqTyOk P ty ks = true) {X Y : List V} {z : Bool} (hx : evS (tAt t) x = .agg X) (hy : evS (tAt t) y = .agg Y)
 (hz : listEqK ks X Y = some z) (k : K (.c (.bool (!z))) h ⟨[],[],[],false⟩) : DOpB P (.binOp .neq ty x y ty') t h b K:=
 DOpB.still (fun h2 M=>eq_aop (neg:=true) hty hx hy hz ⟨by rw [Bool.bne_true],rfl⟩) k
end
set_option linter.unusedVariables false
set_option linter.unusedSimpArgs false
section
variable {P : Program} {tab : Tab}
theorem tAt_set : ∀ (t : List V) (i j : Nat) (v : V),i < t.length → tAt (t.set i v) j = if j = i then v else tAt t j
 | x :: t,0,0,v,_=>rfl
 | x :: t,0,j + 1,v,_=>rfl
 | x :: t,i + 1,0,v,_=>rfl
 | x :: t,i + 1,j + 1,v,h=>by
  have:=tAt_set t i j v (by simpa using h)
  simp only [List.set_cons_succ,tAt,this,Nat.add_right_cancel_iff]
theorem LoopB.room {N : Nat} {c : Code} {t : List V} {h : List (Nat × B)} {b : Nat} {K : Ex → List V → List (Nat × B) → Nat → Prop} (i : Nat) {n sz off len : Nat} (hi : tAt t i = .sl n sz off len) (hlt : i < t.length)
 (k : ∀ cap,len ≤ cap → LoopB P tab N c (t.set i (.sx n sz off len cap)) h b K) : LoopB P tab N c t h b K:=by
 obtain ⟨hb,_⟩:=k len (Nat.le_refl _)
 refine ⟨hb,fun rd hrd dep F ids w a hr=>?_⟩
 have hv:=hr.tmps i
 have hbl:=hr.below i
 dsimp only at hv hbl
 rw [hi] at hv hbl
 obtain ⟨cap,_,hx⟩:=InBlk.rep (.sl off len) hv
 have hlc : len ≤ cap:=by generalize a.tmps.getD i undef = v0 at hx;cases hx;assumption
 have hnb : Lt b n:=by cases hbl;assumption
 obtain ⟨_,hrun⟩:=k cap hlc
 have hrep : Rep F ids w ⟨tAt (t.set i (.sx n sz off len cap)),hAt h,b,(t.set i (.sx n sz off len cap)).length⟩ a:=by
  refine ⟨hr.heap,fun j=>?_,by rw [List.length_set];exact hr.size,fun j hj=>?_,fun j=>?_,hr.defers⟩
  · dsimp only
    rw [tAt_set _ _ _ _ hlt]
    split
    · next e=>subst e;exact hx
    · exact hr.tmps j
  · dsimp only at hj ⊢
    rw [List.length_set] at hj
    rw [tAt_set _ _ _ _ hlt,if_neg (by omega)]
    exact hr.out j hj
  · dsimp only
    rw [tAt_set _ _ _ _ hlt]
    split
    · exact .sx _ _ _ _ _ hnb
    · exact hr.below j
 refine wpIn_mono (hrun rd hrd dep F ids w a hrep) ?_
 rintro e a' w' ⟨x,s',ids',h1,⟨t',h',b',h2,h3,h4⟩,h5⟩
 exact ⟨x,s',ids',h1,⟨t',h',b',h2,by rw [h3,List.length_set],h4⟩,h5⟩
theorem capNil (ht : TabOk P tab) {ty : TypeId} {x : Operand} {t : List V} {h : List (Nat × B)} {bn : Nat} {K : V → List (Nat × B) → Prop} (ε : Ty) (hε : sliceElem tab ty = some ε) (hx : evS (tAt t) x = .c (.slice none 0 0)) (k : K (V.int 0) h) : OpB P (.call ⟨.builtin .cap,#[x],#[ty]⟩) t h bn K:=by
 refine ⟨AOp.ok fun F ids w ac o ho hh hr hb=>⟨_,_,⟨h,rfl,k⟩,?_⟩⟩
 obtain ⟨τ,et,hτ,hk,he⟩:=sliceElem_some hε
 have hd:=slice_desc ht hτ hk
 have hxv:=hr x (by simp [Op.operands,Call.operands])
 rw [hx] at hxv
 generalize hq : ac.eval x = xv at hxv
 cases hxv with
 | c=>
 refine OpOk.still (val:=.int .i64 0) hh (Nm.le_add _ _) ?_ (.c _) (.c _)
 simp [execOp,ho,resolve,invoke,builtin,hq,Builtin.cap_,hd,goInt]
theorem appendN_aop (ht : TabOk P tab) {M : Nm} {nm : Nat} (hfresh : ¬ M nm) {ty tn : TypeId} {s x : Operand} {e : Operand → V} {h : Hp} {K : V → Hp → Prop} {ε τn : Ty} (hε : sliceElem tab ty = some ε) {kn kq : IntKind} (hτn : tab tn = some τn) (hkn : τn.kind = .int kn)
 {k : Nat} (hs : e s = .c (.slice none 0 0)) (hx : e x = .c (.int kq (k : Int))) (h0 : 0 < k) (hsz : 0 < ε.size)
 (hneed : k < 2147483648) (hby : ε.bytes ≤ 4096) {zr : List D} (hz : ZeroRow ε.zero zr) (hK : K (.sl nm ε.size 0 k) (upd h nm (some (.dat ε.size (List.replicate k zr))))) : AOp P (.call ⟨.builtin .append,#[s,x],#[ty,tn]⟩) e h M nm K:=by
 refine AOp.ok fun F ids w a o ho hh h1 h2=>⟨_,_,hK,?_⟩
 obtain ⟨τ,et,hτ,hk,he⟩:=sliceElem_some hε
 have hte:=ht _ _ he
 have hsv:=h1 s (by simp [Op.operands,Call.operands]);rw [hs] at hsv
 have hxv:=h1 x (by simp [Op.operands,Call.operands]);rw [hx] at hxv
 have ex:=int_val hxv
 generalize hq : a.eval s = sv at hsv
 cases hsv with
 | c=>
 have hdr:=Chg.drew hh
 obtain ⟨newCap,hcap,hrun⟩:=appendZ_run (P:=P) (T:=o.type) (kq:=kq) ht hτ hk he hτn hkn (w:=w) (base:=none) (sLen:=0) (sCap:=0) (k:=k) hby (by omega) (by omega) hsz h0
 obtain ⟨rest,hrest,hrun⟩:=hrun #[] rfl
 have hzs:=zeros_stand (A:=Avoid F h ids) (ids:=ids) (w:=w.drew) hte.zlen hz k
 have hgo : Goes (Avoid F h ids) w.drew (w.drew.alloc (.cells (#[] ++ Builtin.zeroCells ε.zero.toArray k ++ rest) et)):=Goes.alloc _ _ _
 have hlv : leaves (List.replicate k zr):=fun row hrow=>by rw [List.eq_of_mem_replicate hrow];exact hz.get.2.1
 have hlen : (List.replicate k zr).length = k:=by simp
 rw [Nat.zero_add] at hcap hrest hrun
 have hchg:=(Chg.new hdr.heap hfresh (.cells (#[] ++ Builtin.zeroCells ε.zero.toArray k ++ rest) et) (.dat ε.size (List.replicate k zr)) trivial fun ids' A h1 h2=>by
  refine ⟨fun _=>⟨_,et,alloc_new _ _,?_,?_,fun i row j x hi hj=>?_⟩,hlv⟩
  · rw [toVs_len,hlen,Array.size_append,Array.size_append,hzs.len,toVs_len,hlen];simp
  · exact hzs.wid
  · obtain ⟨v,hv,hrep⟩:=hzs.rep i row j x hi hj
    have hlt:=(Array.getElem?_eq_some_iff.1 hv).1
    refine ⟨v,by dsimp only;rw [Nat.zero_add,Array.getElem?_append_left (by simpa using hlt)];simpa using hv,hrep.mono hgo h2 h1 ?_⟩
    exact toVs_below M _ row (List.mem_of_getElem? hi) x (List.mem_of_getElem? hj))
 refine OpOk.made (val:=.slice (some ⟨w.heap.size,0,none⟩) k newCap) (hdr.trans hchg) (by simp only [execOp,ho,resolve,invoke,builtin,Sem.run_bind,Sem.run_pure,Result.andThen_ok,List.map_toArray,List.map_cons,List.map_nil,hq,ex,hrun]) ?_ (.sl _ _ _ _ (.inr rfl))
 refine .sl _ _ _ _ _ _ hcap fun _=>⟨_,et,by rw [upd_same];exact alloc_new _ _,by rw [upd_same];simp,?_⟩
 rw [upd_same,Array.size_append,Array.size_append,hzs.len,hrest,toVs_len,hlen]
 dsimp only
 have hsum : k * ε.size + (newCap - k) * ε.size = newCap * ε.size:=by rw [← Nat.add_mul,show k + (newCap - k) = newCap by omega]
 rw [show (#[] : Array Value).size = 0 from rfl]
 simp only [Nat.zero_add]
 omega
theorem appendN (ht : TabOk P tab) {ty tn : TypeId} {s x : Operand} {t : List V} {h : List (Nat × B)} {b : Nat} {K : V → List (Nat × B) → Prop} (ε τn : Ty) (zr : List D) (hε : sliceElem tab ty = some ε) (hz : ZeroRow ε.zero zr) {kn kq : IntKind} (hτn : tab tn = some τn) (hkn : τn.kind = .int kn)
 (k : Nat) (hs : evS (tAt t) s = .c (.slice none 0 0)) (hx : evS (tAt t) x = .c (.int kq (k : Int))) (hc : 0 < k ∧ k < 2147483648) (hsz : Nat.blt 0 ε.size = true) (hby : Nat.ble ε.bytes 4096 = true)
 (hk : hSet h b (.dat ε.size (List.replicate k zr)) fun h=>K (.sl b ε.size 0 k) h) : OpB P (.call ⟨.builtin .append,#[s,x],#[ty,tn]⟩) t h b K:=by
 obtain ⟨l',hk,e⟩:=hSet_of hk
 exact ⟨appendN_aop (M:=Lt b) ht (Nat.lt_irrefl b) (K:=fun v h'=>∃ l,h' = hAt l ∧ K v l) hε hτn hkn hs hx hc.1 (by simpa [Nat.blt_eq] using hsz) hc.2 (Nat.le_of_ble_eq_true hby) hz ⟨l',e.symm,hk⟩⟩
theorem appendE (ht : TabOk P tab) {ty ty' : TypeId} {s x : Operand} {t : List V} {h : List (Nat × B)} {b : Nat} {K : V → List (Nat × B) → Prop} (ε ε' : Ty) (hε : sliceElem tab ty = some ε) (hε' : sliceElem tab ty' = some ε')
 {n sz off len cap sz' : Nat} {cl : Bool} (hs : evS (tAt t) s = .sx n sz off len cap) (hx : evS (tAt t) x = .lst sz' [] cl) (hk : K (.sx n sz off len cap) h) : OpB P (.call ⟨.builtin .append,#[s,x],#[ty,ty']⟩) t h b K:=by
 refine ⟨AOp.ok fun F ids w ac o ho hh hr hb=>⟨_,_,⟨h,rfl,hk⟩,?_⟩⟩
 obtain ⟨τ,et,hτ,hkk,he⟩:=sliceElem_some hε
 obtain ⟨τ',et',hτ',hkk',he'⟩:=sliceElem_some hε'
 have hd:=slice_desc ht hτ hkk (w:=w)
 have hd':=slice_desc ht hτ' hkk' (w:=w)
 have hez:=(ht et ε he).sizeOf w
 have hsv:=hr s (by simp [Op.operands,Call.operands])
 have hsb:=hb s (by simp [Op.operands,Call.operands])
 have hxv:=hr x (by simp [Op.operands,Call.operands])
 rw [hs] at hsv hsb
 rw [hx] at hxv
 generalize hq : ac.eval s = sv at hsv
 generalize hq' : ac.eval x = xv at hxv
 cases hxv with
 | lst _ _ _ _ hd0 hcl=>
 have hxe : ∃ ad c,xv = .slice ad 0 c:=by
  cases hd0 with
  | emp _ ad c=>exact ⟨ad,c,rfl⟩
  | lst _ _ b0 o0 c=>exact ⟨_,_,rfl⟩
 obtain ⟨ad',c',rfl⟩:=hxe
 cases hsv with
 | sx _ _ _ _ _ ad hl hcc=>
 refine OpOk.still (val:=.slice ad len cap) hh (Nm.le_add _ _) ?_ (.sx _ _ _ _ _ _ hl hcc) hsb
 have hfirst : (Builtin.firstCells ε.size 0 (.slice ad' 0 c')).run P w = .ok #[] w:=by
  cases ad' with
  | none=>rfl
  | some a=>simp [Builtin.firstCells,loadCells,loadCellsFrom]
 cases ad with
 | none=>simp [execOp,ho,resolve,invoke,builtin,hq,hq',Builtin.append_,hd,hd',hez,Builtin.lenOf,hfirst,hl]
 | some a=>simp [execOp,ho,resolve,invoke,builtin,hq,hq',Builtin.append_,hd,hd',hez,Builtin.lenOf,hfirst,hl,storeCells]
end
set_option linter.unusedVariables false
set_option linter.unusedSimpArgs false
section
variable {P : Program} {tab : Tab}
end
open Go.ChangeShapes Go.WideShapes Go.ChangeAt Go.RowKit Go.Deep
set_option linter.unusedVariables false
set_option linter.unusedSimpArgs false
theorem Goes.grown {w w' : World} (h : Goes (fun _=>False) w w') : Grown w w':=by
 refine ⟨⟨h.env.1,h.env.2,fun i hi=>?_⟩,h.frz,h.size⟩
 rw [h.same i hi (fun x=>x)]
 cases w.heap[i]? with
 | none=>rfl
 | some o=>cases o <;> simp
def sizeT (tab : Tab) (t : TypeId) : Nat:=
 match tab t with
 | some τ=>τ.size
 | none=>0
def ShapeL (sh : TypeId → List D → Prop) : List (Nat × TypeId) → List D → Prop
 | [],row=>row = []
 | p :: fs,row=>∃ a b,row = a ++ b ∧ sh p.2 a ∧ ShapeL sh fs b
def ShapeD (tab : Tab) : Nat → TypeId → List D → Prop
 | 0,_,_=>False
 | n + 1,t,row=>match (tab t).map Ty.kind with
  | some (.int k)=>∃ x : Int,row = [.c (.int k x)] ∧ (Lit.int k x).wf = true
  | some .bool=>∃ b,row = [.c (.bool b)]
  | some (.slice e)=>∃ rows,row = [.lst (sizeT tab e) rows] ∧ rows.length ≤ maxLen ∧ ∀ r ∈ rows,ShapeD tab n e r
  | some (.struct fs)=>ShapeL (ShapeD tab n) fs row
  | _=>False
def tiles (tab : Tab) : List (Nat × TypeId) → Nat → Nat → Bool
 | [],off,size=>off == size
 | p :: fs,off,size=>p.1 == off && tiles tab fs (off + sizeT tab p.2) size
def okSh (tab : Tab) : Nat → TypeId → Bool
 | 0,_=>false
 | n + 1,t=>match tab t with
  | some τ=>match τ.kind with
   | .int _=>!τ.agg
   | .bool=>!τ.agg
   | .slice e=>!τ.agg && (okSh tab n e && Nat.blt 0 (sizeT tab e))
   | .struct fs=>τ.agg && (tiles tab fs 0 τ.size && fs.all fun p=>okSh tab n p.2)
   | _=>false
  | none=>false
def RepRow (w : World) (row : List D) (cs : List Value) : Prop:=row.length = cs.length ∧ ∀ (j : Nat) (d : D) (v : Value),row[j]? = some d → cs[j]? = some v → RepD (fun _=>False) w d v
theorem RepRow.append {w : World} {a b : List D} {x y : List Value} (h : RepRow w a x) (h' : RepRow w b y) : RepRow w (a ++ b) (x ++ y):=by
 refine ⟨by simp [h.1,h'.1],fun j d v hd hv=>?_⟩
 by_cases hj : j < a.length
 · rw [List.getElem?_append_left hj] at hd
   rw [List.getElem?_append_left (by rw [← h.1];exact hj)] at hv
   exact h.2 j d v hd hv
 · rw [List.getElem?_append_right (by omega)] at hd
   rw [List.getElem?_append_right (by rw [← h.1];omega),← h.1] at hv
   exact h'.2 _ d v hd hv
theorem RepRow.one {w : World} {d : D} {v : Value} (h : RepD (fun _=>False) w d v) : RepRow w [d] [v]:=by
 refine ⟨rfl,fun j d' v' hd hv=>?_⟩
 cases j with
 | zero=>simp at hd hv;subst hd;subst hv;exact h
 | succ j=>simp at hd
section
variable {P : Program} {tab : Tab} {H : Type} {enc : TypeId × Value → H} {w : World}
theorem cells_size (ht : TabOk P tab) {t : TypeId} {τ : Ty} (h : tab t = some τ) : P.cellsOf t = τ.size:=by
 obtain ⟨⟨i,z,h1,h2,_⟩,_,_⟩:=ht t τ h
 simp [Program.cellsOf,h1,h2]
theorem okSh_tab {m : Nat} {t : TypeId} (h : okSh tab m t = true) : ∃ τ,tab t = some τ:=by
 cases m with
 | zero=>cases h
 | succ m=>
  unfold okSh at h
  split at h
  · next τ hτ=>exact ⟨τ,hτ⟩
  · cases h
theorem okSh_size (ht : TabOk P tab) {m : Nat} {t : TypeId} (h : okSh tab m t = true) : P.cellsOf t = sizeT tab t:=by
 obtain ⟨τ,hτ⟩:=okSh_tab h
 rw [cells_size ht hτ,sizeT,hτ]
theorem openRow (ht : TabOk P tab) : ∀ (m : Nat) (t : TypeId) (n : Nat) (cs : List Value) (x : DataW H × List MemPlace),okSh tab m t = true → DataW.trod enc P w 0 (fun _=>true) true n t cs = some x → ∃ row,ShapeD tab m t row ∧ RepRow w row cs:=by
 intro m
 induction m with
 | zero=>intro t n cs x h;cases h
 | succ m ih=>
  intro t n cs x hok h
  unfold okSh at hok
  split at hok
  case h_2=>cases hok
  next τ hτ=>
  obtain ⟨-,⟨d0,hu,hf⟩,-⟩:=ht t τ hτ
  obtain ⟨sz,by_,ag,ze,kind⟩:=τ
  dsimp only at hok hf
  cases kind <;> try cases hok
  case int k=>
   cases hf
   obtain ⟨n,rfl,rfl,hwf⟩:=DataW.trod_int hu h
   exact ⟨[.c (.int k n)],by unfold ShapeD;rw [hτ];exact ⟨n,rfl,hwf⟩,.one (.c _ rfl)⟩
  case bool=>
   cases hf
   obtain ⟨b,rfl,rfl⟩:=DataW.trod_bool hu h
   exact ⟨[.c (.bool b)],by unfold ShapeD;rw [hτ];exact ⟨b,rfl⟩,.one (.c _ rfl)⟩
  case slice e=>
   cases hf
   rw [Bool.and_eq_true,Bool.and_eq_true] at hok
   obtain ⟨_,hok1,hpos⟩:=hok
   have hpos : 0 < sizeT tab e:=by simpa using hpos
   have hsz:=okSh_size ht hok1
   have hS : ∀ rows : List (List D),rows.length ≤ maxLen → (∀ r ∈ rows,ShapeD tab m e r) → ShapeD tab (m + 1) t [.lst (sizeT tab e) rows]:=by
    intro rows h1 h2
    unfold ShapeD;rw [hτ];exact ⟨rows,rfl,h1,h2⟩
   rcases open_slice hu h with ⟨rfl,_⟩ | ⟨a,len,cap,mm,n',Dd,Pl,rfl,_,hl,hm,hmm,_,hx⟩
   · exact ⟨_,hS [] (by simp) (by simp),.one (.emp _ _ _)⟩
   · by_cases h0 : len = 0
     · subst h0;exact ⟨_,hS [] (by simp) (by simp),.one (.emp _ _ _)⟩
     have hmm : mm = cap:=hmm
     obtain ⟨f,hf⟩:=choose_lt (α:=List Value × List D) (n:=len) (p:=fun i q=>w.cells? 0 (a.add (i * P.cellsOf e)) (P.cellsOf e) = some q.1 ∧ ShapeD tab m e q.2 ∧ RepRow w q.2 q.1) (fun i hi=>by
      obtain ⟨cs',h1,h2⟩:=hx i (by omega)
      obtain ⟨row,h3,h4⟩:=ih e n' cs' _ hok1 h2
      exact ⟨(cs',row),h1,h3,h4⟩)
     rw [hsz] at hf
     have hcell : ∀ i,i < len → (f i).1.length = sizeT tab e ∧ ∀ j,j < sizeT tab e → w.cell? (a.add (i * sizeT tab e + j)) = (f i).1[j]?:=by
      intro i hi
      obtain ⟨_,h2,h3⟩:=World.cells?_some (hf i hi).1
      exact ⟨h2,fun j hj=>by rw [← add_add];exact h3 j hj⟩
     have hc00 : ∃ v,w.cell? a = some v:=by
      obtain ⟨h2,h3⟩:=hcell 0 (by omega)
      have:=h3 0 hpos
      rw [List.getElem?_eq_getElem (by omega)] at this
      rw [Nat.zero_mul] at this
      exact ⟨_,by simpa [Addr.add] using this⟩
     obtain ⟨v0,hv0⟩:=hc00
     have hspot:=World.cell?_spot hv0
     obtain ⟨b,o,spot⟩:=a
     dsimp only at hspot
     subst hspot
     have hadd : ∀ k,Addr.add ⟨b,o,none⟩ k = ⟨b,o + k,none⟩:=by
      intro k
      unfold Addr.add
      by_cases hk : k = 0 <;> simp [hk]
     have hb : b < w.heap.size:=by
      by_cases hb : b < w.heap.size
      · exact hb
      · simp [World.cell?,show w.heap[b]? = none from by simp;omega] at hv0
     have hrow : ∀ i r,((List.range len).map fun i=>(f i).2)[i]? = some r → i < len ∧ r = (f i).2:=by
      intro i r hi
      by_cases hl2 : i < len
      · rw [List.getElem?_map,List.getElem?_range hl2] at hi
        exact ⟨hl2,(Option.some.inj hi).symm⟩
      · rw [List.getElem?_map,List.getElem?_eq_none (by simpa using hl2)] at hi
        cases hi
     have hlen : ((List.range len).map fun i=>(f i).2).length = len:=by simp
     refine ⟨_,hS ((List.range len).map fun i=>(f i).2) (by rw [hlen];omega) (fun r hr=>?_),.one ?_⟩
     · obtain ⟨i,hi,rfl⟩:=List.mem_map.1 hr
       exact (hf i (by simpa using hi)).2.1
     · have key:=RepD.lst (A:=fun _=>False) (w:=w) (sizeT tab e) ((List.range len).map fun i=>(f i).2) b o cap (fun i j=>(f i).1.getD j undef) (by rw [hlen];exact hl) hb (fun h=>h) (fun r hr=>?_) (fun i r j d hi hj=>?_) (fun i r j d hi hj=>?_)
       · rw [hlen] at key;exact key
       · obtain ⟨i,hi,rfl⟩:=List.mem_map.1 hr
         have hi:=List.mem_range.1 hi
         rw [(hf i hi).2.2.1,(hcell i hi).1]
       · obtain ⟨hlt,rfl⟩:=hrow i r hi
         have hjl : j < (f i).1.length:=by rw [← (hf i hlt).2.2.1];exact (List.getElem?_eq_some_iff.1 hj).1
         have:=(hcell i hlt).2 j (by rw [← (hcell i hlt).1];exact hjl)
         rw [hadd] at this
         rw [this,List.getD_eq_getElem?_getD,List.getElem?_eq_getElem hjl]
         rfl
       · obtain ⟨hlt,rfl⟩:=hrow i r hi
         have hjl : j < (f i).1.length:=by rw [← (hf i hlt).2.2.1];exact (List.getElem?_eq_some_iff.1 hj).1
         refine (hf i hlt).2.2.2 j d _ hj ?_
         rw [List.getD_eq_getElem?_getD,List.getElem?_eq_getElem hjl]
         rfl
  case struct fs=>
   cases hf with
   | struct fa _ hfl=>
   rw [Bool.and_eq_true,Bool.and_eq_true] at hok
   obtain ⟨_,htile,hall⟩:=hok
   obtain ⟨xs,n',_,_,hcl,hxl,hf⟩:=DataW.trod_struct hu h
   have hsz : P.cellsOf t = sz:=cells_size ht hτ
   have key : ∀ (l : List Field) (off : Nat),(∀ f ∈ l,∃ y,DataW.trod enc P w 0 (fun _=>true) true n' f.type ((cs.drop f.offset).take (P.cellsOf f.type)) = some y) → tiles tab (l.map fun f=>(f.offset,f.type)) off sz = true → ((l.map fun f=>(f.offset,f.type)).all fun p=>okSh tab m p.2) = true →
    ∃ row,ShapeL (ShapeD tab m) (l.map fun f=>(f.offset,f.type)) row ∧ RepRow w row (cs.drop off):=by
    intro l
    induction l with
    | nil=>
     intro off _ h2 _
     have : off = sz:=by simpa [tiles] using h2
     refine ⟨[],rfl,?_⟩
     rw [List.drop_eq_nil_of_le (by omega)]
     exact ⟨rfl,by simp⟩
    | cons f l ihl=>
     intro off h1 h2 h3
     simp only [List.map_cons,tiles,Bool.and_eq_true,beq_iff_eq] at h2
     simp only [List.map_cons,List.all_cons,Bool.and_eq_true] at h3
     obtain ⟨y,hy⟩:=h1 f (by simp)
     obtain ⟨r1,s1,s2⟩:=ih f.type n' _ y h3.1 hy
     obtain ⟨r2,s3,s4⟩:=ihl (off + sizeT tab f.type) (fun g hg=>h1 g (by simp [hg])) h2.2 h3.2
     refine ⟨r1 ++ r2,⟨r1,r2,rfl,s1,s3⟩,?_⟩
     have:=s2.append s4
     rw [h2.1,okSh_size ht h3.1,← List.drop_drop,List.take_append_drop] at this
     exact this
   obtain ⟨row,s1,s2⟩:=key fa.toList 0 (fun f hf'=>by
    obtain ⟨i,hi,e⟩:=List.getElem_of_mem hf'
    have hfi : fa[i]? = some f:=by rw [← e];simp at hi ⊢
    rw [hf i f hfi]
    have hi' : i < xs.length:=by rw [hxl];simpa using hi
    exact ⟨xs[i],by simp [hi']⟩) (by rw [hfl];exact htile) (by rw [hfl];exact hall)
   refine ⟨row,?_,by simpa using s2⟩
   unfold ShapeD;rw [hτ]
   rw [hfl] at s1
   exact s1
end
open Go.ChangeShapes Go.WideShapes Go.ChangeAt Go.RowKit Go.Deep
set_option linter.unusedVariables false
set_option linter.unusedSimpArgs false
def argB (b : Bool) (row : List D) : V:=
 match b with
 | true=>.agg (row.map D.toV)
 | false=>match row with
  | [d]=>d.toV
  | _=>.un
def argV (tab : Tab) (t : TypeId) (row : List D) : V:=
 match tab t with
 | some τ=>argB τ.agg row
 | none=>.un
def AllR {α β : Type} (R : α → β → Prop) : List α → List β → Prop
 | [],[]=>True
 | a :: l,b :: l'=>R a b ∧ AllR R l l'
 | _,_=>False
theorem AllR.nil {α β : Type} {R : α → β → Prop} {r : List β} (h : AllR R [] r) : r = []:=by
 cases r with
 | nil=>rfl
 | cons b l=>exact h.elim
theorem AllR.cons {α β : Type} {R : α → β → Prop} {a : α} {l : List α} {r : List β} (h : AllR R (a :: l) r) : ∃ b l',r = b :: l' ∧ R a b ∧ AllR R l l':=by
 cases r with
 | nil=>exact h.elim
 | cons b l'=>exact ⟨b,l',rfl,h.1,h.2⟩
section
variable {P : Program} {tab : Tab} {H : Type} {enc : TypeId × Value → H} {w : World}
theorem openArg (ht : TabOk P tab) {m : Nat} {t : TypeId} (hok : okSh tab m t = true) {r : Reach} {b0 : Nat} {v : Value} {d : DataW H} {ps : List MemPlace} (hval : Value.okWide P w r b0 t v) (h : DataW.Trod enc P w 0 (fun _=>true) true t v d ps) (ids : Nat → Nat × Nat) :
 ∃ row,ShapeD tab m t row ∧ RepV (fun _=>False) ids w (argV tab t row) v:=by
 obtain ⟨n,hn⟩:=h
 obtain ⟨row,hs,hl,hrep⟩:=openRow ht m t n _ _ hok hn
 refine ⟨row,hs,?_⟩
 obtain ⟨τ,hτ⟩:=okSh_tab hok
 obtain ⟨-,⟨d0,hu,hf⟩,-⟩:=ht t τ hτ
 have hag : ∀ b,τ.agg = b → argV tab t row = argB b row:=by
  intro b hb
  unfold argV;rw [hτ];dsimp only;rw [hb]
 have one : τ.agg = false → (∀ cs,v ≠ .agg cs) → RepV (fun _=>False) ids w (argV tab t row) v:=by
  intro ha hv
  have hc : v.cells.toList = [v]:=by
   cases v with
   | agg cs=>exact absurd rfl (hv cs)
   | _=>rfl
  rw [hc] at hl hrep
  obtain ⟨x,rfl⟩:=List.length_eq_one_iff.1 hl
  rw [hag _ ha]
  exact (hrep 0 x v rfl rfl).toV
 cases m with
 | zero=>cases hok
 | succ m=>
  unfold okSh at hok
  rw [hτ] at hok
  dsimp only at hok
  generalize hk : τ.kind = kind at hok hf
  cases kind <;> try cases hok
  case int k=>
   have ha : τ.agg = false:=by simpa using hok
   rw [ha] at hf
   cases hf
   refine one ha fun cs e=>?_
   subst e
   simp [Value.okWide,hu,Cell.okWide,Cell.ok] at hval
  case bool=>
   have ha : τ.agg = false:=by simpa using hok
   rw [ha] at hf
   cases hf
   refine one ha fun cs e=>?_
   subst e
   simp [Value.okWide,hu,Cell.okWide,Cell.ok] at hval
  case slice e=>
   rw [Bool.and_eq_true] at hok
   have ha : τ.agg = false:=by simpa using hok.1
   rw [ha] at hf
   cases hf
   refine one ha fun cs e=>?_
   subst e
   simp [Value.okWide,hu,Cell.okWide,Cell.ok] at hval
  case struct fs=>
   rw [Bool.and_eq_true] at hok
   have ha : τ.agg = true:=hok.1
   rw [ha] at hf
   cases hf with
   | struct fa _ hfl=>
   rw [hag _ ha]
   obtain ⟨cs,rfl,_,_⟩ : ∃ cs,v = .agg cs ∧ cs.size = P.cellsOf t ∧ Row.okWide P w r b0 t cs:=by
    simpa [Value.okWide,hu] using hval
   refine .agg _ _ (by simpa [Value.cells] using hl.symm) fun i x u hx hui=>?_
   rw [List.getElem?_map,Option.map_eq_some_iff] at hx
   obtain ⟨q,hq,rfl⟩:=hx
   exact (hrep i q u hq (by simpa [Value.cells] using hui)).toV
theorem openAll (ht : TabOk P tab) {m : Nat} {r : Reach} {b0 : Nat} (ids : Nat → Nat × Nat) : ∀ (ts : List TypeId) (vs : List Value) (ds : List (DataW H)) (ps : List MemPlace),DataW.TrodAll enc P w 0 (fun _=>true) true ts vs ds ps →
 (∀ (j : Nat) (t : TypeId) (v : Value),ts[j]? = some t → vs[j]? = some v → Value.okWide P w r b0 t v) → (∀ t ∈ ts,okSh tab m t = true) →
 ∃ rows,AllR (ShapeD tab m) ts rows ∧ vs.length = ts.length ∧ ds.length = ts.length ∧ (List.zipWith (argV tab) ts rows).length = ts.length ∧ ∀ (j : Nat) (x : V) (v : Value),(List.zipWith (argV tab) ts rows)[j]? = some x → vs[j]? = some v → RepV (fun _=>False) ids w x v
 | [],vs,ds,ps,h,_,_=>by
  obtain ⟨rfl,rfl,rfl⟩:=trodAll_nil h
  exact ⟨[],trivial,rfl,rfl,rfl,by simp⟩
 | t :: ts,vs,ds,ps,h,hv,hok=>by
  obtain ⟨v,vs',d,ds',p,q,rfl,rfl,rfl,h1,h2⟩:=trodAll_cons h
  obtain ⟨row,s1,s2⟩:=openArg ht (hok t (by simp)) (hv 0 t v rfl rfl) h1 ids
  obtain ⟨rows,s3,s4,s5,s6,s7⟩:=openAll ht ids ts vs' ds' q h2 (fun j t v a b=>hv (j + 1) t v a b) (fun t h=>hok t (by simp [h]))
  refine ⟨row :: rows,⟨s1,s3⟩,by simp [s4],by simp [s5],by simpa using s6,fun j x v hx hv=>?_⟩
  cases j with
  | zero=>simp at hx hv;subst hx;subst hv;exact s2
  | succ j=>exact s7 j x v (by simpa using hx) (by simpa using hv)
theorem staysAll (hl : laidOutB P = true) {W W' : World} {sp : Nat → Bool} : ∀ (ts : List TypeId) (vs : List Value) (ds : List (DataW H)) (ps : List MemPlace),DataW.TrodAll enc P W 0 (fun _=>true) true ts vs ds ps →
 (∀ t ∈ ts,P.readableRec t = true ∧ t < P.types.size) → (∀ p ∈ ps,W.sameAt W' p) → (∀ p ∈ ps,sp p.block = true) → DataW.TrodAll enc P W' 0 sp true ts vs ds ps
 | [],vs,ds,ps,h,_,_,_=>by
  obtain ⟨rfl,rfl,rfl⟩:=trodAll_nil h
  exact trodAll_mk0
 | t :: ts,vs,ds,ps,h,hr,hs,hp=>by
  obtain ⟨v,vs',d,ds',p,q,rfl,rfl,rfl,h1,h2⟩:=trodAll_cons h
  exact ⟨p,q,Go.WideElems.Trod_stays hl (hr t (by simp)).1 (hr t (by simp)).2 h1 (fun x hx=>hs x (by simp [hx])) (fun x hx=>hp x (by simp [hx])),
   staysAll hl ts vs' ds' q h2 (fun t h=>hr t (by simp [h])) (fun x hx=>hs x (by simp [hx])) (fun x hx=>hp x (by simp [hx])),rfl⟩
theorem rowCalls (ht : TabOk P tab) {f : FuncId} {fn : Func} {s : ChangeSpec} (m : Nat) {ts : List TypeId} (hts : fn.params.toList = ts) (hl : laidOutB P = true) (hr0 : (fn.params.toList.all fun t=>P.readableRec t && (Nat.blt t P.types.size && okSh tab m t)) = true) (hvars : s.vars = [])
 (hsfn : ∀ ds : List (DataW H),ds.length = fn.params.size → s.fn H ds = { results:=[.lit (.bool true)],args:=ds }) {tb : TypeId} (hrt : fn.resultTypes = #[tb]) (hub : P.underlying tb = some .bool)
 (spec : ∀ rows : List (List D),AllR (ShapeD tab m) ts rows → PSpec P f (List.zipWith (argV tab) ts rows) (V.bool true))
 {apart fresh handsOn again : Bool} (W : World) (base : Nat) (args : Array Value) (ds gs : List (DataW H)) (before : List MemPlace)
 (hval : ∀ (j : Nat) t v,fn.params[j]? = some t → args[j]? = some v → Value.okWide P W .any base t v) (hW : DataW.Whole enc P fn.params.toList s.vars apart W args.toList ds gs before) :
 Calls P f args W fun e W'=>∃ v,e = .returned v ∧ s.post enc P fn apart fresh handsOn again W args v W':=by
 subst hts
 have hr : ∀ t ∈ fn.params.toList,(P.readableRec t = true ∧ t < P.types.size) ∧ okSh tab m t = true:=by
  intro t h
  have:=List.all_eq_true.1 hr0 t h
  rw [Bool.and_eq_true,Bool.and_eq_true] at this
  exact ⟨⟨this.1,by simpa using this.2.1⟩,this.2.2⟩
 have hW':=hW
 obtain ⟨p,q,hA,hV,hps,hfz,hnd⟩:=hW
 rw [hvars] at hV
 obtain ⟨rfl,rfl⟩:=trodVars_none hV
 rw [List.append_nil] at hps
 subst hps
 obtain ⟨rows,s1,s2,s3,s4,s5⟩:=openAll (b0:=base) ht (fun _=>(0,0)) fn.params.toList args.toList ds before hA (fun j t v h1 h2=>hval j t v (by simpa using h1) (by simpa using h2)) (fun t h=>(hr t h).2)
 obtain ⟨_,c⟩:=(spec rows s1).2.2 (fun _=>False) (fun _=>(0,0)) W args (fun b h=>h.elim) (by rw [s4,← s2];simp) (fun i x v hx hv=>s5 i x v hx (by simpa using hv))
 refine c.mono ?_
 rintro e W' ⟨v,rfl,hrv,hg⟩
 have hv : v = .bool true:=by cases hrv;rfl
 subst hv
 have hfn:=hsfn (ds ++ []) (by rw [List.append_nil,s3];simp)
 refine ⟨_,rfl,post_of_same (pa:=before) (pv:=[]) hW' (fun b sp hd=>?_) (fun sp hsp=>?_) (fun sp hsp=>?_) (by simp) (hg.grown.frame _) hg.frz (ok_one hrt rfl ?_)⟩
 · rw [hfn,hrt]
   exact trodAll_mk1 ⟨1,by simp [DataW.trod,Value.cells,hub]⟩
 · rw [hfn]
   show DataW.TrodAll enc P W' 0 sp true fn.params.toList args.toList (ds ++ []) before
   rw [List.append_nil]
   refine staysAll hl _ _ _ _ hA (fun t h=>(hr t h).1) (fun x hx=>?_) hsp
   have hb : x.block < W.heap.size:=hW'.lt x hx
   cases x with
   | cell b off=>exact cell_same (hg.same b hb fun h=>h) off
   | map b=>exact hg.same b hb fun h=>h
 · rw [hfn,hvars];rfl
 · simp [Value.okWide,hub,Cell.okWide,Cell.ok]
end
set_option linter.unusedVariables false
set_option linter.unusedSimpArgs false
structure Cmp {α : Type} (c : α → α → Int) : Prop where
 anti : ∀ x y,c x y = - c y x
 trans : ∀ x y z,¬ 0 < c x y → ¬ 0 < c y z → c x z = min (c x y) (c y z)
section
variable {α : Type} {c : α → α → Int}
def le (c : α → α → Int) (x y : α) : Prop:=¬ c y x < 0
theorem Cmp.le_iff (h : Cmp c) {x y : α} : le c x y ↔ c x y ≤ 0:=by
 unfold le
 have:=h.anti x y
 omega
theorem Cmp.le_trans (h : Cmp c) {x y z : α} (a : le c x y) (b : le c y z) : le c x z:=by
 rw [h.le_iff] at *
 have:=h.trans x y z (by omega) (by omega)
 omega
theorem Cmp.lt_le (h : Cmp c) {x y z : α} (a : c x y < 0) (b : le c y z) : c x z < 0:=by
 rw [h.le_iff] at b
 have:=h.trans x y z (by omega) (by omega)
 omega
theorem Cmp.le_lt (h : Cmp c) {x y z : α} (a : le c x y) (b : c y z < 0) : c x z < 0:=by
 rw [h.le_iff] at a
 have:=h.trans x y z (by omega) (by omega)
 omega
theorem Cmp.lt_le' (h : Cmp c) {x y : α} (a : c x y < 0) : le c x y:=by
 rw [h.le_iff];omega
def Srt (c : α → α → Int) (l : List α) : Prop:=l.Pairwise (le c)
def mrg (c : α → α → Int) : List α → List α → List α
 | [],B=>B
 | x :: A,B=>go x (mrg c A) B
 where
 go (x : α) (k : List α → List α) : List α → List α
  | []=>x :: k []
  | y :: B=>if c y x < 0 then y :: go x k B else x :: k (y :: B)
theorem mrg_nil (A : List α) : mrg c A [] = A:=by
 induction A with
 | nil=>rfl
 | cons x A ih=>rw [mrg,mrg.go,ih]
theorem mrg_cons (x y : α) (A B : List α) : mrg c (x :: A) (y :: B) = if c y x < 0 then y :: mrg c (x :: A) B else x :: mrg c A (y :: B):=by
 simp only [mrg,mrg.go]
theorem mrg_split : ∀ (A1 B1 A2 B2 : List α),(∀ y ∈ B1,∀ x ∈ A2,c y x < 0) → (∀ x ∈ A1,∀ y ∈ B2,le c x y) → mrg c (A1 ++ A2) (B1 ++ B2) = mrg c A1 B1 ++ mrg c A2 B2
 | [],[],A2,B2,_,_=>rfl
 | [],y :: B1,[],B2,h,h'=>by simp [mrg]
 | [],y :: B1,x :: A2,B2,h,h'=>by
  have ih:=mrg_split [] B1 (x :: A2) B2 (fun y hy=>h y (by simp [hy])) h'
  simp only [List.nil_append,mrg] at ih ⊢
  rw [List.cons_append,mrg.go,if_pos (h y (by simp) x (by simp)),ih]
  rfl
 | x :: A1,[],A2,[],h,h'=>by simp [mrg_nil]
 | x :: A1,[],A2,y :: B2,h,h'=>by
  have ih:=mrg_split A1 [] A2 (y :: B2) h (fun x hx=>h' x (by simp [hx]))
  have hn : ¬ c y x < 0:=h' x (by simp) y (by simp)
  rw [mrg_nil] at ih ⊢
  rw [List.nil_append] at ih ⊢
  rw [List.cons_append,mrg_cons,if_neg hn,ih]
  rfl
 | x :: A1,y :: B1,A2,B2,h,h'=>by
  rw [List.cons_append,List.cons_append,mrg_cons,mrg_cons]
  split
  · have ih:=mrg_split (x :: A1) B1 A2 B2 (fun y hy=>h y (by simp [hy])) h'
    rw [List.cons_append] at ih
    rw [ih];rfl
  · have ih:=mrg_split A1 (y :: B1) A2 B2 h (fun x hx=>h' x (by simp [hx]))
    rw [List.cons_append] at ih
    rw [ih];rfl
termination_by A1 B1=>A1.length + B1.length
theorem mrg_mem : ∀ (A B : List α) (z : α),z ∈ mrg c A B ↔ z ∈ A ∨ z ∈ B
 | [],B,z=>by simp [mrg]
 | x :: A,[],z=>by simp [mrg_nil]
 | x :: A,y :: B,z=>by
  rw [mrg_cons]
  split
  · rw [List.mem_cons,mrg_mem (x :: A) B z];simp only [List.mem_cons,or_assoc];constructor <;> (rintro (h | h | h | h) <;> simp [h])
  · rw [List.mem_cons,mrg_mem A (y :: B) z];simp only [List.mem_cons,or_assoc]
termination_by A B=>A.length + B.length
theorem mrg_len : ∀ (A B : List α),(mrg c A B).length = A.length + B.length
 | [],B=>by simp [mrg]
 | x :: A,[]=>by simp [mrg_nil]
 | x :: A,y :: B=>by
  rw [mrg_cons]
  split
  · rw [List.length_cons,mrg_len (x :: A) B];simp;omega
  · rw [List.length_cons,mrg_len A (y :: B)];simp;omega
termination_by A B=>A.length + B.length
theorem mrg_srt (hc : Cmp c) : ∀ (A B : List α),Srt c A → Srt c B → Srt c (mrg c A B)
 | [],B,_,hB=>by simpa [mrg] using hB
 | x :: A,[],hA,_=>by rw [mrg_nil];exact hA
 | x :: A,y :: B,hA,hB=>by
  have a:=List.pairwise_cons.1 hA
  have b:=List.pairwise_cons.1 hB
  rw [mrg_cons]
  split
  · next h=>
    refine List.pairwise_cons.2 ⟨fun z hz=>?_,mrg_srt hc (x :: A) B hA b.2⟩
    rcases (mrg_mem _ _ _).1 hz with hz | hz
    · have hyx:=hc.lt_le' h
      rcases List.mem_cons.1 hz with rfl | hz
      · exact hyx
      · exact hc.le_trans hyx (a.1 z hz)
    · exact b.1 z hz
  · next h=>
    refine List.pairwise_cons.2 ⟨fun z hz=>?_,mrg_srt hc A (y :: B) a.2 hB⟩
    rcases (mrg_mem _ _ _).1 hz with hz | hz
    · exact a.1 z hz
    · have hxy : le c x y:=h
      rcases List.mem_cons.1 hz with rfl | hz
      · exact hxy
      · exact hc.le_trans hxy (b.1 z hz)
termination_by A B=>A.length + B.length
def ties (c : α → α → Int) (z : α) (l : List α) : List α:=l.filter fun x=>decide (c x z = 0)
theorem mrg_ties (hc : Cmp c) (z : α) : ∀ (A B : List α),Srt c A → Srt c B → ties c z (mrg c A B) = ties c z A ++ ties c z B
 | [],B,_,_=>by simp [mrg,ties]
 | x :: A,[],_,_=>by simp [mrg_nil,ties]
 | x :: A,y :: B,hA,hB=>by
  have a:=List.pairwise_cons.1 hA
  have b:=List.pairwise_cons.1 hB
  rw [mrg_cons]
  split
  · next h=>
    have ih:=mrg_ties hc z (x :: A) B hA b.2
    have e : ties c z (y :: mrg c (x :: A) B) = ties c z [y] ++ ties c z (mrg c (x :: A) B):=by simp only [ties,← List.filter_append];rfl
    have e2 : ties c z (y :: B) = ties c z [y] ++ ties c z B:=by simp only [ties,← List.filter_append];rfl
    rw [e,ih,e2]
    by_cases hy : c y z = 0
    · have hn : ties c z (x :: A) = []:=by
       unfold ties
       rw [List.filter_eq_nil_iff]
       intro w hw hz
       have hz : c w z = 0:=by simpa using hz
       have hyw : c y w < 0:=by
        rcases List.mem_cons.1 hw with rfl | hw
        · exact h
        · exact hc.lt_le h (a.1 w hw)
       have hzw:=hc.anti w z
       have:=hc.trans y w z (by omega) (by omega)
       omega
      rw [hn];simp
    · have hn : ties c z [y] = []:=by simp [ties,hy]
      rw [hn];simp
  · next h=>
    have ih:=mrg_ties hc z A (y :: B) a.2 hB
    have e : ties c z (x :: mrg c A (y :: B)) = ties c z [x] ++ ties c z (mrg c A (y :: B)):=by simp only [ties,← List.filter_append];rfl
    have e2 : ties c z (x :: A) = ties c z [x] ++ ties c z A:=by simp only [ties,← List.filter_append];rfl
    rw [e,ih,e2,List.append_assoc]
termination_by A B=>A.length + B.length
theorem srt_unique (hc : Cmp c) (refl : ∀ x,c x x = 0) : ∀ (L M : List α),Srt c L → Srt c M → (∀ z,ties c z L = ties c z M) → L = M
 | [],[],_,_,_=>rfl
 | [],y :: M,_,_,h=>by have:=h y;simp [ties,refl] at this
 | x :: L,[],_,_,h=>by have:=h x;simp [ties,refl] at this
 | x :: L,y :: M,hL,hM,h=>by
  have a:=List.pairwise_cons.1 hL
  have b:=List.pairwise_cons.1 hM
  have mem : ∀ {w : α} {l l' : List α},ties c w l = ties c w l' → w ∈ l → w ∈ l':=by
   intro w l l' e hw
   have : w ∈ ties c w l:=List.mem_filter.2 ⟨hw,by simp [refl]⟩
   rw [e] at this
   exact (List.mem_filter.1 this).1
  have hyx : le c y x:=by
   rcases List.mem_cons.1 (mem (h x) (by simp)) with e | hx
   · rw [e];unfold le;rw [refl];omega
   · exact b.1 x hx
  have hxy : le c x y:=by
   rcases List.mem_cons.1 (mem (h y).symm (by simp)) with e | hy
   · rw [e];unfold le;rw [refl];omega
   · exact a.1 y hy
  rw [hc.le_iff] at hyx hxy
  have e0 : c x y = 0:=by have:=hc.anti x y;omega
  have e1 : c y x = 0:=by have:=hc.anti x y;omega
  have hxy : x = y:=by
   have:=h y
   simp only [ties,List.filter_cons,e0,refl,decide_true,if_true] at this
   exact (List.cons.inj this).1
  subst hxy
  rw [srt_unique hc refl L M a.2 b.2 fun z=>?_]
  have:=h z
  simp only [ties,List.filter_cons] at this
  split at this
  · exact (List.cons.inj this).2
  · exact this
theorem ties_append (z : α) (l m : List α) : ties c z (l ++ m) = ties c z l ++ ties c z m:=by simp [ties]
theorem srt_one (x : α) : Srt c [x]:=List.pairwise_singleton _ _
def ssort (c : α → α → Int) (R : List α) : List α:=R.foldl (fun A x=>mrg c A [x]) []
theorem foldl_sort (hc : Cmp c) : ∀ (R A : List α),Srt c A → Srt c (R.foldl (fun A x=>mrg c A [x]) A) ∧ (∀ z,ties c z (R.foldl (fun A x=>mrg c A [x]) A) = ties c z A ++ ties c z R) ∧ (R.foldl (fun A x=>mrg c A [x]) A).length = A.length + R.length
 | [],A,hA=>⟨hA,fun z=>by simp [ties],by simp⟩
 | x :: R,A,hA=>by
  obtain ⟨h1,h2,h3⟩:=foldl_sort hc R (mrg c A [x]) (mrg_srt hc A [x] hA (srt_one x))
  refine ⟨h1,fun z=>?_,?_⟩
  · rw [List.foldl_cons,h2,mrg_ties hc z A [x] hA (srt_one x),show x :: R = [x] ++ R from rfl,ties_append,List.append_assoc]
  · rw [List.foldl_cons,h3,mrg_len];simp;omega
theorem ssort_srt (hc : Cmp c) (R : List α) : Srt c (ssort c R):=(foldl_sort hc R [] List.Pairwise.nil).1
theorem ssort_ties (hc : Cmp c) (R : List α) (z : α) : ties c z (ssort c R) = ties c z R:=((foldl_sort hc R [] List.Pairwise.nil).2.1 z).trans (by simp [ties])
theorem ssort_len (hc : Cmp c) (R : List α) : (ssort c R).length = R.length:=((foldl_sort hc R [] List.Pairwise.nil).2.2).trans (by simp)
theorem ties_mem (refl : ∀ x,c x x = 0) {l m : List α} (h : ∀ z,ties c z l = ties c z m) {x : α} (hx : x ∈ l) : x ∈ m:=by
 have : x ∈ ties c x l:=List.mem_filter.2 ⟨hx,by simp [refl]⟩
 rw [h x] at this
 exact (List.mem_filter.1 this).1
theorem ssort_unique (hc : Cmp c) (refl : ∀ x,c x x = 0) {D R : List α} (h : Srt c D) (ht : ∀ z,ties c z D = ties c z R) : D = ssort c R:=
 srt_unique hc refl D (ssort c R) h (ssort_srt hc R) fun z=>(ht z).trans (ssort_ties hc R z).symm
theorem ssort_snoc (A : List α) (x : α) : ssort c (A ++ [x]) = mrg c (ssort c A) [x]:=by simp [ssort]
theorem perm_of_ties [DecidableEq α] (refl : ∀ x,c x x = 0) {l m : List α} (h : ∀ z,ties c z l = ties c z m) : l.Perm m:=by
 rw [List.perm_iff_count]
 intro a
 have e : ∀ l : List α,l.count a = (ties c a l).count a:=by
  intro l
  unfold ties
  rw [List.count_filter (by simp [refl])]
 rw [e l,e m,h a]
end
end Go.Proofs.YtdjnjchpgccbiaaGreat.Abs
