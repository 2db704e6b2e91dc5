/- The abstract machine, part 21: other names; loops by the states that their rounds begin in. -/
import Derived.Test.YtdjnjchpgccbiaaGreatC5
import Derived.Laws.Externs
import Derived.Laws.StructEq
import Derived.WalkKit
import Derived.ProofKit
import Derived.OpenShut
import Derived.WideKeyArgs
import Derived.Deep.Slices
namespace Go.Proofs.YtdjnjchpgccbiaaGreat.Abs
set_option linter.unusedVariables false
set_option linter.unusedSimpArgs false
mutual
def ZZ (ρ : Nat → Nat) : V → V
 | .un=>.un
 | .c v=>.c v
 | .lst sz rows cl=>.lst sz rows cl
 | .q row j=>.q row j
 | .sl n sz off len=>.sl (ρ n) sz off len
 | .ac n sz len=>.ac (ρ n) sz len
 | .sx n sz off len cap=>.sx (ρ n) sz off len cap
 | .p n sz i j=>.p (ρ n) sz i j
 | .mp n=>.mp (ρ n)
 | .agg xs=>.agg (ZbM ρ xs)
 | .tup xs=>.tup (ZbM ρ xs)
 | .fn f a b=>.fn f (ZbM ρ a) (ZbM ρ b)
 | .ifc t x=>.ifc t (ZZ ρ x)
def ZbM (ρ : Nat → Nat) : List V → List V
 | []=>[]
 | x :: xs=>ZZ ρ x :: ZbM ρ xs
end
theorem Zx (ρ : Nat → Nat) : ∀ xs,ZbM ρ xs = xs.map (ZZ ρ)
 | []=>rfl
 | x :: xs=>by rw [ZbM,Zx ρ xs,List.map_cons]
theorem Zjp (ρ : Nat → Nat) (d : D) : ZZ ρ d.toV = d.toV:=by cases d <;> rfl
def ZC (ρ : Nat → Nat) : B → B
 | .rows sz r=>.rows sz (r.map (ZbM ρ))
 | .dat sz r=>.dat sz r
 | .map es=>.map (es.map fun e=>(e.1,ZZ ρ e.2))
theorem Yv (ρ : Nat → Nat) (b : B) : (ZC ρ b).real = b.real:=by
 cases b with
 | dat sz r=>rfl
 | _=>rfl
section
variable {A A' : Nat → Prop} {w : World}
mutual
theorem ZcH {ids : Nat → Nat × Nat} {ρ : Nat → Nat} (hA : ∀ b,A' b → A b) : ∀ (x : V) (v : Value),RepV A ids w (ZZ ρ x) v → RepV A' (fun n=>ids (ρ n)) w x v
 | .un,v,_=>.un v
 | .c u,v,h=>by rw [ZZ] at h;cases h;exact .c _
 | .lst sz rows cl,v,h=>by
  rw [ZZ] at h
  cases h with | lst _ _ _ _ hd hcl=>exact .lst _ _ _ _ (hd.mono (Goes.refl A w) fun b _ x=>hA b x) hcl
 | .q row j,v,h=>by
  rw [ZZ] at h
  cases h with | q _ _ b o cell hb hn hc hd=>exact .q row j b o cell hb (fun x=>hn (hA b x)) hc fun k d hk=>(hd k d hk).mono (Goes.refl A w) fun b _ x=>hA b x
 | .sl n sz off len,v,h=>by
  rw [ZZ] at h
  cases h with | sl _ _ _ _ cap ad hl hc=>exact .sl _ _ _ _ cap ad hl hc
 | .ac n sz len,v,h=>by
  rw [ZZ] at h
  cases h with
  | ac0=>exact .ac0 ..
  | ac1 _ _ _ _ h0 h=>cases h with | sl _ _ _ _ cap ad hl hc=>exact .ac1 _ _ _ _ h0 (.sl _ _ _ _ cap ad hl hc)
 | .sx n sz off len cap,v,h=>by
  rw [ZZ] at h
  cases h with | sx _ _ _ _ _ ad hl hc=>exact .sx _ _ _ _ _ ad hl hc
 | .p n sz i j,v,h=>by
  rw [ZZ] at h
  cases h;exact RepV.p (ids:=fun n=>ids (ρ n)) ..
 | .mp n,v,h=>by
  rw [ZZ] at h
  cases h;exact RepV.mp (ids:=fun n=>ids (ρ n)) ..
 | .agg xs,v,h=>by
  rw [ZZ] at h
  cases h with | agg _ arr hs hx=>exact .agg xs arr (by rw [hs,Zx,List.length_map]) fun i x v hi hv=>Zb0 hA xs i x v hi (hx i (ZZ ρ x) v (by rw [Zx,List.getElem?_map,hi];rfl) hv)
 | .tup xs,v,h=>by
  rw [ZZ] at h
  cases h with | tup _ arr hs hx=>exact .tup xs arr (by rw [hs,Zx,List.length_map]) fun i x v hi hv=>Zb0 hA xs i x v hi (hx i (ZZ ρ x) v (by rw [Zx,List.getElem?_map,hi];rfl) hv)
 | .fn f xs ys,v,h=>by
  rw [ZZ] at h
  cases h with
  | fn _ _ _ ar br h1 h2 h3 h4=>
   exact .fn f xs ys ar br (by rw [h1,Zx,List.length_map]) (by rw [h2,Zx,List.length_map])
    (fun i x v hi hv=>Zb0 hA xs i x v hi (h3 i (ZZ ρ x) v (by rw [Zx,List.getElem?_map,hi];rfl) hv))
    (fun i x v hi hv=>Zb0 hA ys i x v hi (h4 i (ZZ ρ x) v (by rw [Zx,List.getElem?_map,hi];rfl) hv))
 | .ifc t x,v,h=>by
  rw [ZZ] at h
  cases h with | ifc _ _ u hu=>exact .ifc t x u (ZcH hA x u hu)
theorem Zb0 {ids : Nat → Nat × Nat} {ρ : Nat → Nat} (hA : ∀ b,A' b → A b) : ∀ (xs : List V) (i : Nat) (x : V) (v : Value),xs[i]? = some x → RepV A ids w (ZZ ρ x) v → RepV A' (fun n=>ids (ρ n)) w x v
 | [],i,x,v,h,_=>by simp at h
 | y :: ys,0,x,v,h,hr=>by simp at h;subst h;exact ZcH hA y v hr
 | y :: ys,i + 1,x,v,h,hr=>Zb0 hA ys i x v (by simpa using h) hr
end
theorem Zn9 {ids : Nat → Nat × Nat} {ρ : Nat → Nat} (hA : ∀ b,A' b → A b) {p : Nat × Nat} {b : B} (h : RepB A ids w p (ZC ρ b)) : RepB A' (fun n=>ids (ρ n)) w p b:=by
 cases b with
 | dat sz r=>
  refine ⟨fun hr=>?_,h.2⟩
  obtain ⟨arr,T,h1,h2,h3,h4⟩:=h.1 hr
  refine ⟨arr,T,h1,h2,h3,fun i row j x hr hx=>?_⟩
  obtain ⟨v,hv,hrep⟩:=h4 i row j x hr hx
  refine ⟨v,hv,ZcH hA x v ?_⟩
  rw [Y7,Option.map_eq_some_iff] at hr
  obtain ⟨rd,_,rfl⟩:=hr
  rw [List.getElem?_map,Option.map_eq_some_iff] at hx
  obtain ⟨d,_,rfl⟩:=hx
  rw [Zjp];exact hrep
 | rows sz r=>
  obtain ⟨arr,T,h1,h2,h3,h4⟩:=h
  refine ⟨arr,T,h1,by simpa using h2,fun row hr=>?_,fun i row j x hr hx=>?_⟩
  · have:=h3 (ZbM ρ row) (List.mem_map_of_mem hr)
    rw [Zx,List.length_map] at this;exact this
  · obtain ⟨v,hv,hrep⟩:=h4 i (ZbM ρ row) j (ZZ ρ x) (by rw [List.getElem?_map,hr];rfl) (by rw [Zx,List.getElem?_map,hx];rfl)
    exact ⟨v,hv,ZcH hA x v hrep⟩
 | map es=>
  obtain ⟨ar,k,h1,h2,h3⟩:=h
  refine ⟨ar,k,h1,by simpa using h2,fun i e m he hm=>?_⟩
  obtain ⟨e1,e2⟩:=h3 i (e.1,ZZ ρ e.2) m (by rw [List.getElem?_map,he];rfl) hm
  exact ⟨e1,ZcH hA _ _ e2⟩
theorem ZfW {ids ids2 : Nat → Nat × Nat} {σ : Nat → Nat} {M : Nm} (hA : ∀ b,b < w.heap.size → A' b → A b) (hi : ∀ k,M k → ids2 (σ k) = ids k) {x : V} {v : Value} (h : RepV A ids w x v) (hb : x.Below M) : RepV A' ids2 w (ZZ σ x) v:=by
 have hg:=Goes.refl A w
 induction h with
 | un v=>rw [ZZ];exact .un v
 | c v=>rw [ZZ];exact .c v
 | lst sz rows clip v h hcl=>rw [ZZ];exact .lst _ _ _ _ (h.mono hg hA) hcl
 | sl n sz off len cap ad hl hc=>
  cases hb with
  | sl _ _ _ _ hn=>rw [ZZ];exact .sl _ _ _ _ cap ad hl (by rw [hi n hn];exact hc)
 | sx n sz off len cap ad hl hc=>
  cases hb with
  | sx _ _ _ _ _ hn=>rw [ZZ];exact .sx _ _ _ _ _ ad hl (by rw [hi n hn];exact hc)
 | ac0 n sz ad=>rw [ZZ];exact .ac0 ..
 | ac1 n sz len v h0 h ih=>
  cases hb with
  | ac _ _ _ hn=>
   have:=ih (.sl _ _ _ _ hn)
   rw [ZZ] at this
   rw [ZZ]
   exact .ac1 _ _ _ _ h0 this
 | p n sz i j=>
  cases hb with
  | p _ _ _ _ hn=>rw [ZZ,← hi n hn];exact .p ..
 | q row j b o cell hb' hn hc hd=>rw [ZZ];exact .q row j b o cell hb' (fun x=>hn (hA b hb' x)) hc fun k d hk=>(hd k d hk).mono hg hA
 | agg xs arr hs h ih=>
  cases hb with
  | agg _ hx=>
   rw [ZZ,Zx]
   refine .agg _ _ (by rw [hs,List.length_map]) fun i x v h1 h2=>?_
   rw [List.getElem?_map,Option.map_eq_some_iff] at h1
   obtain ⟨y,hy,rfl⟩:=h1
   exact ih i y v hy h2 (hx y (List.mem_of_getElem? hy))
 | tup xs arr hs h ih=>
  cases hb with
  | tup _ hx=>
   rw [ZZ,Zx]
   refine .tup _ _ (by rw [hs,List.length_map]) fun i x v h1 h2=>?_
   rw [List.getElem?_map,Option.map_eq_some_iff] at h1
   obtain ⟨y,hy,rfl⟩:=h1
   exact ih i y v hy h2 (hx y (List.mem_of_getElem? hy))
 | fn f xs ys ar br hs hs' h h' ih ih'=>
  cases hb with
  | fn _ _ _ hx hx'=>
   rw [ZZ,Zx,Zx]
   refine .fn f _ _ ar br (by rw [hs,List.length_map]) (by rw [hs',List.length_map]) (fun i x v h1 h2=>?_) (fun i x v h1 h2=>?_)
   · rw [List.getElem?_map,Option.map_eq_some_iff] at h1
     obtain ⟨y,hy,rfl⟩:=h1
     exact ih i y v hy h2 (hx y (List.mem_of_getElem? hy))
   · rw [List.getElem?_map,Option.map_eq_some_iff] at h1
     obtain ⟨y,hy,rfl⟩:=h1
     exact ih' i y v hy h2 (hx' y (List.mem_of_getElem? hy))
 | ifc t x v h ih=>
  cases hb with
  | ifc _ _ hx=>rw [ZZ];exact .ifc _ _ _ (ih hx)
 | mp n=>
  cases hb with
  | mp _ hn=>rw [ZZ,← hi n hn];exact .mp ..
theorem ZoO {ids ids2 : Nat → Nat × Nat} {σ : Nat → Nat} {M : Nm} (hA : ∀ b,b < w.heap.size → A' b → A b) (hi : ∀ k,M k → ids2 (σ k) = ids k) {p : Nat × Nat} {b : B} (h : RepB A ids w p b) (hb : b.Below M) : RepB A' ids2 w p (ZC σ b):=by
 cases b with
 | dat sz r=>
  refine ⟨fun hr=>?_,h.2⟩
  obtain ⟨arr,T,h1,h2,h3,h4⟩:=h.1 hr
  refine ⟨arr,T,h1,h2,h3,fun i row j x hr hx=>?_⟩
  obtain ⟨v,hv,hrep⟩:=h4 i row j x hr hx
  have:=ZfW hA hi hrep (ZJ M r row (List.mem_of_getElem? hr) x (List.mem_of_getElem? hx))
  rw [Y7,Option.map_eq_some_iff] at hr
  obtain ⟨rd,_,rfl⟩:=hr
  rw [List.getElem?_map,Option.map_eq_some_iff] at hx
  obtain ⟨d,_,rfl⟩:=hx
  rw [Zjp] at this
  exact ⟨v,hv,this⟩
 | rows sz r=>
  obtain ⟨arr,T,h1,h2,h3,h4⟩:=h
  refine ⟨arr,T,h1,by simpa using h2,fun row hr=>?_,fun i row j x hr hx=>?_⟩
  · obtain ⟨row',hr',rfl⟩:=List.mem_map.1 hr
    rw [Zx,List.length_map];exact h3 row' hr'
  · rw [List.getElem?_map,Option.map_eq_some_iff] at hr
    obtain ⟨row',hr',rfl⟩:=hr
    rw [Zx,List.getElem?_map,Option.map_eq_some_iff] at hx
    obtain ⟨y,hy,rfl⟩:=hx
    obtain ⟨v,hv,hrep⟩:=h4 i row' j y hr' hy
    exact ⟨v,hv,ZfW hA hi hrep (hb row' (List.mem_of_getElem? hr') y (List.mem_of_getElem? hy))⟩
 | map es=>
  obtain ⟨ar,k,h1,h2,h3⟩:=h
  refine ⟨ar,k,h1,by simpa using h2,fun i e m he hm=>?_⟩
  rw [List.getElem?_map,Option.map_eq_some_iff] at he
  obtain ⟨e',he',rfl⟩:=he
  obtain ⟨e1,e2⟩:=h3 i e' m he' hm
  exact ⟨e1,ZfW hA hi e2 (hb e' (List.mem_of_getElem? he'))⟩
end
def Wk (h : Hp) (X : Nat → Prop) (ρ : Nat → Nat) (v u : V) : Prop:=
 ∀ (F A' : Nat → Prop) (ids : Nat → Nat × Nat) (w : World) (M : Nm),RepH F ids w h M → (∀ b,A' b → Ze F h ids b) → (∀ n x,h n = some x → x.real = true → ¬ X n → ¬ A' (ids n).1) →
  ∀ x,RepV (Ze F h ids) ids w u x → RepV A' (fun n=>ids (ρ n)) w v x
def WkB (h : Hp) (X : Nat → Prop) (ρ : Nat → Nat) (b b' : B) : Prop:=
 b'.real = b.real ∧ ∀ (F A' : Nat → Prop) (ids : Nat → Nat × Nat) (w : World) (M : Nm),RepH F ids w h M → (∀ b,A' b → Ze F h ids b) → (∀ n x,h n = some x → x.real = true → ¬ X n → ¬ A' (ids n).1) →
  ∀ p,RepB (Ze F h ids) ids w p b' → RepB A' (fun n=>ids (ρ n)) w p b
theorem Wk.ren {h : Hp} {X : Nat → Prop} (ρ : Nat → Nat) (v : V) : Wk h X ρ v (ZZ ρ v):=fun F A' ids w M _ hA _ x hx=>ZcH hA v x hx
theorem Wk.un {h : Hp} {X : Nat → Prop} {ρ : Nat → Nat} {u : V} : Wk h X ρ .un u:=fun F A' ids w M _ _ _ x _=>.un x
theorem Wk.agg {h : Hp} {X : Nat → Prop} {ρ : Nat → Nat} {xs us : List V} (hl : xs.length = us.length) (hx : ∀ (i : Nat) (v u : V),xs[i]? = some v → us[i]? = some u → Wk h X ρ v u) : Wk h X ρ (.agg xs) (.agg us):=by
 intro F A' ids w M hh hA hX x hr
 cases hr with
 | agg _ arr hs hr=>
  refine .agg _ _ (by rw [hs,hl]) fun i v y hv hy=>?_
  have hi : i < us.length:=by rw [← hl];exact (List.getElem?_eq_some_iff.1 hv).1
  exact hx i v us[i] hv (by simp [hi]) F A' ids w M hh hA hX y (hr i us[i] y (by simp [hi]) hy)
theorem Wk.tup {h : Hp} {X : Nat → Prop} {ρ : Nat → Nat} {xs us : List V} (hl : xs.length = us.length) (hx : ∀ (i : Nat) (v u : V),xs[i]? = some v → us[i]? = some u → Wk h X ρ v u) : Wk h X ρ (.tup xs) (.tup us):=by
 intro F A' ids w M hh hA hX x hr
 cases hr with
 | tup _ arr hs hr=>
  refine .tup _ _ (by rw [hs,hl]) fun i v y hv hy=>?_
  have hi : i < us.length:=by rw [← hl];exact (List.getElem?_eq_some_iff.1 hv).1
  exact hx i v us[i] hv (by simp [hi]) F A' ids w M hh hA hX y (hr i us[i] y (by simp [hi]) hy)
theorem Wk.fn {h : Hp} {X : Nat → Prop} {ρ : Nat → Nat} {f : Fn} {xs us ys ws : List V} (hl : xs.length = us.length) (hl' : ys.length = ws.length) (hx : ∀ (i : Nat) (v u : V),xs[i]? = some v → us[i]? = some u → Wk h X ρ v u)
 (hy : ∀ (i : Nat) (v u : V),ys[i]? = some v → ws[i]? = some u → Wk h X ρ v u) : Wk h X ρ (.fn f xs ys) (.fn f us ws):=by
 intro F A' ids w M hh hA hX x hr
 cases hr with
 | fn _ _ _ ar br hs hs' hr hr'=>
  refine .fn _ _ _ _ _ (by rw [hs,hl]) (by rw [hs',hl']) (fun i v y hv hy'=>?_) fun i v y hv hy'=>?_
  · have hi : i < us.length:=by rw [← hl];exact (List.getElem?_eq_some_iff.1 hv).1
    exact hx i v us[i] hv (by simp [hi]) F A' ids w M hh hA hX y (hr i us[i] y (by simp [hi]) hy')
  · have hi : i < ws.length:=by rw [← hl'];exact (List.getElem?_eq_some_iff.1 hv).1
    exact hy i v ws[i] hv (by simp [hi]) F A' ids w M hh hA hX y (hr' i ws[i] y (by simp [hi]) hy')
theorem Wk.ifc {h : Hp} {X : Nat → Prop} {ρ : Nat → Nat} {t : TypeId} {v u : V} (hv : Wk h X ρ v u) : Wk h X ρ (.ifc t v) (.ifc t u):=by
 intro F A' ids w M hh hA hX x hr
 cases hr with
 | ifc _ _ y hr=>exact .ifc _ _ _ (hv F A' ids w M hh hA hX y hr)
structure Ren (ρ : Nat → Nat) (h h' : Hp) (M' : Nm) : Prop where
 hp : ∀ n b,h' n = some b → (∃ b',h (ρ n) = some b' ∧ WkB h (fun n=>∃ m c,h' m = some c ∧ ρ m = n) ρ b b') ∨ b.real = false
 inj : ∀ n m b c,h' n = some b → h' m = some c → b.real = true → c.real = true → ρ n = ρ m → n = m
 lt : ∀ n b,h' n = some b → M' n ∧ b.Below M'
theorem Ren.real {ρ : Nat → Nat} {h h' : Hp} {M' : Nm} (r : Ren ρ h h' M') {n : Nat} {b : B} (hn : h' n = some b) (hr : b.real = true) : ∃ b',h (ρ n) = some b' ∧ b'.real = true ∧ WkB h (fun n=>∃ m c,h' m = some c ∧ ρ m = n) ρ b b':=by
 obtain ⟨b',h1,h2⟩:=(r.hp n b hn).resolve_right (by simp [hr])
 exact ⟨b',h1,by rw [h2.1];exact hr,h2⟩
theorem Ren.avoid {ρ : Nat → Nat} {h h' : Hp} {M' : Nm} (r : Ren ρ h h' M') {F : Nat → Prop} {ids : Nat → Nat × Nat} (b : Nat) (x : Ze F h' (fun n=>ids (ρ n)) b) : Ze F h ids b:=by
 rcases x with x | ⟨n,c,hn,hr,hb⟩
 · exact .inl x
 · obtain ⟨b',h1,h2,_⟩:=r.real hn hr
   exact .inr ⟨ρ n,_,h1,h2,hb⟩
theorem Ren.gone {ρ : Nat → Nat} {h h' : Hp} {M M' : Nm} (r : Ren ρ h h' M') {F : Nat → Prop} {ids : Nat → Nat × Nat} {w : World} (hh : RepH F ids w h M) (n : Nat) (x : B) (hn : h n = some x) (hx : x.real = true) (hX : ¬ ∃ m c,h' m = some c ∧ ρ m = n) :
 ¬ Ze F h' (fun n=>ids (ρ n)) (ids n).1:=by
 rintro (hF | ⟨m,c,hm,hc,hb⟩)
 · exact hh.out n x hn hx hF
 · obtain ⟨b',h1,h2,_⟩:=r.real hm hc
   exact hX ⟨m,c,hm,hh.inj _ _ _ _ h1 hn h2 hx hb⟩
theorem Ren.heap {ρ : Nat → Nat} {h h' : Hp} {M M' : Nm} (r : Ren ρ h h' M') {F : Nat → Prop} {ids : Nat → Nat × Nat} {w : World} (hh : RepH F ids w h M) : RepH F (fun n=>ids (ρ n)) w h' M':=
 ⟨fun n b hn=>(r.lt n b hn).1,fun n b hn=>(by
  rcases r.hp n b hn with ⟨b',h1,h2⟩ | h1
  · exact h2.2 F _ ids w M hh (fun b x=>r.avoid b x) (fun n x hn hx hX=>r.gone hh n x hn hx hX) _ (hh.blk (ρ n) _ h1)
  · cases b with
    | dat sz rw=>cases rw with
     | nil=>exact ⟨fun h=>absurd rfl h,by simp [leaves]⟩
     | cons _ _=>cases h1
    | _=>cases h1),fun n b hn=>(r.lt n b hn).2,
  fun n m b c hn hm hb hc e=>by
   obtain ⟨b1,g1,g2,_⟩:=r.real hn hb
   obtain ⟨b2,g3,g4,_⟩:=r.real hm hc
   exact r.inj n m b c hn hm hb hc (hh.inj _ _ _ _ g1 g3 g2 g4 e),fun n b hn hb=>by
   obtain ⟨b1,g1,g2,_⟩:=r.real hn hb
   exact hh.out _ _ g1 g2,hh.fsz⟩
def Yi : List (Nat × Nat) → Nat → Nat
 | [],n=>n
 | p :: l,n=>match Nat.beq n p.1 with
  | true=>p.2
  | false=>Yi l n
def ZdN (b : Nat) (l : List Nat) : Bool:=l.all fun n=>Nat.blt n b
def clK (cl cl' : Bool) (K : Prop) : Prop:=
 match cl with
 | false=>K
 | true=>match cl' with
  | true=>K
  | false=>False
def Zus (fr : Nat → Bool) (h : List (Nat × B)) (sz : Nat) (rows : List (List D)) (cl : Bool) (u : V) (K : Prop) : Prop:=
 match u with
 | .lst sz' rows' cl'=>okK (Nat.beq sz' sz) (CB (rows' = rows) (clK cl cl' K))
 | .c (.slice none 0 0)=>CB (rows = []) K
 | .ac n sz' len=>okK (fr n) (okK (Nat.beq sz' sz) (clK cl false (match hAt h n with
  | some (.dat s r)=>okK (Nat.beq s sz) (CB (len = r.length ∧ r = rows) K)
  | _=>False)))
 | .sl n sz' off len=>okK (fr n) (okK (Nat.beq sz' sz) (clK cl false (match hAt h n with
  | some (.dat s r)=>okK (Nat.beq s sz) (CB (off + len ≤ r.length ∧ rows = (r.drop off).take len) K)
  | _=>False)))
 | _=>False
def Zom (ρ : Nat → Nat) (fr : Nat → Bool) (h : List (Nat × B)) (b : Nat) (v u : V) (K : Prop) : Prop:=
 match v with
 | .un=>K
 | .ac n sz len=>match u with
  | .c (.slice none 0 0)=>okK (Nat.blt n b) (CB (len = 0) K)
  | .ac n' sz' len'=>okK (Nat.blt n b) (okK (Nat.beq n' (ρ n)) (okK (Nat.beq sz' sz) (CB (len' = len) K)))
  | .sl n' sz' off' len'=>okK (Nat.blt n b) (okK (Nat.beq n' (ρ n)) (okK (Nat.beq sz' sz) (CB (off' = 0 ∧ len' = len ∧ len ≠ 0) K)))
  | _=>False
 | .sl n sz off len=>match u with
  | .sl n' sz' off' len'=>okK (Nat.blt n b) (okK (Nat.beq n' (ρ n)) (okK (Nat.beq sz' sz) (CB (off' = off ∧ len' = len) K)))
  | .ac n' sz' len'=>okK (Nat.blt n b) (okK (Nat.beq n' (ρ n)) (okK (Nat.beq sz' sz) (CB (off = 0 ∧ len' = len ∧ len ≠ 0) K)))
  | .sx n' sz' off' len' _=>okK (Nat.blt n b) (okK (Nat.beq n' (ρ n)) (okK (Nat.beq sz' sz) (CB (off' = off ∧ len' = len) K)))
  | _=>False
 | .c (.int k n)=>match u with
  | .c (.int k' n')=>ZkR k k' (CB (n' = n) K)
  | _=>False
 | .c (.bool z)=>match u with
  | .c (.bool z')=>CB (z' = z) K
  | _=>False
 | .lst sz rows cl=>Zus fr h sz rows cl u K
 | v=>okK (ZdN b (Zc v)) (CB (u = ZZ ρ v) K)
abbrev ZqR:=List V → Prop → Prop
def ZqW : ZqR:=fun t K=>match t with
 | []=>K
 | _=>False
def ZoC (g : V → V → Prop → Prop) (v : V) (T : List V) (ih : ZqR) : ZqR:=fun t K=>match t with
 | u :: t=>g v u (ih t K)
 | []=>False
noncomputable def ZnD (g : V → V → Prop → Prop) (T : List V) : ZqR:=List.rec (motive:=fun _=>ZqR) ZqW (ZoC g) T
noncomputable def Zt2 (ρ : Nat → Nat) (fr : Nat → Bool) (h : List (Nat × B)) (b : Nat) (v u : V) (K : Prop) : Prop:=
 match v with
 | .agg xs=>match u with
  | .agg us=>ZnD (Zom ρ fr h b) xs us K
  | _=>False
 | v=>Zom ρ fr h b v u K
noncomputable def Zn0 (ρ : Nat → Nat) (fr : Nat → Bool) (h : List (Nat × B)) (b : Nat) (v u : V) (K : Prop) : Prop:=
 match v with
 | .agg xs=>match u with
  | .agg us=>ZnD (Zom ρ fr h b) xs us K
  | _=>False
 | .tup xs=>match u with
  | .tup us=>ZnD (Zt2 ρ fr h b) xs us K
  | _=>False
 | .fn f xs ys=>match u with
  | .fn f' us ws=>CB (f' = f) (ZnD (Zom ρ fr h b) xs us (ZnD (Zom ρ fr h b) ys ws K))
  | _=>False
 | .ifc t x=>match u with
  | .ifc t' y=>okK (Nat.beq t' t) (Zom ρ fr h b x y K)
  | _=>False
 | v=>Zom ρ fr h b v u K
noncomputable def Zs9 (ρ : Nat → Nat) (fr : Nat → Bool) (h : List (Nat × B)) (b : Nat) (T : List V) : ZqR:=ZnD (Zn0 ρ fr h b) T
abbrev Zs6:=List (List V) → Prop → Prop
def Zqo : Zs6:=fun t K=>match t with
 | []=>K
 | _=>False
noncomputable def ZoE (g : List V → List V → Prop → Prop) (v : List V) (T : List (List V)) (ih : Zs6) : Zs6:=fun t K=>match t with
 | u :: t=>g v u (ih t K)
 | []=>False
noncomputable def ZtF (ρ : Nat → Nat) (fr : Nat → Bool) (h : List (Nat × B)) (b : Nat) (T : List (List V)) : Zs6:=List.rec (motive:=fun _=>Zs6) Zqo (ZoE fun v u K=>ZnD (Zn0 ρ fr h b) v u K) T
def ZR : B → List Nat
 | .rows _ r=>r.flatMap Zp
 | .dat _ _=>[]
 | .map es=>es.flatMap fun e=>Zc e.2
def plainM (es : List (Value × V)) : Prop:=∀ e ∈ es,∃ v,e.2 = .c v
theorem plainM.ren {es : List (Value × V)} (h : plainM es) (ρ : Nat → Nat) : ZC ρ (.map es) = .map es:=by
 simp only [ZC]
 congr 1
 conv=>rhs;rw [← List.map_id es]
 refine List.map_congr_left fun e he=>?_
 obtain ⟨v,hv⟩:=h e he
 obtain ⟨a,x⟩:=e
 simp only at hv
 subst hv
 rfl
theorem plainM.below {es : List (Value × V)} (h : plainM es) (m : Nm) : (B.map es).Below m:=fun e he=>by
 obtain ⟨v,hv⟩:=h e he
 rw [hv];exact .c _
def fixM (ρ : Nat → Nat) (b : Nat) (es : List (Value × V)) : Prop:=∀ e ∈ es,ZZ ρ e.2 = e.2 ∧ e.2.Below (Lt b)
theorem fixM.ren {es : List (Value × V)} {ρ : Nat → Nat} {b : Nat} (h : fixM ρ b es) : ZC ρ (.map es) = .map es:=by
 simp only [ZC]
 congr 1
 conv=>rhs;rw [← List.map_id es]
 refine List.map_congr_left fun e he=>?_
 rw [(h e he).1]
 rfl
def Zmn : Prop → Prop:=fun K=>K
noncomputable def ZfP (ρ : Nat → Nat) (fr : Nat → Bool) (b : Nat) (h : List (Nat × B)) (p : Nat × B) (H : List (Nat × B)) (ih : Prop → Prop) : Prop → Prop:=fun K=>
 okK (Nat.blt p.1 b) (match p.2 with
  | .dat sz r=>match hAt h (ρ p.1) with
   | some (.dat sz' r')=>okK (Nat.beq sz' sz) (CB (r' = r) (ih K))
   | _=>CB (r = []) (ih K)
  | .rows sz r=>match hAt h (ρ p.1) with
   | some (.rows sz' r')=>okK (Nat.beq sz' sz) (okK (ZdN b (ZR (.rows sz r))) (ZtF ρ fr h b r r' (ih K)))
   | _=>False
  | .map es=>match hAt h (ρ p.1) with
   | some (.map es')=>CB (es' = es) (CB (plainM es ∨ fixM ρ b es) (ih K))
   | _=>False)
noncomputable def Zny (ρ : Nat → Nat) (fr : Nat → Bool) (b : Nat) (H h : List (Nat × B)) : Prop → Prop:=List.rec (motive:=fun _=>Prop → Prop) Zmn (ZfP ρ fr b h) H
def YJ : List Nat → Bool
 | []=>true
 | x :: xs=>!(xs.contains x) && YJ xs
def ZdM (ρ : Nat → Nat) (H : List (Nat × B)) (n : Nat) : Bool:=!(H.any fun p=>Nat.beq (ρ p.1) n)
noncomputable def Zmq (ρ : List (Nat × Nat)) (N b : Nat) (T : List V) (H : List (Nat × B)) (t : List V) (h : List (Nat × B)) : Prop:=
 okK (ρ.all fun p=>Nat.ble N p.1) (okK (YJ (H.map fun p=>Yi ρ p.1)) (Zs9 (Yi ρ) (ZdM (Yi ρ) H) h b T t (Zny (Yi ρ) (ZdM (Yi ρ) H) b H h True)))
theorem Zep {ρ : List (Nat × Nat)} {N n : Nat} (h : (ρ.all fun p=>Nat.ble N p.1) = true) (hn : n < N) : Yi ρ n = n:=by
 induction ρ with
 | nil=>rfl
 | cons p l ih=>
  simp only [List.all_cons,Bool.and_eq_true] at h
  have h1:=Nat.le_of_ble_eq_true h.1
  simp only [Yi]
  split
  · next e=>have:=Nat.eq_of_beq_eq_true e;omega
  · exact ih h.2
theorem ZhW {b : Nat} {v : V} (h : ZdN b (Zc v) = true) : v.Below (Lt b):=Za5 h
theorem Zm8 {cl cl' : Bool} {K : Prop} (h : clK cl cl' K) : K ∧ (cl = true → cl' = true):=by
 cases cl with
 | false=>exact ⟨h,by simp⟩
 | true=>cases cl' with
  | true=>exact ⟨h,fun _=>rfl⟩
  | false=>cases h
def Weak (fr : Nat → Bool) (h : List (Nat × B)) (ρ : Nat → Nat) (v u : V) : Prop:=∀ h2 : Hp,(∀ n,fr n = true → h2 n = hAt h n) → Wk h2 (fun n=>fr n = false) ρ v u
theorem Zqg {ρ : Nat → Nat} {fr : Nat → Bool} {h : List (Nat × B)} {sz : Nat} {rows : List (List D)} {cl : Bool} {u : V} {K : Prop} (hk : Zus fr h sz rows cl u K) : K ∧ Weak fr h ρ (.lst sz rows cl) u:=by
 unfold Zus at hk
 split at hk
 · obtain ⟨e1,hk⟩:=Zd hk
   obtain ⟨e2,hk1⟩:=hk
   obtain ⟨hk2,e3⟩:=Zm8 hk1
   cases Nat.eq_of_beq_eq_true e1
   cases e2
   refine ⟨hk2,fun h2 _ F A' ids w M hh hA hX x hx=>?_⟩
   cases hx with | lst _ _ _ _ hd hcl=>exact .lst _ _ _ _ (hd.mono (Goes.refl _ w) fun b _ x=>hA b x) (fun e=>hcl (e3 e))
 · obtain ⟨e2,hk1⟩:=hk
   subst e2
   refine ⟨hk1,fun h2 _ F A' ids w M hh hA hX x hx=>?_⟩
   cases hx
   exact .lst _ _ _ _ (.emp _ _ _) (fun _=>⟨none,rfl⟩)
 · next n sz' len=>
   obtain ⟨e0,q1⟩:=Zd hk
   obtain ⟨e1,q2⟩:=Zd q1
   obtain ⟨q3,e3⟩:=Zm8 q2
   clear hk q1 q2
   cases Nat.eq_of_beq_eq_true e1
   split at q3
   case h_2=>cases q3
   next s r hr=>
   obtain ⟨e4,q4⟩:=Zd q3
   obtain ⟨⟨e5,e6⟩,hk1⟩:=q4
   cases Nat.eq_of_beq_eq_true e4
   subst e6
   refine ⟨hk1,fun h2 hh2 F A' ids w M hh hA hX x hx=>?_⟩
   have hn : h2 n = some (.dat sz r):=by rw [hh2 n e0];exact hr
   exact .lst _ _ _ _ (ZpA hh hA hn (fun hne=>hX n _ hn (QX hne) (by simp [e0])) e5 hx) (fun e=>by cases e3 e)
 · next n sz' off len=>
   obtain ⟨e0,q1⟩:=Zd hk
   obtain ⟨e1,q2⟩:=Zd q1
   obtain ⟨q3,e3⟩:=Zm8 q2
   clear hk q1 q2
   cases Nat.eq_of_beq_eq_true e1
   split at q3
   case h_2=>cases q3
   next s r hr=>
   obtain ⟨e4,q4⟩:=Zd q3
   obtain ⟨⟨e5,e6⟩,hk1⟩:=q4
   cases Nat.eq_of_beq_eq_true e4
   subst e6
   refine ⟨hk1,fun h2 hh2 F A' ids w M hh hA hX x hx=>?_⟩
   have hn : h2 n = some (.dat sz r):=by rw [hh2 n e0];exact hr
   exact .lst _ _ _ _ (Zm9 hh hA hn (fun hne=>hX n _ hn (QX hne) (by simp [e0])) e5 hx) (fun e=>by cases e3 e)
 · cases hk
theorem ZbD {ρ : Nat → Nat} {fr : Nat → Bool} {h : List (Nat × B)} {b : Nat} {v u : V} {K : Prop} (hk : Zom ρ fr h b v u K) : K ∧ v.Below (Lt b) ∧ Weak fr h ρ v u:=by
 unfold Zom at hk
 split at hk
 · exact ⟨hk,.un,fun _ _=>.un⟩
 · next n sz len=>
   split at hk
   · obtain ⟨e1,hk⟩:=Zd hk
     obtain ⟨e2,hk'⟩:=hk
     subst e2
     refine ⟨hk',.ac _ _ _ (by simpa [Nat.blt_eq,Lt] using e1),fun h2 _ F A' ids w M hh hA hX x hx=>?_⟩
     cases hx;exact .ac0 _ _ _
   · obtain ⟨e1,hk⟩:=Zd hk
     obtain ⟨e2,hk⟩:=Zd hk
     obtain ⟨e3,hk⟩:=Zd hk
     obtain ⟨e4,hk⟩:=hk
     refine ⟨hk,.ac _ _ _ (by simpa [Nat.blt_eq,Lt] using e1),fun h2 _=>?_⟩
     rw [Nat.eq_of_beq_eq_true e2,Nat.eq_of_beq_eq_true e3,e4]
     exact Wk.ren ρ (.ac n sz len)
   · obtain ⟨e1,hk⟩:=Zd hk
     obtain ⟨e2,hk⟩:=Zd hk
     obtain ⟨e3,hk⟩:=Zd hk
     obtain ⟨⟨e4,e5,e6⟩,hk⟩:=hk
     refine ⟨hk,.ac _ _ _ (by simpa [Nat.blt_eq,Lt] using e1),fun h2 _=>?_⟩
     rw [Nat.eq_of_beq_eq_true e2,Nat.eq_of_beq_eq_true e3,e4,e5]
     exact fun F A' ids w M hh hA hX x hx=>.ac1 _ _ _ _ e6 (Wk.ren (h:=h2) (X:=fun n=>fr n = false) ρ (.sl n sz 0 len) F A' ids w M hh hA hX x hx)
   · cases hk
 · next n sz off len=>
   split at hk
   · obtain ⟨e1,hk⟩:=Zd hk
     obtain ⟨e2,hk⟩:=Zd hk
     obtain ⟨e3,hk⟩:=Zd hk
     obtain ⟨e4,hk⟩:=hk
     refine ⟨hk,.sl _ _ _ _ (by simpa [Nat.blt_eq,Lt] using e1),fun h2 _=>?_⟩
     rw [Nat.eq_of_beq_eq_true e2,Nat.eq_of_beq_eq_true e3,e4.1,e4.2]
     exact Wk.ren ρ (.sl n sz off len)
   · obtain ⟨e1,hk⟩:=Zd hk
     obtain ⟨e2,hk⟩:=Zd hk
     obtain ⟨e3,hk⟩:=Zd hk
     obtain ⟨⟨e4,e5,e6⟩,hk⟩:=hk
     refine ⟨hk,.sl _ _ _ _ (by simpa [Nat.blt_eq,Lt] using e1),fun h2 _=>?_⟩
     rw [Nat.eq_of_beq_eq_true e2,Nat.eq_of_beq_eq_true e3,e4,e5]
     refine fun F A' ids w M hh hA hX x hx=>Wk.ren (h:=h2) (X:=fun n=>fr n = false) ρ (.sl n sz 0 len) F A' ids w M hh hA hX x ?_
     rw [ZZ]
     cases hx with
     | ac0=>exact absurd rfl e6
     | ac1 _ _ _ _ _ hx=>exact hx
   · obtain ⟨e1,hk⟩:=Zd hk
     obtain ⟨e2,hk⟩:=Zd hk
     obtain ⟨e3,hk⟩:=Zd hk
     obtain ⟨e4,hk⟩:=hk
     refine ⟨hk,.sl _ _ _ _ (by simpa [Nat.blt_eq,Lt] using e1),fun h2 _=>?_⟩
     rw [Nat.eq_of_beq_eq_true e2,Nat.eq_of_beq_eq_true e3,e4.1,e4.2]
     refine fun F A' ids w M hh hA hX x hx=>Wk.ren (h:=h2) (X:=fun n=>fr n = false) ρ (.sl n sz off len) F A' ids w M hh hA hX x ?_
     rw [ZZ]
     cases hx with
     | sx _ _ _ _ _ ad hl hc=>exact .sl _ _ _ _ _ ad hl hc
   · cases hk
 · next k n=>
   split at hk
   · obtain ⟨e1,hk⟩:=Zgj hk
     obtain ⟨e2,hk⟩:=hk
     refine ⟨hk,.c _,fun h2 _=>?_⟩
     rw [← e1,e2]
     exact Wk.ren ρ (.c (.int k n))
   · cases hk
 · next z=>
   split at hk
   · obtain ⟨e2,hk⟩:=hk
     refine ⟨hk,.c _,fun h2 _=>?_⟩
     rw [e2]
     exact Wk.ren ρ (.c (.bool z))
   · cases hk
 · obtain ⟨h1,h2⟩:=Zqg (ρ:=ρ) hk
   exact ⟨h1,.lst _ _ _,h2⟩
 · obtain ⟨e1,hk⟩:=Zd hk
   obtain ⟨e2,hk⟩:=hk
   refine ⟨hk,ZhW e1,fun h2 _=>?_⟩
   rw [e2]
   exact Wk.ren ρ _
theorem ZaE {fr : Nat → Bool} {h : List (Nat × B)} {ρ : Nat → Nat} {b : Nat} {g : V → V → Prop → Prop} (hg : ∀ {v u : V} {K : Prop},g v u K → K ∧ v.Below (Lt b) ∧ Weak fr h ρ v u) : ∀ {T t : List V} {K : Prop},ZnD g T t K →
 K ∧ T.length = t.length ∧ ∀ (i : Nat) (v u : V),T[i]? = some v → t[i]? = some u → v.Below (Lt b) ∧ Weak fr h ρ v u
 | [],[],K,hk=>⟨hk,rfl,by simp⟩
 | v :: T,u :: t,K,hk=>by
  have hk : g v u (ZnD g T t K):=hk
  obtain ⟨hk,hb,hv⟩:=hg hk
  obtain ⟨h1,h2,h3⟩:=ZaE hg hk
  refine ⟨h1,by simp [h2],fun i x y hx hy=>?_⟩
  cases i with
  | zero=>simp at hx hy;subst hx;subst hy;exact ⟨hb,hv⟩
  | succ i=>exact h3 i x y (by simpa using hx) (by simpa using hy)
 | [],_ :: _,K,hk=>by cases hk
 | _ :: _,[],K,hk=>by cases hk
theorem Zam {b : Nat} {xs us : List V} {Q : V → V → Prop} (hl : xs.length = us.length) (h : ∀ (i : Nat) (v u : V),xs[i]? = some v → us[i]? = some u → v.Below (Lt b) ∧ Q v u) : ∀ x ∈ xs,x.Below (Lt b):=by
 intro x hx
 obtain ⟨i,hi⟩:=List.getElem?_of_mem hx
 have hil : i < us.length:=by rw [← hl];exact (List.getElem?_eq_some_iff.1 hi).1
 exact (h i x us[i] hi (by simp [hil])).1
theorem ZqJ {ρ : Nat → Nat} {fr : Nat → Bool} {h : List (Nat × B)} {b : Nat} {v u : V} {K : Prop} (hk : Zt2 ρ fr h b v u K) : K ∧ v.Below (Lt b) ∧ Weak fr h ρ v u:=by
 unfold Zt2 at hk
 split at hk
 · split at hk
   · obtain ⟨h1,h2,h3⟩:=ZaE ZbD hk
     exact ⟨h1,.agg _ (Zam h2 h3),fun hp hh=>Wk.agg h2 fun i v u hv hu=>(h3 i v u hv hu).2 hp hh⟩
   · cases hk
 · exact ZbD hk
theorem ZcU {ρ : Nat → Nat} {fr : Nat → Bool} {h : List (Nat × B)} {b : Nat} {v u : V} {K : Prop} (hk : Zn0 ρ fr h b v u K) : K ∧ v.Below (Lt b) ∧ Weak fr h ρ v u:=by
 unfold Zn0 at hk
 split at hk
 · split at hk
   · obtain ⟨h1,h2,h3⟩:=ZaE ZbD hk
     exact ⟨h1,.agg _ (Zam h2 h3),fun hp hh=>Wk.agg h2 fun i v u hv hu=>(h3 i v u hv hu).2 hp hh⟩
   · cases hk
 · split at hk
   · obtain ⟨h1,h2,h3⟩:=ZaE ZqJ hk
     exact ⟨h1,.tup _ (Zam h2 h3),fun hp hh=>Wk.tup h2 fun i v u hv hu=>(h3 i v u hv hu).2 hp hh⟩
   · cases hk
 · split at hk
   · obtain ⟨e,hk⟩:=hk
     subst e
     obtain ⟨hk,h2,h3⟩:=ZaE ZbD hk
     obtain ⟨h1,h4,h5⟩:=ZaE ZbD hk
     exact ⟨h1,.fn _ _ _ (Zam h2 h3) (Zam h4 h5),fun hp hh=>Wk.fn h2 h4 (fun i v u hv hu=>(h3 i v u hv hu).2 hp hh) fun i v u hv hu=>(h5 i v u hv hu).2 hp hh⟩
   · cases hk
 · split at hk
   · obtain ⟨e,hk1⟩:=Zd hk
     cases Nat.eq_of_beq_eq_true e
     obtain ⟨h1,h2,h3⟩:=ZbD hk1
     exact ⟨h1,.ifc _ _ h2,fun hp hh=>Wk.ifc (h3 hp hh)⟩
   · cases hk
 · exact ZbD hk
theorem ZcC : ∀ (l : List V) (i : Nat),tAt l i = (l[i]?).getD .un
 | [],i=>rfl
 | x :: l,0=>rfl
 | x :: l,i + 1=>by rw [tAt,ZcC l i];simp
theorem Ziw {ρ : Nat → Nat} {fr : Nat → Bool} {h : List (Nat × B)} {b : Nat} {T t : List V} {K : Prop} (hk : Zs9 ρ fr h b T t K) : K ∧ T.length = t.length ∧ ∀ i,(tAt T i).Below (Lt b) ∧ Weak fr h ρ (tAt T i) (tAt t i):=by
 obtain ⟨h1,h2,h3⟩:=ZaE ZcU hk
 refine ⟨h1,h2,fun i=>?_⟩
 rw [ZcC,ZcC]
 by_cases hi : i < T.length
 · have hi' : i < t.length:=by omega
   have:=h3 i T[i] t[i] (by simp [hi]) (by simp [hi'])
   simpa [hi,hi'] using this
 · have hi' : ¬ i < t.length:=by omega
   simp only [List.getElem?_eq_none (Nat.le_of_not_lt hi),List.getElem?_eq_none (Nat.le_of_not_lt hi'),Option.getD_none]
   exact ⟨.un,fun _ _=>.un⟩
theorem Zk6 {ρ : Nat → Nat} {fr : Nat → Bool} {h : List (Nat × B)} {b : Nat} : ∀ {T t : List (List V)} {K : Prop},ZtF ρ fr h b T t K → K ∧ T.length = t.length ∧
 ∀ (i : Nat) (r r' : List V),T[i]? = some r → t[i]? = some r' → r.length = r'.length ∧ ∀ (j : Nat) (v u : V),r[j]? = some v → r'[j]? = some u → v.Below (Lt b) ∧ Weak fr h ρ v u
 | [],[],K,hk=>⟨hk,rfl,by simp⟩
 | v :: T,u :: t,K,hk=>by
  have hk : ZnD (Zn0 ρ fr h b) v u (ZtF ρ fr h b T t K):=hk
  obtain ⟨hk,hb,hv⟩:=ZaE ZcU hk
  obtain ⟨h1,h2,h3⟩:=Zk6 hk
  refine ⟨h1,by simp [h2],fun i x y hx hy=>?_⟩
  cases i with
  | zero=>simp at hx hy;subst hx;subst hy;exact ⟨hb,hv⟩
  | succ i=>exact h3 i x y (by simpa using hx) (by simpa using hy)
 | [],_ :: _,K,hk=>by cases hk
 | _ :: _,[],K,hk=>by cases hk
theorem Zc8 {b : Nat} {x : B} (h : ZdN b (ZR x) = true) : x.Below (Lt b):=by
 unfold ZdN at h
 rw [List.all_eq_true] at h
 cases x with
 | dat sz r=>trivial
 | rows sz r=>
  intro row hr y hy
  refine Za5 ?_
  rw [List.all_eq_true]
  exact fun n hn=>h n (List.mem_flatMap.2 ⟨row,hr,ZG.2 ⟨y,hy,hn⟩⟩)
 | map es=>
  intro e he
  refine Za5 ?_
  rw [List.all_eq_true]
  exact fun n hn=>h n (List.mem_flatMap.2 ⟨e,he,hn⟩)
def WeakB (fr : Nat → Bool) (h : List (Nat × B)) (ρ : Nat → Nat) (b b' : B) : Prop:=∀ h2 : Hp,(∀ n,fr n = true → h2 n = hAt h n) → WkB h2 (fun n=>fr n = false) ρ b b'
theorem WkB.ren {h : Hp} {X : Nat → Prop} (ρ : Nat → Nat) (b : B) : WkB h X ρ b (ZC ρ b):=⟨Yv ρ b,fun F A' ids w M _ hA _ p hp=>Zn9 hA hp⟩
theorem WkB.rows {h : Hp} {X : Nat → Prop} {ρ : Nat → Nat} {sz : Nat} {r r' : List (List V)} (hl : r.length = r'.length) (hr : ∀ (i : Nat) (a a' : List V),r[i]? = some a → r'[i]? = some a' → a.length = a'.length ∧ ∀ (j : Nat) (v u : V),a[j]? = some v → a'[j]? = some u → Wk h X ρ v u) :
 WkB h X ρ (.rows sz r) (.rows sz r'):=by
 refine ⟨rfl,fun F A' ids w M hh hA hX p hp=>?_⟩
 obtain ⟨arr,T,h1,h2,h3,h4⟩:=hp
 refine ⟨arr,T,h1,by rw [hl];exact h2,fun row hrow=>?_,fun i row j x hi hj=>?_⟩
 · obtain ⟨i,hi⟩:=List.getElem?_of_mem hrow
   have hil : i < r'.length:=by rw [← hl];exact (List.getElem?_eq_some_iff.1 hi).1
   rw [(hr i row r'[i] hi (by simp [hil])).1]
   exact h3 _ (List.getElem_mem hil)
 · have hil : i < r'.length:=by rw [← hl];exact (List.getElem?_eq_some_iff.1 hi).1
   obtain ⟨e1,e2⟩:=hr i row r'[i] hi (by simp [hil])
   have hjl : j < r'[i].length:=by rw [← e1];exact (List.getElem?_eq_some_iff.1 hj).1
   obtain ⟨v,hv,hrep⟩:=h4 i r'[i] j r'[i][j] (by simp [hil]) (by simp [hjl])
   exact ⟨v,hv,e2 j x r'[i][j] hj (by simp [hjl]) F A' ids w M hh hA hX v hrep⟩
theorem ZcT {ρ : Nat → Nat} {fr : Nat → Bool} {b : Nat} : ∀ {H h : List (Nat × B)} {K : Prop},Zny ρ fr b H h K → K ∧ ∀ p ∈ H,p.1 < b ∧ p.2.Below (Lt b) ∧ ((∃ b',hAt h (ρ p.1) = some b' ∧ WeakB fr h ρ p.2 b') ∨ p.2.real = false)
 | [],h,K,hk=>⟨hk,by simp⟩
 | p :: H,h,K,hk=>by
  have hk : okK (Nat.blt p.1 b) (match p.2 with
   | .dat sz r=>match hAt h (ρ p.1) with
    | some (.dat sz' r')=>okK (Nat.beq sz' sz) (CB (r' = r) (Zny ρ fr b H h K))
    | _=>CB (r = []) (Zny ρ fr b H h K)
   | .rows sz r=>match hAt h (ρ p.1) with
    | some (.rows sz' r')=>okK (Nat.beq sz' sz) (okK (ZdN b (ZR (.rows sz r))) (ZtF ρ fr h b r r' (Zny ρ fr b H h K)))
    | _=>False
   | .map es=>match hAt h (ρ p.1) with
    | some (.map es')=>CB (es' = es) (CB (plainM es ∨ fixM ρ b es) (Zny ρ fr b H h K))
    | _=>False):=hk
  obtain ⟨e1,hk⟩:=Zd hk
  have e1 : p.1 < b:=by simpa [Nat.blt_eq] using e1
  obtain ⟨n,B⟩:=p
  dsimp only at hk e1
  have fin : ∀ {K : Prop},Zny ρ fr b H h K → (B.Below (Lt b) ∧ ((∃ b',hAt h (ρ n) = some b' ∧ WeakB fr h ρ B b') ∨ B.real = false)) → K ∧ ∀ p ∈ (n,B) :: H,p.1 < b ∧ p.2.Below (Lt b) ∧ ((∃ b',hAt h (ρ p.1) = some b' ∧ WeakB fr h ρ p.2 b') ∨ p.2.real = false):=by
   intro K hk hB
   obtain ⟨h1,h2⟩:=ZcT hk
   refine ⟨h1,fun p hp=>?_⟩
   rcases List.mem_cons.1 hp with rfl | hp
   · exact ⟨e1,hB⟩
   · exact h2 p hp
  cases B with
  | dat sz r=>
   dsimp only at hk
   split at hk
   · next sz' r' hr=>
     obtain ⟨e2,hk⟩:=Zd hk
     obtain ⟨e3,hk⟩:=hk
     exact fin hk ⟨trivial,.inl ⟨_,hr,fun _ _=>by rw [Nat.eq_of_beq_eq_true e2,e3];exact WkB.ren ρ (.dat sz r)⟩⟩
   · obtain ⟨e3,q1⟩:=hk
     subst e3
     exact fin q1 ⟨trivial,.inr rfl⟩
  | rows sz r=>
   dsimp only at hk
   split at hk
   · next sz' r' hr=>
     obtain ⟨e2,q1⟩:=Zd hk
     obtain ⟨e3,q2⟩:=Zd q1
     obtain ⟨q3,h2,h3⟩:=Zk6 q2
     cases Nat.eq_of_beq_eq_true e2
     exact fin q3 ⟨Zc8 e3,.inl ⟨_,hr,fun hp hh=>WkB.rows h2 fun i a a' ha ha'=>⟨(h3 i a a' ha ha').1,fun j v u hv hu=>((h3 i a a' ha ha').2 j v u hv hu).2 hp hh⟩⟩⟩
   · cases hk
  | map es=>
   dsimp only at hk
   split at hk
   · next es' hr=>
     obtain ⟨e2,q1⟩:=hk
     obtain ⟨e3,q2⟩:=q1
     subst e2
     have hbe : (B.map es').Below (Lt b):=by
      rcases e3 with e3 | e3
      · exact e3.below _
      · exact fun e he=>(e3 e he).2
     have hre : ZC ρ (.map es') = .map es':=by
      rcases e3 with e3 | e3
      · exact e3.ren ρ
      · exact e3.ren
     exact fin q2 ⟨hbe,.inl ⟨_,hr,fun _ _=>by have:=WkB.ren (h:=‹Hp›) (X:=fun n=>fr n = false) ρ (.map es');rw [hre] at this;exact this⟩⟩
   · cases hk
theorem ZA : ∀ {l : List Nat},YJ l = true → l.Nodup
 | [],_=>List.nodup_nil
 | x :: xs,h=>by
  simp only [YJ,Bool.and_eq_true,Bool.not_eq_true',List.contains_eq_mem,decide_eq_false_iff_not] at h
  exact List.nodup_cons.2 ⟨h.1,ZA h.2⟩
theorem ZdB {α : Type} {f : α → Nat} : ∀ {l : List α},(l.map f).Nodup → ∀ a ∈ l,∀ b ∈ l,f a = f b → a = b
 | [],_,a,ha,_,_,_=>by simp at ha
 | x :: xs,h,a,ha,b,hb,e=>by
  rw [List.map_cons,List.nodup_cons] at h
  rcases List.mem_cons.1 ha with ea | ha'
  · rcases List.mem_cons.1 hb with eb | hb'
    · rw [ea,eb]
    · exact (h.1 (by rw [← ea,e];exact List.mem_map_of_mem hb')).elim
  · rcases List.mem_cons.1 hb with eb | hb'
    · exact (h.1 (by rw [← eb,← e];exact List.mem_map_of_mem ha')).elim
    · exact ZdB h.2 a ha' b hb' e
theorem Z1 : ∀ {l : List (Nat × B)} {n : Nat} {b : B},hAt l n = some b → (n,b) ∈ l
 | [],n,b,h=>by cases h
 | p :: l,n,b,h=>by
  simp only [hAt] at h
  split at h
  · next e=>
    have e:=Nat.eq_of_beq_eq_true e
    obtain ⟨p1,p2⟩:=p
    dsimp only at e h
    subst e;cases h
    simp
  · exact List.mem_cons_of_mem _ (Z1 h)
theorem ZiM : ∀ {l : List (Nat × B)} {p : Nat × B},p ∈ l → ∃ c,hAt l p.1 = some c
 | [],p,h=>by cases h
 | q :: l,p,h=>by
  simp only [hAt]
  split
  · exact ⟨_,rfl⟩
  · next e=>
    rcases List.mem_cons.1 h with rfl | h
    · rw [Nat.beq_refl] at e;cases e
    · exact ZiM h
theorem Zi0 {ρ : Nat → Nat} {H : List (Nat × B)} {n : Nat} : ZdM ρ H n = false ↔ ∃ m c,hAt H m = some c ∧ ρ m = n:=by
 unfold ZdM
 rw [Bool.not_eq_false',List.any_eq_true]
 constructor
 · rintro ⟨p,hp,e⟩
   obtain ⟨c,hc⟩:=ZiM hp
   exact ⟨p.1,c,hc,Nat.eq_of_beq_eq_true e⟩
 · rintro ⟨m,c,hm,rfl⟩
   exact ⟨(m,c),Z1 hm,Nat.beq_refl _⟩
theorem Zcm {ρ : Nat → Nat} {b : Nat} {H h : List (Nat × B)} (hn : (H.map fun p=>ρ p.1).Nodup) (hH : ∀ p ∈ H,p.1 < b ∧ p.2.Below (Lt b) ∧ ((∃ b',hAt h (ρ p.1) = some b' ∧ WeakB (ZdM ρ H) h ρ p.2 b') ∨ p.2.real = false)) : Ren ρ (hAt h) (hAt H) (Lt b):=by
 have hX : (fun n=>ZdM ρ H n = false) = fun n=>∃ m c,hAt H m = some c ∧ ρ m = n:=by funext n;exact propext Zi0
 refine ⟨fun n c hn=>?_,fun n m c d hn' hm _ _ e=>?_,fun n c hn=>⟨(hH _ (Z1 hn)).1,(hH _ (Z1 hn)).2.1⟩⟩
 · rcases (hH _ (Z1 hn)).2.2 with ⟨b',h1,h2⟩ | h1
   · exact .inl ⟨b',h1,by rw [← hX];exact h2 _ fun _ _=>rfl⟩
   · exact .inr h1
 · exact congrArg Prod.fst (ZdB (f:=fun p : Nat × B=>ρ p.1) hn _ (Z1 hn') _ (Z1 hm) e)
theorem Weak.rep {ρ : Nat → Nat} {b : Nat} {H h : List (Nat × B)} (hren : Ren ρ (hAt h) (hAt H) (Lt b)) {v u : V} (hw : Weak (ZdM ρ H) h ρ v u) {F : Nat → Prop} {ids : Nat → Nat × Nat} {w : World} {M : Nm} (hh : RepH F ids w (hAt h) M) {x : Value} (hx : RepV (Ze F (hAt h) ids) ids w u x) :
 RepV (Ze F (hAt H) fun n=>ids (ρ n)) (fun n=>ids (ρ n)) w v x:=
 hw (hAt h) (fun _ _=>rfl) F _ ids w M hh (fun b x=>hren.avoid b x) (fun n y hn hy hX=>hren.gone hh n y hn hy (fun hex=>hX (Zi0.2 hex))) x hx
theorem Zay {ρ : List (Nat × Nat)} {N b b' : Nat} {T t : List V} {H h : List (Nat × B)} (hk : Zmq ρ N b T H t h) : Sub (Lt N) ⟨tAt t,hAt h,b',t.length⟩ ⟨tAt T,hAt H,b,T.length⟩ ∧ T.length = t.length:=by
 obtain ⟨e1,hk⟩:=Zd hk
 obtain ⟨e2,hk⟩:=Zd hk
 obtain ⟨hk,hlen,hT⟩:=Ziw hk
 obtain ⟨_,hH⟩:=ZcT hk
 refine ⟨?_,hlen⟩
 have hren : Ren (Yi ρ) (hAt h) (hAt H) (Lt b):=Zcm (ZA e2) hH
 intro F ids w a hr
 refine ⟨fun n=>ids (Yi ρ n),⟨hren.heap hr.heap,fun i=>?_,by rw [hlen];exact hr.size,fun i hi=>?_,fun i=>(hT i).1,hr.defers⟩,⟨Goes.refl _ _,fun b _ x=>?_,fun n hn=>by rw [Zep e1 hn]⟩⟩
 · exact (hT i).2.rep hren hr.heap (hr.tmps i)
 · show tAt T i = .un
   rw [ZcC,List.getElem?_eq_none hi];rfl
 · obtain ⟨n,c,hn,hcr,hb⟩:=x
   obtain ⟨b',h1,h2,_⟩:=hren.real hn hcr
   exact ⟨Yi ρ n,_,h1,h2,hb⟩
def YR : Nat → List Nat → List V → List V
 | _,_,[]=>[]
 | i,l,x :: t=>(match l.contains i with | true=>x | false=>.un) :: YR (i + 1) l t
def YT : List (Nat × V) → List V → List V
 | [],t=>t
 | p :: l,t=>YT l (t.set p.1 p.2)
def Qk (l : List Nat) : List (Nat × B) → List (Nat × B)
 | []=>[]
 | p :: h=>match l.contains p.1 with
  | true=>p :: Qk l h
  | false=>Qk l h
theorem Ya : ∀ (i : Nat) (l : List Nat) (t : List V),(YR i l t).length = t.length
 | _,_,[]=>rfl
 | i,l,x :: t=>by simp [YR,Ya]
theorem Yb : ∀ (l : List (Nat × V)) (t : List V),(YT l t).length = t.length
 | [],_=>rfl
 | p :: l,t=>by simp [YT,Yb]
inductive NextB {α : Type} (I : α → Prop) (μ : α → Nat) (x : α) (N b : Nat) (T : α → List V) (H : α → List (Nat × B)) (t : List V) (h : List (Nat × B)) : Prop
 | mk (ρ : List (Nat × Nat)) (y : α) (hI : I y) (hμ : μ y < μ x) (hs : Zmq ρ N b (T y) (H y) t h) : NextB I μ x N b T H t h
section
variable {P : Program} {tab : Tab}
noncomputable def Zps {α : Type} (P : Program) (tab : Tab) (N : Nat) (c : Code) (b : Nat) (K : Ex → List V → List (Nat × B) → Nat → Prop) (I : α → Prop) (μ : α → Nat) (T : α → List V) (H : α → List (Nat × B)) (x : α) : Prop:=
 QO (T x) fun t=>YC (H x) fun h=>Zcz P tab N c t h b fun e t' h' b'=>match e with
  | .normal=>NextB I μ x N b T H t' h'
  | .exit i=>K (.exit i) t' h' b'
  | .ret=>K .ret t' h' b'
theorem ZlN (ht : Zk P tab) (hmix : P.follows .mixedOrders = true) {α : Type} {N : Nat} {c : Code} {t : List V} {h : List (Nat × B)} {b : Nat} {K : Ex → List V → List (Nat × B) → Nat → Prop}
 (T : α → List V) (H : α → List (Nat × B)) (I : α → Prop) (μ : α → Nat) (ρ : List (Nat × Nat)) (x : α) (hb : N ≤ b) (hl : ∀ x,(T x).length = t.length) (h0 : I x) (hs : Zmq ρ N b (T x) (H x) t h)
 (round : ∀ x,I x → Zps P tab N c b K I μ T H x) : LoopB P tab N c t h b K:=by
 refine ⟨hb,?_⟩
 obtain ⟨hs,hs2⟩:=Zay (b':=b) hs
 refine AWP.sub hs ?_
 refine Zbc (fun x=>⟨tAt (T x),hAt (H x),b,(T x).length⟩) I μ (fun x hx=>?_) h0
 have hr:=Zt (Z9 (round x hx))
 refine AWP.mono (Qa ht hmix c _ _ b _ hb hr) ?_
 rintro e s ⟨t',h',b',rfl,e1,hb',hk⟩
 cases e with
 | normal=>
  obtain ⟨ρ,y,hI,hμ,hs⟩:=hk
  exact ⟨y,hI,hμ,(Zay hs).1⟩
 | exit i=>exact ⟨t',h',b',rfl,by rw [e1,hl],hb',hk⟩
 | ret=>exact ⟨t',h',b',rfl,by rw [e1,hl],hb',hk⟩
theorem Y3 (ht : Zk P tab) (hmix : P.follows .mixedOrders = true) {α : Type} {N : Nat} {c : Code} {t : List V} {h : List (Nat × B)} {b : Nat} {K : Ex → List V → List (Nat × B) → Nat → Prop}
 (ks : List Nat) (kh : List Nat) (ch : α → List (Nat × V)) (hc : α → List (Nat × B)) (I : α → Prop) (μ : α → Nat) (ρ : List (Nat × Nat)) (x : α) (hb : Nat.ble N b = true) (h0 : I x)
 (hs : Zmq ρ N b (YT (ch x) (YR 0 ks t)) (hc x ++ Qk kh h) t h)
 (round : ∀ x,I x → Zps P tab N c b K I μ (fun x=>YT (ch x) (YR 0 ks t)) (fun x=>hc x ++ Qk kh h) x) : LoopB P tab N c t h b K:=
 ZlN ht hmix _ _ I μ ρ x (Nat.le_of_ble_eq_true hb) (fun x=>by rw [Yb,Ya]) h0 hs round
inductive NextB2 {α β : Type} (I : α → β → Prop) (μ : α → β → Nat) (m0 : Nat) (N b : Nat) (T : α → β → List V) (H : α → β → List (Nat × B)) (t : List V) (h : List (Nat × B)) : Prop
 | mk (ρ : List (Nat × Nat)) (x : α) (y : β) (hI : I x y) (hμ : μ x y < m0) (hs : Zmq ρ N b (T x y) (H x y) t h) : NextB2 I μ m0 N b T H t h
noncomputable def ZqY {α β : Type} (P : Program) (tab : Tab) (N : Nat) (c : Code) (b : Nat) (K : Ex → List V → List (Nat × B) → Nat → Prop) (I : α → β → Prop) (μ : α → β → Nat) (T : α → β → List V) (H : α → β → List (Nat × B)) (x : α) (y : β) : Prop:=
 QO (T x y) fun t=>YC (H x y) fun h=>Zcz P tab N c t h b fun e t' h' b'=>match e with
  | .normal=>NextB2 I μ (μ x y) N b T H t' h'
  | .exit i=>K (.exit i) t' h' b'
  | .ret=>K .ret t' h' b'
theorem ZbA (ht : Zk P tab) (hmix : P.follows .mixedOrders = true) {α β : Type} {N : Nat} {c : Code} {t : List V} {h : List (Nat × B)} {b : Nat} {K : Ex → List V → List (Nat × B) → Nat → Prop}
 (ks : List Nat) (kh : List Nat) (ch : α → β → List (Nat × V)) (hc : α → β → List (Nat × B)) (I : α → β → Prop) (μ : α → β → Nat) (ρ : List (Nat × Nat)) (x : α) (y : β) (hb : Nat.ble N b = true) (h0 : I x y)
 (hs : Zmq ρ N b (YT (ch x y) (YR 0 ks t)) (hc x y ++ Qk kh h) t h)
 (round : ∀ (x : α) (y : β),I x y → ZqY P tab N c b K I μ (fun x y=>YT (ch x y) (YR 0 ks t)) (fun x y=>hc x y ++ Qk kh h) x y) : LoopB P tab N c t h b K:=by
 have hb:=Nat.le_of_ble_eq_true hb
 refine ⟨hb,?_⟩
 obtain ⟨hs,hs2⟩:=Zay (b':=b) hs
 refine AWP.sub hs ?_
 refine Zbc (α:=α × β) (fun p=>⟨tAt (YT (ch p.1 p.2) (YR 0 ks t)),hAt (hc p.1 p.2 ++ Qk kh h),b,(YT (ch p.1 p.2) (YR 0 ks t)).length⟩) (fun p=>I p.1 p.2) (fun p=>μ p.1 p.2) (fun p hx=>?_) (x:=(x,y)) h0
 have hr:=Zt (Z9 (round p.1 p.2 hx))
 refine AWP.mono (Qa ht hmix c _ _ b _ hb hr) ?_
 rintro e s ⟨t',h',b',rfl,e1,hb',hk⟩
 cases e with
 | normal=>
  obtain ⟨ρ,x',y',hI,hμ,hs⟩:=hk
  exact ⟨(x',y'),hI,hμ,(Zay hs).1⟩
 | exit i=>exact ⟨t',h',b',rfl,by rw [e1,Yb,Ya],hb',hk⟩
 | ret=>exact ⟨t',h',b',rfl,by rw [e1,Yb,Ya],hb',hk⟩
inductive NextB3 {α β γ : Type} (I : α → β → γ → Prop) (μ : α → β → γ → Nat) (m0 : Nat) (N b : Nat) (T : α → β → γ → List V) (H : α → β → γ → List (Nat × B)) (t : List V) (h : List (Nat × B)) : Prop
 | mk (ρ : List (Nat × Nat)) (x : α) (y : β) (z : γ) (hI : I x y z) (hμ : μ x y z < m0) (hs : Zmq ρ N b (T x y z) (H x y z) t h) : NextB3 I μ m0 N b T H t h
noncomputable def Zqp {α β γ : Type} (P : Program) (tab : Tab) (N : Nat) (c : Code) (b : Nat) (K : Ex → List V → List (Nat × B) → Nat → Prop) (I : α → β → γ → Prop) (μ : α → β → γ → Nat) (T : α → β → γ → List V) (H : α → β → γ → List (Nat × B)) (x : α) (y : β) (z : γ) : Prop:=
 QO (T x y z) fun t=>YC (H x y z) fun h=>Zcz P tab N c t h b fun e t' h' b'=>match e with
  | .normal=>NextB3 I μ (μ x y z) N b T H t' h'
  | .exit i=>K (.exit i) t' h' b'
  | .ret=>K .ret t' h' b'
theorem ZsJ (ht : Zk P tab) (hmix : P.follows .mixedOrders = true) {α β γ : Type} {N : Nat} {c : Code} {t : List V} {h : List (Nat × B)} {b : Nat} {K : Ex → List V → List (Nat × B) → Nat → Prop}
 (ks : List Nat) (kh : List Nat) (ch : α → β → γ → List (Nat × V)) (hc : α → β → γ → List (Nat × B)) (I : α → β → γ → Prop) (μ : α → β → γ → Nat) (ρ : List (Nat × Nat)) (x : α) (y : β) (z : γ) (hb : Nat.ble N b = true) (h0 : I x y z)
 (hs : Zmq ρ N b (YT (ch x y z) (YR 0 ks t)) (hc x y z ++ Qk kh h) t h)
 (round : ∀ (x : α) (y : β) (z : γ),I x y z → Zqp P tab N c b K I μ (fun x y z=>YT (ch x y z) (YR 0 ks t)) (fun x y z=>hc x y z ++ Qk kh h) x y z) : LoopB P tab N c t h b K:=by
 have hb:=Nat.le_of_ble_eq_true hb
 refine ⟨hb,?_⟩
 obtain ⟨hs,hs2⟩:=Zay (b':=b) hs
 refine AWP.sub hs ?_
 refine Zbc (α:=α × β × γ) (fun p=>⟨tAt (YT (ch p.1 p.2.1 p.2.2) (YR 0 ks t)),hAt (hc p.1 p.2.1 p.2.2 ++ Qk kh h),b,(YT (ch p.1 p.2.1 p.2.2) (YR 0 ks t)).length⟩) (fun p=>I p.1 p.2.1 p.2.2) (fun p=>μ p.1 p.2.1 p.2.2) (fun p hx=>?_) (x:=(x,y,z)) h0
 have hr:=Zt (Z9 (round p.1 p.2.1 p.2.2 hx))
 refine AWP.mono (Qa ht hmix c _ _ b _ hb hr) ?_
 rintro e s ⟨t',h',b',rfl,e1,hb',hk⟩
 cases e with
 | normal=>
  obtain ⟨ρ,x',y',z',hI,hμ,hs⟩:=hk
  exact ⟨(x',y',z'),hI,hμ,(Zay hs).1⟩
 | exit i=>exact ⟨t',h',b',rfl,by rw [e1,Yb,Ya],hb',hk⟩
 | ret=>exact ⟨t',h',b',rfl,by rw [e1,Yb,Ya],hb',hk⟩
inductive NextB4 {α β γ δ : Type} (I : α → β → γ → δ → Prop) (μ : α → β → γ → δ → Nat) (m0 : Nat) (N b : Nat) (T : α → β → γ → δ → List V) (H : α → β → γ → δ → List (Nat × B)) (t : List V) (h : List (Nat × B)) : Prop
 | mk (ρ : List (Nat × Nat)) (x : α) (y : β) (z : γ) (u : δ) (hI : I x y z u) (hμ : μ x y z u < m0) (hs : Zmq ρ N b (T x y z u) (H x y z u) t h) : NextB4 I μ m0 N b T H t h
noncomputable def Zp4 {α β γ δ : Type} (P : Program) (tab : Tab) (N : Nat) (c : Code) (b : Nat) (K : Ex → List V → List (Nat × B) → Nat → Prop) (I : α → β → γ → δ → Prop) (μ : α → β → γ → δ → Nat) (T : α → β → γ → δ → List V) (H : α → β → γ → δ → List (Nat × B)) (x : α) (y : β) (z : γ) (u : δ) : Prop:=
 QO (T x y z u) fun t=>YC (H x y z u) fun h=>Zcz P tab N c t h b fun e t' h' b'=>match e with
  | .normal=>NextB4 I μ (μ x y z u) N b T H t' h'
  | .exit i=>K (.exit i) t' h' b'
  | .ret=>K .ret t' h' b'
theorem Ztm (ht : Zk P tab) (hmix : P.follows .mixedOrders = true) {α β γ δ : Type} {N : Nat} {c : Code} {t : List V} {h : List (Nat × B)} {b : Nat} {K : Ex → List V → List (Nat × B) → Nat → Prop}
 (ks : List Nat) (kh : List Nat) (ch : α → β → γ → δ → List (Nat × V)) (hc : α → β → γ → δ → List (Nat × B)) (I : α → β → γ → δ → Prop) (μ : α → β → γ → δ → Nat) (ρ : List (Nat × Nat)) (x : α) (y : β) (z : γ) (u : δ) (hb : Nat.ble N b = true) (h0 : I x y z u)
 (hs : Zmq ρ N b (YT (ch x y z u) (YR 0 ks t)) (hc x y z u ++ Qk kh h) t h)
 (round : ∀ (x : α) (y : β) (z : γ) (u : δ),I x y z u → Zp4 P tab N c b K I μ (fun x y z u=>YT (ch x y z u) (YR 0 ks t)) (fun x y z u=>hc x y z u ++ Qk kh h) x y z u) : LoopB P tab N c t h b K:=by
 have hb:=Nat.le_of_ble_eq_true hb
 refine ⟨hb,?_⟩
 obtain ⟨hs,hs2⟩:=Zay (b':=b) hs
 refine AWP.sub hs ?_
 refine Zbc (α:=α × β × γ × δ) (fun p=>⟨tAt (YT (ch p.1 p.2.1 p.2.2.1 p.2.2.2) (YR 0 ks t)),hAt (hc p.1 p.2.1 p.2.2.1 p.2.2.2 ++ Qk kh h),b,(YT (ch p.1 p.2.1 p.2.2.1 p.2.2.2) (YR 0 ks t)).length⟩) (fun p=>I p.1 p.2.1 p.2.2.1 p.2.2.2) (fun p=>μ p.1 p.2.1 p.2.2.1 p.2.2.2) (fun p hx=>?_) (x:=(x,y,z,u)) h0
 have hr:=Zt (Z9 (round p.1 p.2.1 p.2.2.1 p.2.2.2 hx))
 refine AWP.mono (Qa ht hmix c _ _ b _ hb hr) ?_
 rintro e s ⟨t',h',b',rfl,e1,hb',hk⟩
 cases e with
 | normal=>
  obtain ⟨ρ,x',y',z',u',hI,hμ,hs⟩:=hk
  exact ⟨(x',y',z',u'),hI,hμ,(Zay hs).1⟩
 | exit i=>exact ⟨t',h',b',rfl,by rw [e1,Yb,Ya],hb',hk⟩
 | ret=>exact ⟨t',h',b',rfl,by rw [e1,Yb,Ya],hb',hk⟩
inductive JoinB {α : Type} (I : α → Prop) (N b : Nat) (T : α → List V) (H : α → List (Nat × B)) (t : List V) (h : List (Nat × B)) : Prop
 | mk (ρ : List (Nat × Nat)) (y : α) (hI : I y) (hk : Zmq ρ N b (T y) (H y) t h) : JoinB I N b T H t h
noncomputable def ZtW {α : Type} (N b : Nat) (K : Ex → List V → List (Nat × B) → Nat → Prop) (I : α → Prop) (T : α → List V) (H : α → List (Nat × B)) : Ex → List V → List (Nat × B) → Nat → Prop:=fun e t h b'=>
 match e with
 | .normal=>JoinB I N b T H t h
 | .exit i=>K (.exit i) t h b'
 | .ret=>K .ret t h b'
theorem Zkp (ht : Zk P tab) (hmix : P.follows .mixedOrders = true) {N : Nat} {c : Code} {t : List V} {h : List (Nat × B)} {b : Nat} {K : Ex → List V → List (Nat × B) → Nat → Prop} {α : Type} (l : List Nat) (hs : List Nat) (tv : α → List (Nat × V)) (hv : α → List (Nat × B)) (I : α → Prop)
 (hk : Zoj P tab N c t h b (ZtW N b K I (fun y=>YT (tv y) (YR 0 l t)) (fun y=>hv y ++ Qk hs h))) (next : ∀ y,I y → QO (YT (tv y) (YR 0 l t)) fun t=>YC (hv y ++ Qk hs h) fun h=>K .normal t h b) : StepB P tab N c t h b K:=by
 refine ⟨fun hb=>?_⟩
 intro rd hrd dep F ids w a hr
 refine wpIn_mono (ZiV ht hmix hk hb rd hrd dep F ids w a hr) ?_
 rintro e a' w' ⟨x,s',ids',hx,⟨t',h',b',rfl,e1,hb',hq⟩,hr',hkp⟩
 cases x with
 | exit i=>exact ⟨.exit i,_,ids',hx,⟨t',h',b',rfl,e1,hb',hq⟩,hr',hkp⟩
 | ret=>exact ⟨.ret,_,ids',hx,⟨t',h',b',rfl,e1,hb',hq⟩,hr',hkp⟩
 | normal=>
  obtain ⟨ρ,y,hI,hsub⟩:=hq
  obtain ⟨hs1,hs2⟩:=Zay (b':=b') hsub
  obtain ⟨ids2,hr2,hk2⟩:=hs1 F ids' w' a' hr'
  exact ⟨.normal,_,ids2,hx,⟨_,_,b,rfl,hs2.trans e1,hb,Zt (Z9 (next y hI))⟩,hr2,hkp.step hk2 rfl⟩
end
set_option linter.unusedVariables false
set_option linter.unusedSimpArgs false
theorem RepV.sub {A A' : Nat → Prop} {ids : Nat → Nat × Nat} {w : World} (hA : ∀ b,A' b → A b) {x : V} {v : Value} (h : RepV A ids w x v) : RepV A' ids w x v:=by
 induction h with
 | un v=>exact .un v
 | c v=>exact .c v
 | lst sz rows clip v h hcl=>exact .lst _ _ _ _ (h.mono (Goes.refl A w) fun b _ x=>hA b x) hcl
 | sl n sz off len cap ad hl hc=>exact .sl _ _ _ _ cap ad hl hc
 | sx n sz off len cap ad hl hc=>exact .sx _ _ _ _ _ ad hl hc
 | ac0 n sz ad=>exact .ac0 ..
 | ac1 n sz len v h0 h ih=>exact .ac1 _ _ _ _ h0 ih
 | p n sz i j=>exact .p ..
 | q row j b o cell hb' hn hc hd=>exact .q row j b o cell hb' (fun x=>hn (hA b x)) hc fun k d hk=>(hd k d hk).mono (Goes.refl A w) fun b _ x=>hA b x
 | agg xs arr hs h ih=>exact .agg _ _ hs fun i x v h1 h2=>ih i x v h1 h2
 | tup xs arr hs h ih=>exact .tup _ _ hs fun i x v h1 h2=>ih i x v h1 h2
 | fn f xs ys ar br hs hs' h h' ih ih'=>exact .fn f xs ys ar br hs hs' (fun i x v h1 h2=>ih i x v h1 h2) (fun i x v h1 h2=>ih' i x v h1 h2)
 | ifc t x v h ih=>exact .ifc _ _ _ ih
 | mp n=>exact .mp ..
theorem ZcQ {σ : Nat → Nat} {M M' : Nm} (hm : ∀ n,M n → M' (σ n)) {x : V} (h : x.Below M) : (ZZ σ x).Below M':=by
 induction h with
 | un=>rw [ZZ];exact .un
 | c v=>rw [ZZ];exact .c v
 | lst sz rows clip=>rw [ZZ];exact .lst ..
 | sl n sz off len h=>rw [ZZ];exact .sl _ _ _ _ (hm n h)
 | ac n sz len h=>rw [ZZ];exact .ac _ _ _ (hm n h)
 | sx n sz off len cap h=>rw [ZZ];exact .sx _ _ _ _ _ (hm n h)
 | p n sz i j h=>rw [ZZ];exact .p _ _ _ _ (hm n h)
 | q row j=>rw [ZZ];exact .q ..
 | agg xs h ih=>rw [ZZ,Zx];exact .agg _ fun x hx=>by obtain ⟨y,hy,rfl⟩:=List.mem_map.1 hx;exact ih y hy
 | tup xs h ih=>rw [ZZ,Zx];exact .tup _ fun x hx=>by obtain ⟨y,hy,rfl⟩:=List.mem_map.1 hx;exact ih y hy
 | fn f a b h h' ih ih'=>
  rw [ZZ,Zx,Zx]
  exact .fn _ _ _ (fun x hx=>by obtain ⟨y,hy,rfl⟩:=List.mem_map.1 hx;exact ih y hy) (fun x hx=>by obtain ⟨y,hy,rfl⟩:=List.mem_map.1 hx;exact ih' y hy)
 | ifc t x h ih=>rw [ZZ];exact .ifc _ _ ih
 | mp n h=>rw [ZZ];exact .mp _ (hm n h)
theorem ZjU {σ : Nat → Nat} {M M' : Nm} (hm : ∀ n,M n → M' (σ n)) {b : B} (h : b.Below M) : (ZC σ b).Below M':=by
 cases b with
 | dat sz r=>trivial
 | rows sz r=>
  intro row hr x hx
  obtain ⟨row',hr',rfl⟩:=List.mem_map.1 hr
  rw [Zx] at hx
  obtain ⟨y,hy,rfl⟩:=List.mem_map.1 hx
  exact ZcQ hm (h row' hr' y hy)
 | map es=>
  intro e he
  obtain ⟨e',he',rfl⟩:=List.mem_map.1 he
  exact ZcQ hm (h e' he')
section
variable {P : Program} {tab : Tab}
def LSpec (P : Program) (f : FuncId) (args : List V) (H : List (Nat × B)) (N : Nat) (r : V) (H' : List (Nat × B)) (N' : Nat) : Prop:=
 (∀ x ∈ args,x.Below (Lt N)) ∧ (∀ p ∈ H,p.1 < N ∧ p.2.Below (Lt N)) ∧
 ∀ (F : Nat → Prop) (ids : Nat → Nat × Nat) (w : World) (vals : Array Value),RepH F ids w (hAt H) (Lt N) → vals.size = args.length →
  (∀ (i : Nat) (x : V) (v : Value),args[i]? = some x → vals[i]? = some v → RepV (Ze F (hAt H) ids) ids w x v) →
  (callFunc f vals).run P w = .ok (.enter f vals) w ∧ Calls P f vals w fun e w'=>∃ v ids',e = .returned v ∧ Chg F ids w (hAt H) (Lt N) ids' w' (hAt H') (Lt N') ∧ RepV (Ze F (hAt H') ids') ids' w' r v ∧ r.Below (Lt N')
noncomputable def ZuX (ρ : List (Nat × Nat)) (N N' : Nat) (r : V) (H' : List (Nat × B)) (v : V) (h : List (Nat × B)) : Prop:=
 okK (ρ.all fun p=>Nat.ble N p.1) (okK (YJ (H'.map fun p=>Yi ρ p.1)) (Zn0 (Yi ρ) (ZdM (Yi ρ) H') h N' r v (Zny (Yi ρ) (ZdM (Yi ρ) H') N' H' h True)))
inductive RetL (N N' : Nat) (r : V) (H' : List (Nat × B)) (v : V) (h : List (Nat × B)) : Prop
 | mk (ρ : List (Nat × Nat)) (hk : ZuX ρ N N' r H' v h) : RetL N N' r H' v h
theorem LSpec.of (ht : Zk P tab) (hmix : P.follows .mixedOrders = true) {f : FuncId} {fn : Func} (hf : P.funcs[f]? = some fn) (hname : (fn.name == "runtime.NumGoroutine") = false)
 {args : List V} {H : List (Nat × B)} {N : Nat} {r : V} {H' : List (Nat × B)} {N' : Nat} (ha : ∀ x ∈ args,x.Below (Lt N)) (hH : ∀ p ∈ H,p.1 < N ∧ p.2.Below (Lt N)) (hNN : N ≤ N') (hN : N ≤ 64)
 (h : fnK P tab N fn args H 64 fun v h' b=>RetL N N' r H' v h') : LSpec P f args H N r H' N':=by
 obtain ⟨c,hc,hlen,hw0⟩:=Zlq ht hmix hN h
 refine ⟨ha,hH,fun F ids w vals hh hsz hv=>⟨?_,?_⟩⟩
 · simp only [callFunc,Sem.run_bind,run_program,Result.andThen_ok,hf,hname,Bool.false_eq_true,if_false,hc,Option.isNone_some,Sem.run_pure]
 · have hbody':=hc
   have hget : ∀ i,args.length ≤ i → args.getD i .un = .un:=fun i hi=>by simp [List.getD_eq_getElem?_getD,hi]
   have hrep : Rep F ids w ⟨fun i=>args.getD i .un,hAt H,64,fn.ntmps⟩ { tmps:=vals ++ Array.replicate (fn.ntmps - vals.size) undef,defers:=[] }:=by
    refine ⟨hh.nx (Zes hN),fun i=>?_,by simp;omega,fun i hi=>hget i (Nat.le_trans hlen hi),fun i=>?_,.nil⟩
    · show RepV _ _ _ (args.getD i .un) _
      by_cases hi : i < args.length
      · have hx : args[i]? = some args[i]:=by simp [hi]
        have hvi : vals[i]? = some (vals[i]'(by omega)):=by simp [hsz,hi]
        have:=hv i args[i] _ hx hvi
        simp only [List.getD_eq_getElem?_getD,hx,Option.getD_some,Array.getD_eq_getD_getElem?,Array.getElem?_append_left (show i < vals.size by omega),hvi]
        exact this
      · rw [hget i (by omega)];exact .un _
    · show V.Below _ (args.getD i .un)
      by_cases hi : i < args.length
      · have hx : args[i]? = some args[i]:=by simp [hi]
        simp only [List.getD_eq_getElem?_getD,hx,Option.getD_some]
        exact (ha _ (List.getElem_mem hi)).mono (Zes hN)
      · rw [hget i (by omega)];exact .un
   refine ZaS hf hbody' hw0 hrep (fun k s' hq=>False.elim hq.1) ?_
   rintro x s' ids' w' a' ⟨hx',hq⟩ hr' hk
   obtain ⟨y,v,⟨h',eh,_,ρ,hret⟩,k2,k3,k4⟩:=Zas (P:=P) ht hr' fn (fun y=>∃ h',s'.h = hAt h' ∧ N ≤ s'.b ∧ RetL N N' r H' y h') hq
   obtain ⟨g1,hret⟩:=Zd hret
   obtain ⟨g2,hret⟩:=Zd hret
   obtain ⟨hret,g3,g4⟩:=ZcU hret
   obtain ⟨_,g5⟩:=ZcT hret
   have hren0 : Ren (Yi ρ) (hAt h') (hAt H') (Lt N'):=Zcm (ZA g2) g5
   have hren : Ren (Yi ρ) s'.h (hAt H') (Lt N'):=by rw [eh];exact hren0
   have hend : ∃ v,(results fn a'.tmps).run P w' = .ok v w' ∧ ∃ v' ids2,Ending.returned v = .returned v' ∧ Chg F ids w (hAt H) (Lt N) ids2 w' (hAt H') (Lt N') ∧ RepV (Ze F (hAt H') ids2) ids2 w' r v' ∧ r.Below (Lt N'):=by
    refine ⟨v,k2,v,fun n=>ids' (Yi ρ n),rfl,⟨hren.heap hr'.heap,hk.goes,fun b hb x=>hk.live b hb ?_,fun n hn=>by rw [Zep g1 hn];exact hk.ids n hn,fun k hk=>Nat.lt_of_lt_of_le hk hNN⟩,?_,g3⟩
    · obtain ⟨n,c,hn,hcr,hb⟩:=x
      obtain ⟨b',q1,q2,_⟩:=hren.real hn hcr
      exact ⟨_,_,q1,q2,hb⟩
    · have hrh:=hr'.heap
      rw [eh] at k3 hrh
      exact g4.rep hren0 hrh k3
   exact hend
def sgm : List (Option Nat) → Nat → Nat → Nat → Nat
 | [],nm,_,n=>nm + n
 | some x :: _,_,_,0=>x
 | none :: _,nm,i,0=>nm + 32 + i
 | _ :: L,nm,i,n + 1=>sgm L nm (i + 1) n
theorem ZkF {nm : Nat} : ∀ {L : List (Option Nat)} {i n : Nat},L.length ≤ n → sgm L nm i n = nm + (n - L.length)
 | [],i,n,_=>by simp [sgm]
 | some x :: L,i,0,h=>by simp at h
 | none :: L,i,0,h=>by simp at h
 | some x :: L,i,n + 1,h=>by rw [sgm,ZkF (by simpa using h)];simp
 | none :: L,i,n + 1,h=>by rw [sgm,ZkF (by simpa using h)];simp
theorem Zk3 {nm : Nat} : ∀ {L : List (Option Nat)} {i n : Nat},n < L.length → (∃ x,some x ∈ L ∧ sgm L nm i n = x) ∨ sgm L nm i n = nm + 32 + (i + n)
 | [],i,n,h=>by simp at h
 | some x :: L,i,0,h=>.inl ⟨x,by simp,rfl⟩
 | none :: L,i,0,h=>.inr rfl
 | some x :: L,i,n + 1,h=>by
  rcases Zk3 (L:=L) (nm:=nm) (i:=i + 1) (n:=n) (by simpa using h) with ⟨y,h1,h2⟩ | h1
  · exact .inl ⟨y,by simp [h1],h2⟩
  · exact .inr (by rw [sgm,h1];omega)
 | none :: L,i,n + 1,h=>by
  rcases Zk3 (L:=L) (nm:=nm) (i:=i + 1) (n:=n) (by simpa using h) with ⟨y,h1,h2⟩ | h1
  · exact .inl ⟨y,by simp [h1],h2⟩
  · exact .inr (by rw [sgm,h1];omega)
noncomputable def Zq4 (σ : Nat → Nat) (N : Nat) (Z : List Nat) (h : List (Nat × B)) (l : List V) : ZqR:=Zs9 σ (fun n=>Z.contains n) h N l
theorem Zf6 {σ : Nat → Nat} {N : Nat} {Z : List Nat} {h : List (Nat × B)} {l xs : List V} {K : Prop} (hk : Zq4 σ N Z h l xs K) : K ∧ l.length = xs.length ∧ ∀ h2 : Hp,(∀ n ∈ Z,h2 n = hAt h n) → ∀ (i : Nat) (a x : V),l[i]? = some a → xs[i]? = some x → Wk h2 (fun n=>n ∉ Z) σ a x:=by
 obtain ⟨h1,h2,h3⟩:=ZaE ZcU hk
 refine ⟨h1,h2,fun hp hh i a x ha hx=>?_⟩
 have:=(h3 i a x ha hx).2 hp fun n hn=>hh n (by simpa using hn)
 have e : (fun n=>Z.contains n = false) = fun n=>n ∉ Z:=by funext n;simp
 rw [← e];exact this
theorem ZgG : ∀ {Z : List Nat} {h : Hp} {m : Nat} {b : B},Q1 h (Z.map fun z=>(z,none)) m = some b → m ∉ Z ∧ h m = some b
 | [],h,m,b,e=>⟨by simp,e⟩
 | z :: Z,h,m,b,e=>by
  obtain ⟨h1,h2⟩:=ZgG (Z:=Z) (h:=upd h z none) e
  unfold upd at h2
  split at h2
  · cases h2
  · next hne=>exact ⟨by simp [hne,h1],h2⟩
theorem ZbP : ∀ {u v : List (Nat × Option B)} {h : Hp},Q1 h (u ++ v) = Q1 (Q1 h u) v
 | [],v,h=>rfl
 | p :: u,v,h=>ZbP (u:=u)
theorem Zi7 {σ : Nat → Nat} : ∀ {H : List (Nat × B)} {h : Hp} {m : Nat} {b : B},(H.map fun p=>σ p.1).Nodup → Q1 h (H.map fun p=>(σ p.1,some (ZC σ p.2))) m = some b → (∃ p ∈ H,σ p.1 = m ∧ b = ZC σ p.2) ∨ ((∀ p ∈ H,σ p.1 ≠ m) ∧ h m = some b)
 | [],h,m,b,_,e=>.inr ⟨by simp,e⟩
 | z :: Z,h,m,b,hn,e=>by
  rw [List.map_cons,List.nodup_cons] at hn
  rcases Zi7 (H:=Z) (h:=upd h (σ z.1) (some (ZC σ z.2))) hn.2 e with ⟨p,hp,e1,e2⟩ | ⟨h1,h2⟩
  · exact .inl ⟨p,by simp [hp],e1,e2⟩
  · unfold upd at h2
    split at h2
    · next he=>cases h2;exact .inl ⟨z,by simp,he.symm,rfl⟩
    · next hne=>exact .inr ⟨fun p hp=>by rcases List.mem_cons.1 hp with rfl | hp;exact fun e=>hne e.symm;exact h1 p hp,h2⟩
def Zdf (σ : Nat → Nat) (Z : List Nat) (H H' : List (Nat × B)) : List (Nat × Option B):=
 (Z ++ H.map fun p=>σ p.1).map (fun z=>(z,none)) ++ H'.map fun p=>(σ p.1,some (ZC σ p.2))
theorem ZcS : ∀ {l : List (Nat × B)},(l.map Prod.fst).Nodup → ∀ p ∈ l,hAt l p.1 = some p.2
 | [],_,p,hp=>by simp at hp
 | q :: l,hn,p,hp=>by
  rw [List.map_cons,List.nodup_cons] at hn
  simp only [hAt]
  rcases List.mem_cons.1 hp with rfl | hp'
  · rw [show Nat.beq p.1 p.1 = true from Nat.beq_refl _]
  · split
    · next e=>exact absurd (by rw [← Nat.eq_of_beq_eq_true e];exact List.mem_map_of_mem hp') hn.1
    · exact ZcS hn.2 p hp'
theorem LSpec.run {f : FuncId} {args : List V} {H : List (Nat × B)} {r : V} {H' : List (Nat × B)} {N N' : Nat} (hs : LSpec P f args H N r H' N') {h : Hp} {M : Nm} {xs : List V} {nm : Nat} (L : List (Option Nat)) (Z : List Nat)
 (hfresh : ∀ k,nm ≤ k → k < nm + 64 → ¬ M k) (hL : L.length = N) (hLt : ∀ x,some x ∈ L → M x) (hN : N ≤ 32) (hN' : N' ≤ N + 32) (hlen : args.length = xs.length) (hx : ∀ (i : Nat) (a x : V),args[i]? = some a → xs[i]? = some x → Wk h (fun n=>n ∉ Z) (sgm L nm 0) a x)
 (hH : ∀ p ∈ H,((∃ b',h (sgm L nm 0 p.1) = some b' ∧ WkB h (fun n=>n ∉ Z) (sgm L nm 0) p.2 b') ∨ p.2.real = false) ∧ sgm L nm 0 p.1 ∉ Z)
 (hinj : (H.map fun p=>sgm L nm 0 p.1).Nodup) (hinj' : (H'.map fun p=>sgm L nm 0 p.1).Nodup) :
 ACall P f xs h M nm fun v h'=>v = ZZ (sgm L nm 0) r ∧ h' = Q1 h (Zdf (sgm L nm 0) Z H H'):=by
 subst hL
 obtain ⟨ha,hb,hs⟩:=hs
 intro F ids w vals hh hsz hv
 generalize hσ : sgm L nm 0 = σ at *
 have σlt : ∀ n,n < L.length → M (σ n) ∨ σ n = nm + 32 + n:=by
  intro n hn
  subst hσ
  rcases Zk3 (nm:=nm) (i:=0) hn with ⟨x,h1,h2⟩ | h1
  · exact .inl (h2 ▸ hLt x h1)
  · exact .inr (by rw [h1];omega)
 have σge : ∀ n,L.length ≤ n → σ n = nm + (n - L.length):=fun n hn=>hσ ▸ ZkF hn
 let rest : Nat → Prop:=fun m=>(∃ x,h m = some x ∧ x.real = true) ∧ (∀ p ∈ H,σ p.1 ≠ m) ∧ m ∉ Z
 let F' : Nat → Prop:=fun b=>F b ∨ ∃ m,rest m ∧ (ids m).1 = b
 have hHn : ∀ n b,hAt H n = some b → b.real = true → ∃ b',h (σ n) = some b' ∧ b'.real = true ∧ WkB h (fun n=>n ∉ Z) σ b b' ∧ σ n ∉ Z:=fun n b hn hr=>by
  obtain ⟨b',q1,q2⟩:=(hH _ (Z1 hn)).1.resolve_right (by simp [hr])
  exact ⟨b',q1,q2.1.trans hr,q2,(hH _ (Z1 hn)).2⟩
 have hav : ∀ b,Ze F' (hAt H) (fun n=>ids (σ n)) b → Ze F h ids b:=by
  rintro b ((hF | ⟨m,⟨⟨x,hx,hxr⟩,_⟩,hm⟩) | ⟨n,x,hn,hr,hb⟩)
  · exact .inl hF
  · exact .inr ⟨m,x,hx,hxr,hm⟩
  · obtain ⟨b',q1,q2,_⟩:=hHn n x hn hr
    exact .inr ⟨σ n,b',q1,q2,hb⟩
 have hX0 : ∀ n x,h n = some x → x.real = true → ¬ (n ∉ Z) → ¬ Ze F' (hAt H) (fun n=>ids (σ n)) (ids n).1:=by
  intro n x hn hxr hz
  have hz : n ∈ Z:=Classical.not_not.1 hz
  rintro ((hF | ⟨m,⟨⟨x',hx',hxr'⟩,_,hz'⟩,hm⟩) | ⟨m,x',hm,hr',hb⟩)
  · exact hh.out n x hn hxr hF
  · exact hz' (hh.inj _ _ _ _ hx' hn hxr' hxr hm ▸ hz)
  · obtain ⟨b',q1,q2,_,q4⟩:=hHn m x' hm hr'
    have:=hh.inj _ _ _ _ q1 hn q2 hxr hb
    exact q4 (this ▸ hz)
 have ghost : ∀ {A : Nat → Prop} {ids : Nat → Nat × Nat} {w : World} {p : Nat × Nat} {b : B},b.real = false → RepB A ids w p b:=by
  intro A ids w p b hr
  cases b with
  | dat sz rw=>cases rw with
   | nil=>exact ⟨fun h=>absurd rfl h,by simp [leaves]⟩
   | cons _ _=>cases hr
  | _=>cases hr
 have hh0 : RepH F' (fun n=>ids (σ n)) w (hAt H) (Lt L.length):=by
  refine ⟨fun n b hn=>(hb _ (Z1 hn)).1,fun n b hn=>?_,fun n b hn=>(hb _ (Z1 hn)).2,fun n m b c hn hm hbr hcr e=>?_,fun n b hn hbr hF=>?_,fun b hF=>?_⟩
  · cases hbr : b.real with
    | true=>
     obtain ⟨b',q1,_,q3,_⟩:=hHn n b hn hbr
     exact q3.2 F _ ids w M hh hav hX0 _ (hh.blk _ _ q1)
    | false=>exact ghost hbr
  · obtain ⟨b1,q1,q2,_⟩:=hHn n b hn hbr
    obtain ⟨b2,q3,q4,_⟩:=hHn m c hm hcr
    have e2:=hh.inj _ _ _ _ q1 q3 q2 q4 e
    exact congrArg Prod.fst (ZdB (f:=fun p : Nat × B=>σ p.1) hinj _ (Z1 hn) _ (Z1 hm) e2)
  · rcases hF with hF | ⟨m,⟨⟨x,hx,hxr⟩,h1,h2⟩,hm⟩
    · obtain ⟨b1,q1,q2,_⟩:=hHn n b hn hbr
      exact hh.out _ _ q1 q2 hF
    · obtain ⟨b1,q1,q2,_⟩:=hHn n b hn hbr
      have e2:=hh.inj _ _ _ _ hx q1 hxr q2 hm
      exact h1 _ (Z1 hn) e2.symm
  · rcases hF with hF | ⟨m,⟨⟨x,hx,hxr⟩,h1,h2⟩,hm⟩
    · exact hh.fsz b hF
    · exact hh.liveLt ⟨m,x,hx,hxr,hm⟩
 have hvals : ∀ (i : Nat) (x : V) (v : Value),args[i]? = some x → vals[i]? = some v → RepV (Ze F' (hAt H) fun n=>ids (σ n)) (fun n=>ids (σ n)) w x v:=by
  intro i a v hai hvi
  have hi : i < xs.length:=by rw [← hlen];exact (List.getElem?_eq_some_iff.1 hai).1
  have hxi : xs[i]? = some xs[i]:=by simp [hi]
  exact hx i a xs[i] hai hxi F _ ids w M hh hav hX0 v (hv i xs[i] v hxi hvi)
 obtain ⟨c1,c2⟩:=hs F' (fun n=>ids (σ n)) w vals hh0 (by rw [hsz,hlen]) hvals
 refine .inl ⟨c1,c2.mono ?_⟩
 rintro e w' ⟨v,ids1,rfl,hc,hrv,hrb⟩
 let ids2 : Nat → Nat × Nat:=fun m=>if nm ≤ m ∧ m < nm + 32 then ids1 (L.length + (m - nm)) else if nm + 32 ≤ m ∧ m < nm + 64 then ids1 (m - nm - 32) else ids m
 have hold : ∀ m,M m → ids2 m = ids m:=by
  intro m hm
  have : ¬ (nm ≤ m ∧ m < nm + 64):=fun ⟨a,b⟩=>hfresh m a b hm
  show (if _ then _ else if _ then _ else _) = _
  rw [if_neg (by omega),if_neg (by omega)]
 have hi2 : ∀ k,Lt N' k → ids2 (σ k) = ids1 k:=by
  intro k hkN
  have hkN : k < N':=hkN
  by_cases hk : k < L.length
  · rcases σlt k hk with hm | e
    · rw [hold _ hm,hc.ids k hk]
    · show (if _ then _ else if _ then _ else _) = _
      rw [if_neg (by omega),if_pos (by omega),e]
      congr 1;omega
  · have:=σge k (Nat.le_of_not_lt hk)
    show (if _ then _ else if _ then _ else _) = _
    rw [if_pos (by omega),this]
    congr 1;omega
 have hσM : ∀ n,Lt N' n → M (σ n) ∨ (nm ≤ σ n ∧ σ n < nm + 64):=fun n hn=>by
  have hn : n < N':=hn
  by_cases hk : n < L.length
  · rcases σlt n hk with hm | e
    · exact .inl hm
    · exact .inr (by omega)
  · have:=σge n (Nat.le_of_not_lt hk)
    exact .inr (by omega)
 generalize hh2 : Q1 h (Zdf σ Z H H') = h2
 have h2cases : ∀ m b,h2 m = some b → (∃ n c,hAt H' n = some c ∧ σ n = m ∧ b = ZC σ c) ∨ ((∀ p ∈ H,σ p.1 ≠ m) ∧ m ∉ Z ∧ h m = some b):=by
  intro m b hm
  rw [← hh2,Zdf,ZbP] at hm
  rcases Zi7 hinj' hm with ⟨p,hp,e1,e2⟩ | ⟨h1,h3⟩
  · refine .inl ⟨p.1,p.2,ZcS ?_ p hp,e1,e2⟩
    have:=hinj'
    rw [show (fun p : Nat × B=>σ p.1) = σ ∘ Prod.fst from rfl,← List.map_map] at this
    exact List.Pairwise.of_map σ (fun a b hab e=>hab (e ▸ rfl)) this
  · obtain ⟨h4,h5⟩:=ZgG h3
    simp only [List.mem_append,List.mem_map,not_or,not_exists,not_and] at h4
    exact .inr ⟨fun p hp=>h4.2 p hp,h4.1,h5⟩
 have hN'lt : ∀ n c,hAt H' n = some c → Lt N' n:=fun n c hn=>hc.heap.lt n c hn
 have hav2 : ∀ b,Ze F h2 ids2 b → Ze F' (hAt H') ids1 b:=by
  rintro b (hF | ⟨m,x,hm,hxr,hb⟩)
  · exact .inl (.inl hF)
  · rcases h2cases m x hm with ⟨n,c,hn,rfl,rfl⟩ | ⟨h1,h2,hhm⟩
    · exact .inr ⟨n,c,hn,by rw [Yv] at hxr;exact hxr,by rw [← hi2 n (hN'lt n c hn)];exact hb⟩
    · exact .inl (.inr ⟨m,⟨⟨x,hhm,hxr⟩,h1,h2⟩,by rw [← hold m (hh.lt m x hhm)];exact hb⟩)
 have hav3 : ∀ b,b < w.heap.size → Ze F h2 ids2 b → Ze F h ids b:=by
  rintro b hbs (hF | ⟨m,x,hm,hxr,hb⟩)
  · exact .inl hF
  · rcases h2cases m x hm with ⟨n,c,hn,rfl,rfl⟩ | ⟨h1,h2,hhm⟩
    · obtain ⟨n',x',hn',hxr',hb'⟩:=hc.live b hbs ⟨n,c,hn,by rw [Yv] at hxr;exact hxr,by rw [← hi2 n (hN'lt n c hn)];exact hb⟩
      obtain ⟨b1,q1,q2,_⟩:=hHn n' x' hn' hxr'
      exact .inr ⟨σ n',b1,q1,q2,hb'⟩
    · exact .inr ⟨m,x,hhm,hxr,by rw [← hold m (hh.lt m x hhm)];exact hb⟩
 have hgl : Goes (Zbs h ids) w w':=hc.goes.weaken fun b _ ⟨n,x,hn,hr,hb⟩=>by
  obtain ⟨b1,q1,q2,_⟩:=hHn n x hn hr
  exact ⟨σ n,b1,q1,q2,hb⟩
 have hga : Goes (Ze F h ids) w w':=hgl.weaken fun b _ x=>.inr x
 have hrest : ∀ m n x c,(∀ p ∈ H,σ p.1 ≠ m) → m ∉ Z → h m = some x → x.real = true → hAt H' n = some c → c.real = true → (ids m).1 ≠ (ids1 n).1:=fun m n x c h1 h2 hx hxr hn hcr e=>hc.heap.out n c hn hcr (.inr ⟨m,⟨⟨x,hx,hxr⟩,h1,h2⟩,e⟩)
 refine ⟨v,ZZ σ r,h2,ids2,rfl,⟨rfl,hh2.symm ▸ rfl⟩,⟨⟨fun m b hm=>?_,fun m b hm=>?_,fun m b hm=>?_,fun m1 m2 b1 b2 hm1 hm2 hb1 hb2 e=>?_,fun m b hm hbr hF=>?_,fun b hF=>Nat.lt_of_lt_of_le (hh.fsz b hF) hgl.size⟩,hgl,fun b hbs x=>?_,hold,fun k hk=>.inl hk⟩,?_,ZcQ hσM hrb⟩
 · rcases h2cases m b hm with ⟨n,c,hn,rfl,rfl⟩ | ⟨h1,h2,hhm⟩
   · exact hσM n (hN'lt n c hn)
   · exact .inl (hh.lt m b hhm)
 · rcases h2cases m b hm with ⟨n,c,hn,rfl,rfl⟩ | ⟨h1,h2,hhm⟩
   · have:=hc.heap.blk n c hn
     rw [hi2 n (hN'lt n c hn)]
     exact ZoO (fun b _ x=>hav2 b x) hi2 this (hc.heap.below n c hn)
   · have hb1:=hh.blk m b hhm
     rw [hold m (hh.lt m b hhm)]
     refine hb1.mono hga hav3 hold (hh.below m b hhm) fun hbr=>hc.goes.same _ (hb1.lt hbr) ?_
     rintro ⟨n,x,hn,hxr,hb⟩
     obtain ⟨b1,q1,q2,_⟩:=hHn n x hn hxr
     have:=hh.inj _ _ _ _ q1 hhm q2 hbr hb
     exact h1 _ (Z1 hn) this
 · rcases h2cases m b hm with ⟨n,c,hn,rfl,rfl⟩ | ⟨h1,h2,hhm⟩
   · exact ZjU hσM (hc.heap.below n c hn)
   · exact (hh.below m b hhm).mono fun k hk=>.inl hk
 · rcases h2cases m1 b1 hm1 with ⟨n,c,hn,rfl,rfl⟩ | ⟨h1,h2,hhm⟩
   · rw [Yv] at hb1
     rcases h2cases m2 b2 hm2 with ⟨n',c',hn',rfl,rfl⟩ | ⟨h1',h2',hhm'⟩
     · rw [Yv] at hb2
       rw [hi2 n (hN'lt n c hn),hi2 n' (hN'lt n' c' hn')] at e
       rw [hc.heap.inj n n' c c' hn hn' hb1 hb2 e]
     · rw [hi2 n (hN'lt n c hn),hold m2 (hh.lt m2 b2 hhm')] at e
       exact absurd e.symm (hrest m2 n b2 c h1' h2' hhm' hb2 hn hb1)
   · rcases h2cases m2 b2 hm2 with ⟨n',c',hn',rfl,rfl⟩ | ⟨h1',h2',hhm'⟩
     · rw [Yv] at hb2
       rw [hi2 n' (hN'lt n' c' hn'),hold m1 (hh.lt m1 b1 hhm)] at e
       exact absurd e (hrest m1 n' b1 c' h1 h2 hhm hb1 hn' hb2)
     · rw [hold m1 (hh.lt m1 b1 hhm),hold m2 (hh.lt m2 b2 hhm')] at e
       exact hh.inj m1 m2 b1 b2 hhm hhm' hb1 hb2 e
 · rcases h2cases m b hm with ⟨n,c,hn,rfl,rfl⟩ | ⟨h1,h2,hhm⟩
   · rw [hi2 n (hN'lt n c hn)] at hF
     exact hc.heap.out n c hn (by rw [Yv] at hbr;exact hbr) (.inl hF)
   · rw [hold m (hh.lt m b hhm)] at hF
     exact hh.out m b hhm hbr hF
 · rcases hav3 b hbs (.inr x) with hF | hl
   · obtain ⟨m,y,hm,hyr,hb⟩:=x
     rcases h2cases m y hm with ⟨n,c,hn,rfl,rfl⟩ | ⟨h1,h2,hhm⟩
     · rw [hi2 n (hN'lt n c hn)] at hb
       exact absurd (Or.inl (hb ▸ hF)) (hc.heap.out n c hn (by rw [Yv] at hyr;exact hyr))
     · rw [hold m (hh.lt m y hhm)] at hb
       exact absurd (hb ▸ hF) (hh.out m y hhm hyr)
   · exact hl
 · exact ZfW (fun b _ x=>hav2 b x) hi2 hrv hrb
end
set_option linter.unusedVariables false
set_option linter.unusedSimpArgs false
def Zoi (n : Nat) (K : Nat → Prop) : Prop:=
 match n with
 | 0=>K 0
 | m + 1=>ZtM m K
theorem Zaa {n : Nat} {K : Nat → Prop} (h : Zoi n K) : K n:=by
 cases n with
 | zero=>exact h
 | succ m=>exact Zlt h
abbrev ZnY:=(List Nat → Prop) → Prop
def Zpd (x : Nat) (l : List Nat) (ih : ZnY) : ZnY:=fun K=>Zoi x fun x=>ih fun l=>K (x :: l)
noncomputable def Zkb (l : List Nat) : ZnY:=List.rec (motive:=fun _=>ZnY) (fun K=>K []) Zpd l
theorem Zdz : ∀ {l : List Nat} {K : List Nat → Prop},Zkb l K → K l
 | [],_,h=>h
 | x :: l,K,h=>Zdz (l:=l) (K:=fun l=>K (x :: l)) (Zaa (K:=fun x=>Zkb l fun l=>K (x :: l)) h)
noncomputable def Zg4 (σ : Nat → Nat) (H : List (Nat × B)) (K : List Nat → Prop) : Prop:=Zkb (H.map fun p=>σ p.1) K
theorem Zco {σ : Nat → Nat} {H : List (Nat × B)} {K : List Nat → Prop} (h : Zg4 σ H K) : K (H.map fun p=>σ p.1):=Zdz h
def Zha (x : V) (K : V → Prop) : Prop:=
 match x with
 | .sl n sz off len=>Zoi n fun n=>K (.sl n sz off len)
 | .ac n sz len=>Zoi n fun n=>K (.ac n sz len)
 | .sx n sz off len cap=>Zoi n fun n=>K (.sx n sz off len cap)
 | .p n sz i j=>Zoi n fun n=>K (.p n sz i j)
 | .mp n=>Zoi n fun n=>K (.mp n)
 | x=>Zov x K
theorem ZdS {x : V} {K : V → Prop} (h : Zha x K) : K x:=by
 unfold Zha at h
 split at h
 · exact Zaa (K:=fun n=>K (.sl n _ _ _)) h
 · exact Zaa (K:=fun n=>K (.ac n _ _)) h
 · exact Zaa (K:=fun n=>K (.sx n _ _ _ _)) h
 · exact Zaa (K:=fun n=>K (.p n _ _ _)) h
 · exact Zaa (K:=fun n=>K (.mp n)) h
 · exact Zfu h
abbrev ZfB:=(List V → Prop) → Prop
def Zkq (x : V) (l : List V) (ih : ZfB) : ZfB:=fun K=>Zha x fun x=>ih fun l=>K (x :: l)
noncomputable def Za7 (l : List V) : ZfB:=List.rec (motive:=fun _=>ZfB) (fun K=>K []) Zkq l
theorem Qz : ∀ {l : List V} {K : List V → Prop},Za7 l K → K l
 | [],_,h=>h
 | x :: l,K,h=>Qz (l:=l) (K:=fun l=>K (x :: l)) (ZdS (K:=fun x=>Za7 l fun l=>K (x :: l)) h)
def ZqG (x : V) (K : V → Prop) : Prop:=
 match x with
 | .agg xs=>Za7 xs fun xs=>K (.agg xs)
 | .tup xs=>Za7 xs fun xs=>K (.tup xs)
 | .fn f a b=>Za7 a fun a=>Za7 b fun b=>K (.fn f a b)
 | .ifc t x=>Zha x fun x=>K (.ifc t x)
 | x=>Zha x K
theorem ZiP {x : V} {K : V → Prop} (h : ZqG x K) : K x:=by
 unfold ZqG at h
 split at h
 · exact Qz (K:=fun xs=>K (.agg xs)) h
 · exact Qz (K:=fun xs=>K (.tup xs)) h
 · exact Qz (K:=fun b=>K (.fn _ _ b)) (Qz (K:=fun a=>Za7 _ fun b=>K (.fn _ a b)) h)
 · exact ZdS (K:=fun x=>K (.ifc _ x)) h
 · exact ZdS h
abbrev Zje:=(List (List V) → Prop) → Prop
def ZkU (x : List V) (l : List (List V)) (ih : Zje) : Zje:=fun K=>Za7 x fun x=>ih fun l=>K (x :: l)
noncomputable def ZmX (l : List (List V)) : Zje:=List.rec (motive:=fun _=>Zje) (fun K=>K []) ZkU l
theorem ZgV : ∀ {l : List (List V)} {K : List (List V) → Prop},ZmX l K → K l
 | [],_,h=>h
 | x :: l,K,h=>ZgV (l:=l) (K:=fun l=>K (x :: l)) (Qz (K:=fun x=>ZmX l fun l=>K (x :: l)) h)
def blkK (b : B) (K : B → Prop) : Prop:=
 match b with
 | .dat sz r=>K (.dat sz r)
 | .rows sz r=>ZmX r fun r=>K (.rows sz r)
 | .map es=>K (.map es)
theorem Zrg {b : B} {K : B → Prop} (h : blkK b K) : K b:=by
 cases b with
 | rows sz r=>exact ZgV (K:=fun r=>K (.rows sz r)) h
 | _=>exact h
abbrev Zoy:=List (Nat × B) → (List (Nat × B) → Prop) → Prop
def ZpN : Zoy:=fun h K=>K h
def Zrd (p : Nat × Option B) (u : List (Nat × Option B)) (ih : Zoy) : Zoy:=fun h K=>
 Zoi p.1 fun n=>match p.2 with
  | none=>ZlQ h n fun h=>ih h K
  | some b=>blkK b fun b=>Zc2 h n b fun h=>ih h K
noncomputable def Ztj (u : List (Nat × Option B)) : Zoy:=List.rec (motive:=fun _=>Zoy) ZpN Zrd u
theorem ZfH : ∀ {u : List (Nat × Option B)} {h : List (Nat × B)} {K : List (Nat × B) → Prop},Ztj u h K → ∃ l,K l ∧ hAt l = Q1 (hAt h) u
 | [],h,K,hk=>⟨h,hk,rfl⟩
 | (n,none) :: u,h,K,hk=>by
  obtain ⟨h',h1,h2⟩:=ZbR (Zaa (K:=fun n=>ZlQ h n fun h=>Ztj u h K) hk)
  obtain ⟨l,h3,h4⟩:=ZfH h1
  exact ⟨l,h3,by rw [h4,h2];rfl⟩
 | (n,some b) :: u,h,K,hk=>by
  have hk:=Zaa (K:=fun n=>blkK b fun b=>Zc2 h n b fun h=>Ztj u h K) hk
  obtain ⟨h',h1,h2⟩:=ZX (Zrg (K:=fun b=>Zc2 h n b fun h=>Ztj u h K) hk)
  obtain ⟨l,h3,h4⟩:=ZfH h1
  exact ⟨l,h3,by rw [h4,h2];rfl⟩
def ZmI (x : Nat) : Option B → Bool
 | some b=>(ZR b).contains x
 | none=>false
def lOk (L : List (Option Nat)) (xs : List V) (H : List (Nat × B)) (σ : Nat → Nat) (h : List (Nat × B)) (nm : Nat) : Bool:=
 L.all fun o=>match o with
  | some x=>(Zp xs).contains x || ((H.any fun p=>Nat.blt (σ p.1) nm && ZmI x (hAt h (σ p.1))) || H.any fun p=>Nat.beq (σ p.1) x && (Nat.blt (σ p.1) (σ p.1 + 1) && p.2.real))
  | none=>true
noncomputable def Zhz (args : List V) (H : List (Nat × B)) (N : Nat) (r : V) (H' : List (Nat × B)) (N' : Nat) (xs : List V) (h : List (Nat × B)) (nm : Nat) (L : List (Option Nat)) (Z : List Nat) (K : V → List (Nat × B) → Dyn → Prop) : Prop:=
 Zg4 (sgm L nm 0) H fun A=>Zg4 (sgm L nm 0) H' fun A'=>
 okK (Nat.beq L.length N) (okK (Nat.ble N 32) (okK (Nat.ble N' (N + 32)) (okK (lOk L xs H (sgm L nm 0) h nm) (okK (YJ A) (okK (YJ A')
 (okK (A.all fun n=>!Z.contains n) (okK ((A.all fun n=>Nat.blt n nm) || H.all fun p=>Nat.blt (sgm L nm 0 p.1) nm || !p.2.real) (okK (((A ++ A').filter fun n=>Nat.ble nm n).all fun n=>Nat.blt n (nm + 64))
 (Zq4 (sgm L nm 0) N Z h args xs (Zny (sgm L nm 0) (fun n=>Z.contains n) N H h (Ztj (Zdf (sgm L nm 0) Z H H') h fun l=>ZqG (ZZ (sgm L nm 0) r) fun v=>
  YC (Z ++ (A ++ A').filter fun n=>Nat.blt n nm) fun hw=>YC ((A ++ A').filter fun n=>Nat.ble nm n) fun nw=>K v l ⟨[],hw,nw,false⟩)))))))))))
section
variable {P : Program} {tab : Tab}
theorem Below_name {M : Nm} {x : V} (h : x.Below M) : ∀ n ∈ Zc x,M n:=by
 induction h with
 | un=>simp [Zc]
 | c v=>simp [Zc]
 | lst=>simp [Zc]
 | q=>simp [Zc]
 | sl n sz off len h=>simpa [Zc] using h
 | ac n sz len h=>simpa [Zc] using h
 | sx n sz off len cap h=>simpa [Zc] using h
 | p n sz i j h=>simpa [Zc] using h
 | mp n h=>simpa [Zc] using h
 | agg xs h ih=>intro n hn;simp only [Zc] at hn;obtain ⟨x,hx,hn⟩:=ZG.1 hn;exact ih x hx n hn
 | tup xs h ih=>intro n hn;simp only [Zc] at hn;obtain ⟨x,hx,hn⟩:=ZG.1 hn;exact ih x hx n hn
 | fn f a b h h' ih ih'=>
  intro n hn
  simp only [Zc,List.mem_append] at hn
  rcases hn with hn | hn <;> obtain ⟨x,hx,hn⟩:=ZG.1 hn
  · exact ih x hx n hn
  · exact ih' x hx n hn
 | ifc t x h ih=>intro n hn;simp only [Zc] at hn;exact ih n hn
theorem B.Below_name {M : Nm} {b : B} (h : b.Below M) : ∀ n ∈ ZR b,M n:=by
 intro n hn
 cases b with
 | rows sz r=>
  obtain ⟨row,hr,hn⟩:=List.mem_flatMap.1 hn
  obtain ⟨x,hx,hn⟩:=ZG.1 hn
  exact Abs.Below_name (h row hr x hx) n hn
 | dat sz r=>cases hn
 | map es=>
  obtain ⟨e,he,hn⟩:=List.mem_flatMap.1 hn
  exact Abs.Below_name (h e he) n hn
theorem Zho {f : FuncId} {args : List V} {H : List (Nat × B)} {r : V} {H' : List (Nat × B)} {N N' : Nat} (hs : LSpec P f args H N r H' N') {xs : List V} {h : List (Nat × B)} {nm : Nat} {L : List (Option Nat)} {Z : List Nat} {K : V → List (Nat × B) → Dyn → Prop}
 (hk : Zhz args H N r H' N' xs h nm L Z K) : ∃ d u l,d.x = false ∧ LCall P f xs d nm u (ZZ (sgm L nm 0) r) (hAt h) ∧ hAt l = Q1 (hAt h) u ∧ K (ZZ (sgm L nm 0) r) l d:=by
 replace hk:=Zco (Zco (K:=fun A=>Zg4 _ H' fun A'=>_) hk)
 generalize hσ : sgm L nm 0 = σ at *
 obtain ⟨g1,hk⟩:=Zd hk
 obtain ⟨g2,hk⟩:=Zd hk
 obtain ⟨g3,hk⟩:=Zd hk
 obtain ⟨g4,hk⟩:=Zd hk
 obtain ⟨g5,hk⟩:=Zd hk
 obtain ⟨g6,hk⟩:=Zd hk
 obtain ⟨g7,hk⟩:=Zd hk
 obtain ⟨g7',hk⟩:=Zd hk
 obtain ⟨g8,hk⟩:=Zd hk
 obtain ⟨hk,g9,g10⟩:=Zf6 hk
 obtain ⟨hk,g11⟩:=ZcT hk
 obtain ⟨l,hk,g12⟩:=ZfH hk
 replace hk:=ZiP (K:=fun v=>YC _ fun hw=>YC _ fun nw=>K v l ⟨[],hw,nw,false⟩) hk
 replace hk:=Zt (Zt hk)
 refine ⟨_,_,l,rfl,⟨?_,?_,?_⟩,g12,hk⟩
 · intro n hn
   simp only [Zw,Zdf,List.map_append,List.map_map,List.mem_append,List.mem_map,Function.comp] at hn
   simp only [List.mem_append,List.mem_filter,List.mem_map,Nat.blt_eq,Nat.ble_eq]
   by_cases hlt : n < nm
   · rcases hn with (⟨z,hz,rfl⟩ | ⟨p,hp,rfl⟩) | ⟨p,hp,rfl⟩
     · exact .inl (.inl hz)
     · exact .inl (.inr ⟨.inl ⟨p,hp,rfl⟩,hlt⟩)
     · exact .inl (.inr ⟨.inr ⟨p,hp,rfl⟩,hlt⟩)
   · rcases hn with (⟨z,hz,rfl⟩ | ⟨p,hp,rfl⟩) | ⟨p,hp,rfl⟩
     · exact .inl (.inl hz)
     · exact .inr ⟨.inl ⟨p,hp,rfl⟩,by omega⟩
     · exact .inr ⟨.inr ⟨p,hp,rfl⟩,by omega⟩
 · intro n hn
   have h1:=List.all_eq_true.1 g8 n hn
   rw [List.mem_filter] at hn
   exact ⟨Nat.le_of_ble_eq_true hn.2,by simpa using h1⟩
 · intro h2 he M hfresh hbel
   have eZ : ∀ n ∈ Z,h2 n = hAt h n:=fun n hn=>he n (.inr (by simp [hn]))
   have hH : ∀ p ∈ H,((∃ b',h2 (σ p.1) = some b' ∧ WkB h2 (fun n=>n ∉ Z) σ p.2 b') ∨ p.2.real = false) ∧ σ p.1 ∉ Z:=by
    intro p hp
    have h1 : Nat.blt (σ p.1) nm = true ∨ (!p.2.real) = true:=by
     rw [Bool.or_eq_true] at g7'
     rcases g7' with g | g
     · exact .inl (List.all_eq_true.1 g _ (List.mem_map.2 ⟨p,hp,rfl⟩))
     · have:=List.all_eq_true.1 g p hp
       rwa [Bool.or_eq_true] at this
    refine ⟨?_,by simpa using List.all_eq_true.1 g7 _ (List.mem_map.2 ⟨p,hp,rfl⟩)⟩
    rcases h1 with h1 | h1
    · have : h2 (σ p.1) = hAt h (σ p.1):=he _ (.inr (List.mem_append_right _ (List.mem_filter.2 ⟨List.mem_append_left _ (List.mem_map.2 ⟨p,hp,rfl⟩),h1⟩)))
      rw [this]
      rcases (g11 p hp).2.2 with ⟨b',q1,q2⟩ | q1
      · have q3:=q2 h2 fun n hn=>eZ n (by simpa using hn)
        have e : (fun n=>Z.contains n = false) = fun n=>n ∉ Z:=by funext n;simp
        exact .inl ⟨b',q1,by rw [← e];exact q3⟩
      · exact .inr q1
    · exact .inr (by simpa using h1)
   subst hσ
   refine ACall.mono ?_ (fun v h' e=>e)
   intro F ids w vals hh hsz hv
   refine LSpec.run hs L Z hfresh (Nat.eq_of_beq_eq_true g1) ?_ (Nat.le_of_ble_eq_true g2) (Nat.le_of_ble_eq_true g3) g9 ?_ hH (ZA g5) (ZA g6) F ids w vals hh hsz hv
   · intro x hx
     have h1:=List.all_eq_true.1 g4 (some x) hx
     dsimp only at h1
     rw [Bool.or_eq_true] at h1
     rcases h1 with h1 | h1
     · obtain ⟨y,hy,hn⟩:=ZG.1 (by simpa using h1)
       exact Below_name (hbel y hy) x hn
     · rw [Bool.or_eq_true] at h1
       rcases h1 with h1 | h1
       · obtain ⟨p,hp,h1⟩:=List.any_eq_true.1 h1
         rw [Bool.and_eq_true] at h1
         have e2 : h2 (sgm L nm 0 p.1) = hAt h (sgm L nm 0 p.1):=he _ (.inr (List.mem_append_right _ (List.mem_filter.2 ⟨List.mem_append_left _ (List.mem_map.2 ⟨p,hp,rfl⟩),h1.1⟩)))
         revert h1
         cases hb : hAt h (sgm L nm 0 p.1) with
         | none=>intro h1;simp [ZmI] at h1
         | some b=>
          intro h1
          rw [hb] at e2
          exact B.Below_name (hh.below _ _ e2) x (by simpa [ZmI] using h1.2)
       · obtain ⟨p,hp,h1⟩:=List.any_eq_true.1 h1
         simp only [Bool.and_eq_true] at h1
         have hr:=h1.2.2
         obtain ⟨b',this,_⟩:=(hH p hp).1.resolve_right (by simp [hr])
         rw [Nat.eq_of_beq_eq_true h1.1] at this
         exact hh.lt _ _ this
   · exact g10 h2 eZ
theorem Zu {f : FuncId} {args : List V} {H : List (Nat × B)} {r : V} {H' : List (Nat × B)} {N N' : Nat} {xs : List V} {h : List (Nat × B)} {nm : Nat} {K : V → List (Nat × B) → Dyn → Prop} (hs : LSpec P f args H N r H' N') (L : List (Option Nat)) (Z : List Nat)
 (hk : Zhz args H N r H' N' xs h nm L Z K) : DCallB P f xs h nm K:=by
 obtain ⟨d,u,l,h1,h2,h3,h4⟩:=Zho hs hk
 exact ⟨d,_,u,l,h1,h2,h3,h4⟩
theorem Za {f : FuncId} {args : List V} {H : List (Nat × B)} {r : V} {H' : List (Nat × B)} {N N' : Nat} {xs : List V} {h : List (Nat × B)} {nm : Nat} {K : V → List (Nat × B) → Prop} (hs : LSpec P f args H N r H' N') (L : List (Option Nat)) (Z : List Nat)
 (hb : ZdN nm (Zp xs) = true) (hk : Zhz args H N r H' N' xs h nm L Z fun v l d=>K v l) : CallB P f xs h nm K:=by
 obtain ⟨d,u,l,h1,h2,h3,h4⟩:=Zho hs hk
 refine ⟨ACall.mono (h2.run _ (fun _ _=>rfl) (Lt nm) (fun k k1 k2 k3=>?_) (Ym hb)) ?_⟩
 · exact absurd k3 (Nat.not_lt.2 k1)
 · rintro v h' ⟨rfl,rfl⟩
   exact ⟨l,h3.symm,h4⟩
theorem lspec (ht : Zk P tab) (hmix : P.follows .mixedOrders = true) {f : FuncId} {fn : Func} (hf : P.funcs[f]? = some fn) (hname : (fn.name == "runtime.NumGoroutine") = false)
 {args : List V} {H : List (Nat × B)} {N : Nat} {r : V} {H' : List (Nat × B)} {N' : Nat} (ha : ZdN N (Zp args) = true) (hH : (H.all fun p=>Nat.blt p.1 N && ZdN N (ZR p.2)) = true) (hNN : Nat.ble N N' = true) (hN : Nat.ble N 64 = true)
 (h : fnK P tab N fn args H 64 fun v h' b=>RetL N N' r H' v h') : LSpec P f args H N r H' N':=
 LSpec.of ht hmix hf hname (Ym ha) (fun p hp=>by
  have:=List.all_eq_true.1 hH p hp
  rw [Bool.and_eq_true] at this
  exact ⟨by simpa using this.1,Zc8 this.2⟩) (Nat.le_of_ble_eq_true hNN) (Nat.le_of_ble_eq_true hN) h
theorem Qo {h : List (Nat × B)} {v r : V} (hk : Zn0 (fun n=>n) (fun _=>true) h 0 r v True) : RetB h v r:=by
 obtain ⟨_,h1,h2⟩:=ZcU hk
 refine .frz (.sem r v fun F ids w M hh x hx ids'=>?_)
 have h3:=h2 (hAt h) (fun _ _=>rfl) F F ids w M hh (fun _ x=>.inl x) (fun n x hn hxr _=>hh.out n x hn hxr) x hx
 exact h3.mono (Goes.refl F w) (fun _ _ x=>x) (m:=Lt 0) (fun n hn=>absurd hn (Nat.not_lt_zero n)) h1
end
set_option linter.unusedVariables false
set_option linter.unusedSimpArgs false
def ZiH (x : V) : Bool:=
 match Zc x with
 | []=>true
 | _=>false
def Zfv (h : List (Nat × B)) (n sz : Nat) (K : List (List D) → Prop) : Prop:=
 match hAt h n with
 | some (.dat s r)=>okK (Nat.beq s sz) (K r)
 | _=>False
def Zdw (a x : V) (K : Prop) : Prop:=okK (ZiH a) (CB (x = a) K)
def ZiE (h : List (Nat × B)) (sz : Nat) (rows : List (List D)) (x : V) (K : Prop) : Prop:=
 match x with
 | .lst sz' rows' _=>okK (Nat.beq sz' sz) (CB (rows' = rows) K)
 | .c (.slice none 0 0)=>CB (rows = []) K
 | .ac n sz' len=>okK (Nat.beq sz' sz) (Zfv h n sz fun r=>CB (len = r.length ∧ r = rows) K)
 | .sl n sz' off len=>okK (Nat.beq sz' sz) (Zfv h n sz fun r=>CB (off + len ≤ r.length ∧ rows = (r.drop off).take len) K)
 | _=>False
def ZoS (h : List (Nat × B)) (a x : V) (K : Prop) : Prop:=
 match a with
 | .lst sz rows cl=>match cl with
  | false=>ZiE h sz rows x K
  | true=>Zdw (.lst sz rows true) x K
 | .q row j=>match x with
  | .p n sz i j'=>okK (Nat.beq j' j) (match hAt h n with
   | some (.dat s r)=>okK (Nat.beq s sz) (CB (r[i]? = some row) K)
   | some (.rows s r)=>okK (Nat.beq s sz) (okK (row.all D.leaf) (CB (r[i]? = some (row.map D.toV)) K))
   | _=>False)
  | x=>Zdw (.q row j) x K
 | a=>Zdw a x K
abbrev Zew:=List V → Prop → Prop
def ZfL : Zew:=fun xs K=>match xs with
 | []=>K
 | _=>False
def Zds (g : V → V → Prop → Prop) (a : V) (l : List V) (ih : Zew) : Zew:=fun xs K=>match xs with
 | x :: xs=>g a x (ih xs K)
 | []=>False
noncomputable def Zi8 (h : List (Nat × B)) (l : List V) : Zew:=List.rec (motive:=fun _=>Zew) ZfL (Zds (ZoS h)) l
noncomputable def ZqT (h : List (Nat × B)) (a x : V) (K : Prop) : Prop:=
 match a with
 | .agg l=>match x with
  | .agg xs=>Zi8 h l xs K
  | _=>False
 | .fn f a b=>match x with
  | .fn f' a' b'=>CB (f' = f) (Zi8 h a a' (Zi8 h b b' K))
  | _=>False
 | a=>ZoS h a x K
noncomputable def ZnQ (h : List (Nat × B)) (l : List V) : Zew:=List.rec (motive:=fun _=>Zew) ZfL (Zds (ZqT h)) l
theorem Zkn {x : V} (h : ZiH x = true) : x.Below fun _=>False:=by
 unfold ZiH at h
 split at h
 · next e=>exact names_below e _
 · cases h
theorem ZbE {h : List (Nat × B)} {a x : V} {K : Prop} (hk : Zdw a x K) : K ∧ Lend (hAt h) a x:=by
 obtain ⟨e1,hk1⟩:=Zd hk
 obtain ⟨e2,hk2⟩:=hk1
 subst e2
 exact ⟨hk2,.same _ (Zkn e1)⟩
theorem ZeM {h : List (Nat × B)} {n sz : Nat} {K : List (List D) → Prop} (hk : Zfv h n sz K) : ∃ r,hAt h n = some (.dat sz r) ∧ K r:=by
 unfold Zfv at hk
 split at hk
 case h_2=>cases hk
 next s r hr=>
 obtain ⟨e,hk1⟩:=Zd hk
 cases Nat.eq_of_beq_eq_true e
 exact ⟨r,hr,hk1⟩
theorem Zkx {h : List (Nat × B)} {sz : Nat} {rows : List (List D)} {x : V} {K : Prop} (hk : ZiE h sz rows x K) : K ∧ Lend (hAt h) (.lst sz rows false) x:=by
 unfold ZiE at hk
 split at hk
 · obtain ⟨e1,hk⟩:=Zd hk
   obtain ⟨e2,hk1⟩:=hk
   cases Nat.eq_of_beq_eq_true e1
   cases e2
   exact ⟨hk1,.clip _ _ _⟩
 · obtain ⟨e2,hk1⟩:=hk
   subst e2
   exact ⟨hk1,.nil _⟩
 · obtain ⟨e1,hk⟩:=Zd hk
   obtain ⟨r,hr,⟨e2,e3⟩,hk1⟩:=ZeM hk
   cases Nat.eq_of_beq_eq_true e1
   subst e3
   exact ⟨hk1,.ac _ _ _ _ hr e2⟩
 · obtain ⟨e1,hk⟩:=Zd hk
   obtain ⟨r,hr,⟨e2,e3⟩,hk1⟩:=ZeM hk
   cases Nat.eq_of_beq_eq_true e1
   exact ⟨hk1,.sd _ _ _ _ r _ hr e2 e3⟩
 · cases hk
theorem Zdv {h : List (Nat × B)} {a x : V} {K : Prop} (hk : ZoS h a x K) : K ∧ Lend (hAt h) a x:=by
 unfold ZoS at hk
 split at hk
 · next sz rows cl=>
   cases cl with
   | false=>exact Zkx hk
   | true=>exact ZbE hk
 · split at hk
   · obtain ⟨e1,hj⟩:=Zd hk
     clear hk
     cases Nat.eq_of_beq_eq_true e1
     split at hj
     · next s r hr=>
       obtain ⟨e2,hk2⟩:=Zd hj
       obtain ⟨e3,hk1⟩:=hk2
       cases Nat.eq_of_beq_eq_true e2
       exact ⟨hk1,.pd _ _ _ _ r _ hr e3⟩
     · next s r hr=>
       obtain ⟨e2,hk2⟩:=Zd hj
       obtain ⟨e4,hk3⟩:=Zd hk2
       obtain ⟨e3,hk1⟩:=hk3
       cases Nat.eq_of_beq_eq_true e2
       exact ⟨hk1,.p _ _ _ _ r _ hr e3 e4⟩
     · cases hj
   · exact ZbE hk
 · exact ZbE hk
theorem Za6 {h : List (Nat × B)} {g : V → V → Prop → Prop} (hg : ∀ {a x : V} {K : Prop},g a x K → K ∧ Lend (hAt h) a x) : ∀ {l xs : List V} {K : Prop},(List.rec (motive:=fun _=>Zew) ZfL (Zds g) l : Zew) xs K → K ∧ LendL (hAt h) l xs
 | [],[],K,hk=>⟨hk,trivial⟩
 | a :: l,x :: xs,K,hk=>by
  obtain ⟨hk,h1⟩:=hg (K:=(List.rec (motive:=fun _=>Zew) ZfL (Zds g) l : Zew) xs K) hk
  obtain ⟨h2,h3⟩:=Za6 hg hk
  exact ⟨h2,h1,h3⟩
 | [],_ :: _,K,hk=>by cases hk
 | _ :: _,[],K,hk=>by cases hk
theorem Zpp {h : List (Nat × B)} {a x : V} {K : Prop} (hk : ZqT h a x K) : K ∧ Lend (hAt h) a x:=by
 unfold ZqT at hk
 split at hk
 · split at hk
   · obtain ⟨h1,h2⟩:=Za6 Zdv hk
     exact ⟨h1,.agg _ _ h2.length fun i x y hx hy=>h2.at i x y hx hy⟩
   · cases hk
 · split at hk
   · obtain ⟨e,hk⟩:=hk
     subst e
     obtain ⟨hk,h2⟩:=Za6 Zdv (K:=Zi8 h _ _ K) hk
     obtain ⟨h1,h3⟩:=Za6 Zdv hk
     exact ⟨h1,.fn _ _ _ _ _ h2.length h3.length (fun i x y hx hy=>h2.at i x y hx hy) fun i x y hx hy=>h3.at i x y hx hy⟩
   · cases hk
 · exact Zdv hk
theorem ZfJ {h : List (Nat × B)} {l xs : List V} {K : Prop} (hk : ZnQ h l xs K) : K ∧ LendL (hAt h) l xs:=Za6 Zpp hk
section
variable {P : Program} {tab : Tab}
theorem PSpec.as {f : FuncId} {args xs : List V} {r : V} (hs : PSpec P f args r) (hl : LendL (hAt []) args xs) (hb : ∀ x ∈ xs,x.Below fun _=>False) : PSpec P f xs r:=by
 obtain ⟨h1,h2,h3⟩:=hs
 refine ⟨hb,h2,fun F ids w vals hF hsz hv=>h3 F ids w vals hF (by rw [hsz,hl.length]) fun i d v hd hvi=>?_⟩
 have hh : RepH F ids w (hAt []) (Lt 0):=⟨by simp [hAt],by simp [hAt],by simp [hAt],by simp [hAt],by simp [hAt],hF⟩
 have hi : i < xs.length:=by rw [← hl.length];exact (List.getElem?_eq_some_iff.1 hd).1
 have hr:=hv i xs[i] v (by simp [hi]) hvi
 refine (hl.at i d xs[i] hd (by simp [hi])).sound hh (hr.sub fun b x=>?_)
 rcases x with x | ⟨n,y,hn,_⟩
 · exact x
 · cases hn
def Zcf (xs : List V) : Bool:=
 match Zp xs with
 | []=>true
 | _=>false
theorem Zd8 {xs : List V} (h : Zcf xs = true) : ∀ x ∈ xs,x.Below fun _=>False:=by
 unfold Zcf at h
 split at h
 · next e=>exact names_below.names_below' e _
 · cases h
theorem Zs5 {f : FuncId} {args xs : List V} {h : List (Nat × B)} {b : Nat} {K : V → List (Nat × B) → Prop} {r : V} (hs : PSpec P f args r) (k : okK (Zcf xs) (ZnQ [] args xs (K r h))) : CallB P f xs h b K:=by
 obtain ⟨e,k⟩:=Zd k
 obtain ⟨k,hl⟩:=ZfJ k
 exact Zh (hs.as hl (Zd8 e)) k
theorem Znd {f : FuncId} {args xs : List V} {h : List (Nat × B)} {b : Nat} {K : V → List (Nat × B) → Dyn → Prop} {r : V} (hs : PSpec P f args r) (k : okK (Zcf xs) (ZnQ [] args xs (K r h ⟨[],[],[],false⟩))) : DCallB P f xs h b K:=by
 obtain ⟨e,k⟩:=Zd k
 obtain ⟨k,hl⟩:=ZfJ k
 have hn : Zp xs = []:=by
  unfold Zcf at e
  split at e
  · assumption
  · cases e
 exact Zn (hs.as hl (Zd8 e)) (by rw [hn];exact k)
theorem Zqw {f : FuncId} {args xs : List V} {h : List (Nat × B)} {b : Nat} {K : V → List (Nat × B) → Prop} {r : V} (hs : PSpecN P f args r) (k : ZnQ h args xs (K r h)) : CallB P f xs h b K:=by
 obtain ⟨k,hl⟩:=ZfJ k
 exact ZjW _ hs hl k
end
set_option linter.unusedVariables false
set_option linter.unusedSimpArgs false
section
variable {P : Program} {tab : Tab}
theorem AOp.ok {op : Op} {e : Operand → V} {h : Hp} {M : Nm} {nm : Nat} {K : V → Hp → Prop}
 (hok : ∀ (F : Nat → Prop) (ids : Nat → Nat × Nat) (w : World) (a : Act) (o : Oper),o.op = op → RepH F ids w h M → (∀ x ∈ op.operands.toList,RepV (Ze F h ids) ids w (e x) (a.eval x)) → (∀ x ∈ op.operands.toList,(e x).Below M) →
  ∃ v h',K v h' ∧ OpOk F ids w h M ((execOp a.eval o).run P w) v h' (M.add nm)) : AOp P op e h M nm K:=by
 intro F ids w a o ho hh h1 h2 next Q hn
 obtain ⟨v,h',hK,val,w',ids',hrun,hc,hv,hb⟩:=hok F ids w a o ho hh h1 h2
 have hadd : (M.add nm).le (M.call nm):=by rintro k (hk | rfl);exact .inl hk;exact .inr ⟨Nat.le_refl _,by omega⟩
 have:=hn v h' ids' w' val hK (hc.trans (Chg.skip hc.heap hadd)) hv (hb.mono hadd)
 unfold Oper.wp
 rcases hrun with hrun | ⟨hrun,rfl⟩
 · rw [hrun];exact this
 · rw [hrun];exact this
theorem Zcx {A : Nat → Prop} {ids : Nat → Nat × Nat} {w : World} {k : IntKind} {n : Int} {v : Value} (h : RepV A ids w (.c (.int k n)) v) : v = .int k n:=by cases h;rfl
inductive ZeroRow : List Value → List D → Prop
 | nil : ZeroRow [] []
 | c (v : Value) {vs : List Value} {ds : List D} (h1 : v.oneCell' = true) (h : ZeroRow vs ds) : ZeroRow (v :: vs) (.c v :: ds)
 | sl (sz : Nat) {vs : List Value} {ds : List D} (h : ZeroRow vs ds) : ZeroRow (.slice none 0 0 :: vs) (.lst sz [] :: ds)
theorem ZeroRow.get {vs : List Value} {ds : List D} (h : ZeroRow vs ds) : ds.length = vs.length ∧ ds.all D.leaf = true ∧ ∀ (A : Nat → Prop) (w : World) (i : Nat) (v : Value) (d : D),vs[i]? = some v → ds[i]? = some d → RepD A w d v:=by
 induction h with
 | nil=>exact ⟨rfl,rfl,by simp⟩
 | c v h1 h ih=>
  obtain ⟨e1,e2,e3⟩:=ih
  refine ⟨by simp [e1],by simp [e2,D.leaf,h1],fun A w i u d hu hd=>?_⟩
  cases i with
  | zero=>simp at hu hd;subst hu;subst hd;exact .c _ h1
  | succ i=>exact e3 A w i u d (by simpa using hu) (by simpa using hd)
 | sl sz h ih=>
  obtain ⟨e1,e2,e3⟩:=ih
  refine ⟨by simp [e1],by simp [e2,D.leaf],fun A w i u d hu hd=>?_⟩
  cases i with
  | zero=>simp at hu hd;subst hu;subst hd;exact .emp _ _ _
  | succ i=>exact e3 A w i u d (by simpa using hu) (by simpa using hd)
theorem Zcu (ht : Zk P tab) {M : Nm} {nm : Nat} (hfresh : ¬ M nm) {ty : TypeId} {l c : Operand} {e : Operand → V} {h : Hp} {K : V → Hp → Prop} {ε : Ty} (hε : Zy tab ty = some ε) {n : Nat} (hl : e l = V.int n) (hc : e c = V.int n)
 (hn : n < 2147483648) (hby : ε.bytes ≤ 4096) {zr : List D} (hz : ZeroRow ε.zero zr) (hK : K (.ac nm ε.size n) (upd h nm (some (.dat ε.size (List.replicate n zr))))) : AOp P (.makeSlice ty l c) e h M nm K:=by
 refine AOp.ok fun F ids w a o ho hh h1 h2=>⟨_,_,hK,?_⟩
 obtain ⟨et,hd,hte⟩:=Q5 ht hε
 have el : a.eval l = .int .i64 n:=by have:=h1 l (by simp [Op.operands]);rw [hl] at this;exact Zcx this
 have ec : a.eval c = .int .i64 n:=by have:=h1 c (by simp [Op.operands]);rw [hc] at this;exact Zcx this
 obtain ⟨i,hi1,hi2⟩:=hte.typeInfo w
 obtain ⟨z,hz1,hz2⟩:=hte.zero w
 have hzl:=hte.zlen
 obtain ⟨zl,zlf,zrep⟩:=hz.get
 let zc : Array Value:=if n * ε.size = 0 then #[] else z.cells
 obtain ⟨arr,harr⟩ : ∃ arr,arr = (Array.range (n * ε.size)).map (zc[· % zc.size]!):=⟨_,rfl⟩
 have hbig : i.bytes * n ≤ 8796093022208:=Nat.le_trans (Nat.mul_le_mul (show i.bytes ≤ 4096 by omega) (show n ≤ 2147483648 by omega)) (by omega)
 have hbig2 : ((i.bytes : Int) * n) ≤ 8796093022208:=by rw [← Int.natCast_mul];omega
 have hwr : IntKind.i64.wrap (n : Int) = n:=by rw [IntKind.wrap_i64];omega
 have hrun : (execOp a.eval o).run P w = .ok (.value (.slice (some ⟨w.heap.size,0,none⟩) n n)) (w.alloc (.cells arr et)):=by
  have hlarge2 : ¬ ((n : Int) < 0):=by omega
  have hlarge3 : ¬ (281474976710656 < ((i.bytes : Int) * n)):=by omega
  by_cases h0 : n * ε.size = 0
  · have hz0 : zc = #[]:=if_pos h0
    rw [harr,hz0]
    simp [execOp,ho,el,ec,Instr.makeSlice,hd,asInt,asIntOf,hi1,hwr,hlarge2,hlarge3,hte.sizeOf,h0,newRow]
  · have hz0 : zc = z.cells:=if_neg h0
    rw [harr,hz0]
    simp [execOp,ho,el,ec,Instr.makeSlice,hd,asInt,asIntOf,hi1,hwr,hlarge2,hlarge3,hte.sizeOf,h0,hz1,newRow]
 have hasz : arr.size = n * ε.size:=by rw [harr];simp
 have hcell : ∀ i j d,i < n → zr[j]? = some d → ∃ v,arr[i * ε.size + j]? = some v ∧ ∀ A w,RepD A w d v:=by
  intro i j d hi hj
  have hjl : j < ε.size:=by rw [← hzl,← zl];exact (List.getElem?_eq_some_iff.1 hj).1
  have hlt:=ZgN hi hjl
  have hne : n * ε.size ≠ 0:=by omega
  have hzcs : zc = ε.zero.toArray:=by simp only [zc];rw [if_neg hne,hz2]
  have hjz : j < ε.zero.length:=by omega
  have hmod : (i * ε.size + j) % ε.size = j:=by rw [Nat.mul_comm,Nat.mul_add_mod,Nat.mod_eq_of_lt hjl]
  refine ⟨ε.zero[j],?_,fun A w=>zrep A w j _ d (by simp [hjz]) hj⟩
  rw [harr,Array.getElem?_map,Array.getElem?_range,if_pos hlt,hzcs]
  simp only [Option.map_some,List.size_toArray,hzl,hmod,Option.some.injEq]
  rw [getElem!_pos _ _ (by simpa using hjz)]
  simp
 have hrow : ∀ (i : Nat) (row : List V),(YG (List.replicate n zr))[i]? = some row → i < n ∧ row = zr.map D.toV:=by
  intro i row hi
  rw [Y7,List.getElem?_replicate] at hi
  split at hi
  · next hlt=>simp at hi;exact ⟨hlt,hi.symm⟩
  · cases hi
 have hchg:=Chg.new hh hfresh (.cells arr et) (.dat ε.size (List.replicate n zr)) trivial fun ids' A _ _=>by
  refine ⟨fun _=>⟨arr,et,Yx _ _,by simp [Zo,hasz],fun row hr=>?_,fun i row j x hi hj=>?_⟩,fun row hr=>?_⟩
  · obtain ⟨k,hk⟩:=List.getElem?_of_mem hr
    rw [(hrow k row hk).2,List.length_map,zl,hzl]
  · obtain ⟨hlt,rfl⟩:=hrow i row hi
    rw [List.getElem?_map,Option.map_eq_some_iff] at hj
    obtain ⟨d,hj,rfl⟩:=hj
    obtain ⟨v,hv,hrep⟩:=hcell i j d hlt hj
    exact ⟨v,by simpa using hv,(hrep A _).toV⟩
  · rw [List.eq_of_mem_replicate hr];exact zlf
 refine OpOk.made hchg hrun ?_ (.ac _ _ _ (.inr rfl))
 by_cases h0 : n = 0
 · subst h0;exact .ac0 _ _ _
 · refine .ac1 _ _ _ _ h0 (.sl _ _ _ _ _ _ (Nat.le_refl _) fun _=>⟨arr,et,?_,?_,?_⟩)
   · rw [Zb];exact Yx _ _
   · rw [Zb];simp
   · rw [Zb,hasz];simp
theorem Zoz (ht : Zk P tab) {ty : TypeId} {l c : Operand} {t : List V} {h : List (Nat × B)} {b : Nat} {K : V → List (Nat × B) → Prop} (n : Nat) (zr : List D) (ε : Ty) (hε : Zy tab ty = some ε) (hz : ZeroRow ε.zero zr) (hl : evS (tAt t) l = V.int n) (hc : evS (tAt t) c = V.int n)
 (hn : n < 2147483648) (hby : Nat.ble ε.bytes 4096 = true) (k : Zc2 h b (.dat ε.size (List.replicate n zr)) fun h=>K (.ac b ε.size n) h) : OpB P (.makeSlice ty l c) t h b K:=by
 obtain ⟨l',hk,e⟩:=ZX k
 exact ⟨Zcu (M:=Lt b) ht (Nat.lt_irrefl b) (K:=fun v h'=>∃ l,h' = hAt l ∧ K v l) hε hl hc hn (Nat.le_of_ble_eq_true hby) hz ⟨l',e.symm,hk⟩⟩
inductive CopySrc (h : Hp) (sz k : Nat) : V → Nat → List (List D) → Prop
 | lst (rows : List (List D)) (cl : Bool) (hk : k ≤ rows.length) : CopySrc h sz k (.lst sz rows cl) rows.length (rows.take k)
 | sl (n off len : Nat) (r : List (List D)) (hn : h n = some (.dat sz r)) (hr : r ≠ []) (hk : k ≤ len) (hl : off + k ≤ r.length) : CopySrc h sz k (.sl n sz off len) len ((r.drop off).take k)
 | sx (n off len cap : Nat) (r : List (List D)) (hn : h n = some (.dat sz r)) (hr : r ≠ []) (hk : k ≤ len) (hl : off + k ≤ r.length) : CopySrc h sz k (.sx n sz off len cap) len ((r.drop off).take k)
theorem CopySrc.sizes {h : Hp} {sz k m : Nat} {x : V} {src : List (List D)} (hs : CopySrc h sz k x m src) : src.length = k ∧ k ≤ m:=by
 cases hs with
 | lst rows cl hk=>exact ⟨by simp [hk],hk⟩
 | sl n off len r hn hr hk hl=>exact ⟨by simp;omega,hk⟩
 | sx n off len cap r hn hr hk hl=>exact ⟨by simp;omega,hk⟩
theorem ZbC (size k : Nat) (ad : Option Addr) (l l' c c' : Nat) : Builtin.firstCells size k (.slice ad l c) = Builtin.firstCells size k (.slice ad l' c'):=by cases ad <;> rfl
theorem RepR.first {A : Nat → Prop} {ids : Nat → Nat × Nat} {w : World} {p : Nat × Nat} {sz off k len cap : Nat} {r : List (List V)} {ad : Option Addr} (h : RepR A ids w p sz r) (hk : k ≤ cap) (hr : off + k ≤ r.length)
 (ha : cap ≠ 0 → ad = some ⟨p.1,p.2 + off * sz,none⟩) : ∃ arr,(Builtin.firstCells sz k (.slice ad len cap)).run P w = .ok arr w ∧ StandsR A ids w sz ((r.drop off).take k) arr:=by
 obtain ⟨a,c,e,hc,arr,h1,h2⟩:=RepR.reads (P:=P) h hk hr ha
 have hl : ((r.drop off).take k).length = k:=by simp;omega
 refine ⟨arr,?_,h2⟩
 rw [hl] at h1
 rw [ZbC sz k ad len k cap cap];exact h1
theorem CopySrc.sound {F : Nat → Prop} {ids : Nat → Nat × Nat} {w : World} {h : Hp} {nx : Nm} (hh : RepH F ids w h nx) {sz k m : Nat} {x : V} {src : List (List D)} (hs : CopySrc h sz k x m src) {v : Value} (hx : RepV (Ze F h ids) ids w x v) :
 ∃ a c,v = .slice a m c ∧ ∃ arr,(Builtin.firstCells sz k v).run P w = .ok arr w ∧ StandsR (Ze F h ids) ids w sz (YG src) arr:=by
 cases hs with
 | lst rows cl hk=>
  cases hx with
  | lst _ _ _ _ hd _=>
   have h2 : ∃ a c,v = .slice a rows.length c ∧ rows.length ≤ c:=by
    obtain ⟨a,c,e,hc,_⟩:=hd.reads (P:=P) (A:=Ze F h ids) (ids:=ids)
    exact ⟨a,c,by rw [e,Zo],by simpa [Zo] using hc⟩
   obtain ⟨a,c,e,hc⟩:=h2
   subst e
   refine ⟨a,c,rfl,?_⟩
   have hd' : RepD (Ze F h ids) w (.lst sz (rows.take k)) (.slice a k c):=by
    cases hd with
    | emp=>simp at hk;subst hk;simpa using RepD.emp sz a c
    | lst _ _ b o cap cell hcap hb hA hw hcell hdd=>
     have hl : (rows.take k).length = k:=by simp [hk]
     have:=RepD.lst (A:=Ze F h ids) (w:=w) sz (rows.take k) b o c cell (by omega) hb hA (fun row hr=>hw row (List.mem_of_mem_take hr)) (fun i row j d hi hj=>by
      have hlt : i < k:=by have:=(List.getElem?_eq_some_iff.1 hi).1;omega
      rw [List.getElem?_take_of_lt hlt] at hi
      exact hcell i row j d hi hj) (fun i row j d hi hj=>by
      have hlt : i < k:=by have:=(List.getElem?_eq_some_iff.1 hi).1;omega
      rw [List.getElem?_take_of_lt hlt] at hi
      exact hdd i row j d hi hj)
     rw [hl] at this
     exact this
   obtain ⟨_,_,_,_,arr,h1,h2⟩:=hd'.reads (P:=P) (A:=Ze F h ids) (ids:=ids)
   refine ⟨arr,?_,h2⟩
   rw [Zo,List.length_take,Nat.min_eq_left hk] at h1
   rw [ZbC sz k a _ k c c];exact h1
 | sl n off len r hn hr hk hl=>
  cases hx with
  | sl _ _ _ _ cap ad hlc hc=>
   refine ⟨ad,cap,rfl,?_⟩
   obtain ⟨arr,h1,h2⟩:=RepR.first (P:=P) (len:=m) ((hh.blk n _ hn).1 hr) (off:=off) (k:=k) (cap:=cap) (by omega) (by rw [Zo];exact hl) fun h0=>by obtain ⟨_,_,_,h3,_⟩:=hc h0;exact h3
   exact ⟨arr,h1,by rw [Zcn];exact h2⟩
 | sx n off len cap r hn hr hk hl=>
  cases hx with
  | sx _ _ _ _ _ ad hlc hc=>
   refine ⟨ad,cap,rfl,?_⟩
   obtain ⟨arr,h1,h2⟩:=RepR.first (P:=P) (len:=m) ((hh.blk n _ hn).1 hr) (off:=off) (k:=k) (cap:=cap) (by omega) (by rw [Zo];exact hl) fun h0=>by obtain ⟨_,_,_,h3,_⟩:=hc h0;exact h3
   exact ⟨arr,h1,by rw [Zcn];exact h2⟩
theorem CopySrc.leaves {F : Nat → Prop} {ids : Nat → Nat × Nat} {w : World} {h : Hp} {nx : Nm} (hh : RepH F ids w h nx) {sz k m : Nat} {x : V} {src : List (List D)} (hs : CopySrc h sz k x m src) {v : Value} (hx : RepV (Ze F h ids) ids w x v) : leaves src:=by
 cases hs with
 | lst rows cl hk=>
  cases hx with
  | lst _ _ _ _ hd _=>exact fun row hr=>hd.leaves row (List.mem_of_mem_take hr)
 | sl n off len r hn hr hk hl=>exact Zan (hh.blk n _ hn).2 _ _
 | sx n off len cap r hn hr hk hl=>exact Zan (hh.blk n _ hn).2 _ _
theorem ZiS (ht : Zk P tab) {M : Nm} {nm : Nat} {d s : Operand} {dT sT : TypeId} {e : Operand → V} {h : Hp} {K : V → Hp → Prop} {ε : Ty} (hε : Zy tab dT = some ε) {n off len m k : Nat} {r src : List (List D)}
 (hd : e d = .sl n ε.size off len) (hn : h n = some (.dat ε.size r)) (hr : r ≠ []) (ho : off ≤ r.length) (hk : k = min m len) (hs : CopySrc h ε.size k (e s) m src)
 (hK : K (V.int k) (upd h n (some (.dat ε.size (r.take off ++ (src ++ r.drop (off + k))))))) : AOp P (.call ⟨.builtin .copy,#[d,s],#[dT,sT]⟩) e h M nm K:=by
 refine AOp.ok fun F ids w a o hop hh h1 h2=>⟨_,_,hK,?_⟩
 obtain ⟨et,hdt,hte⟩:=Q5 ht hε
 have hdv:=h1 d (by simp [Op.operands,Call.operands]);rw [hd] at hdv
 have hsv:=h1 s (by simp [Op.operands,Call.operands])
 obtain ⟨sl1,sl2⟩:=hs.sizes
 have hlv:=hs.leaves hh hsv
 obtain ⟨sa,sc,hse,arr,harr,hst⟩:=hs.sound (P:=P) hh hsv
 generalize hsq : a.eval s = sv at *
 subst hse
 generalize hdq : a.eval d = dv at *
 cases hdv with
 | sl _ _ _ _ cap ad hlc hc=>
 obtain ⟨arr0,T0,hb0,hsz0,hwid,hcell⟩:=(hh.blk n _ hn).1 hr
 have hreal : (B.dat ε.size r).real = true:=QX hr
 have hlt:=(Array.getElem?_eq_some_iff.1 hb0).1
 have hkl : k ≤ len:=by omega
 have hroom : (ids n).2 + off * ε.size + arr.toList.length ≤ arr0.size:=by
  simp only [Array.length_toList,hst.len,Zo,sl1]
  by_cases h0 : k = 0
  · subst h0
    have : off * ε.size ≤ (YG r).length * ε.size:=Nat.mul_le_mul_right _ (by rw [Zo];exact ho)
    omega
  · obtain ⟨arr1,T1,g1,_,g3⟩:=hc (by omega)
    rw [hb0] at g1;cases g1
    have : (off + k) * ε.size ≤ (off + cap) * ε.size:=Nat.mul_le_mul_right _ (by omega)
    rw [Nat.add_mul] at this
    omega
 obtain ⟨arr',harr'⟩ : ∃ x,x = splice arr0 ((ids n).2 + off * ε.size) arr.toList:=⟨_,rfl⟩
 have hsz' : arr'.size = arr0.size:=by rw [harr'];exact Y5 _ _ _
 have hget : ∀ j,arr'[j]? = if (ids n).2 + off * ε.size ≤ j ∧ j < (ids n).2 + off * ε.size + arr.toList.length then arr.toList[j - ((ids n).2 + off * ε.size)]? else arr0[j]?:=by
  intro j;rw [harr'];exact Zbj _ _ _ _ hroom
 have hput : arr.toList = [] → World.put w (ids n).1 (.cells arr' T0 (0,0)) = w:=fun hz=>by
  have : arr' = arr0:=by rw [harr',hz];rfl
  rw [this];exact Zjd hb0
 have hone : ∀ v ∈ arr.toList,v.oneCell' = true:=hst.oneCells (YV hlv)
 have hstore : (ZnB ad 0 arr.toList).run P w = .ok () (World.put w (ids n).1 (.cells arr' T0 (0,0))):=by
  by_cases hz : arr.toList = []
  · rw [hput hz]
    cases ad <;> simp only [ZnB,hz,storeCells] <;> rfl
  · have hpos : 0 < k * ε.size:=by
     have:=hst.len
     rw [Zo,sl1] at this
     rw [← this];exact Nat.pos_of_ne_zero fun e=>hz (by simpa using Array.eq_empty_of_size_eq_zero e)
    have hkp : 0 < k:=Nat.pos_of_ne_zero fun e=>by rw [e] at hpos;simp at hpos
    obtain ⟨_,_,_,rfl,_⟩:=hc (by omega)
    have hrun2:=Q6 P (ids n).1 T0 arr.toList hone w ((ids n).2 + off * ε.size) 0 arr0 hb0 (by omega)
    rw [if_neg hz] at hrun2
    simp only [ZnB,Z8]
    rw [harr']
    exact hrun2
 have hrun : (execOp a.eval o).run P w = .ok (.value (.int .i64 k)) (World.put w (ids n).1 (.cells arr' T0 (0,0))):=by
  have hmin : Nat.min m len = k:=hk.symm
  cases ad with
  | none=>
   have e : World.put w (ids n).1 (.cells arr' T0 (0,0)) = w:=by simp only [ZnB,Sem.run_pure,Result.ok.injEq,true_and] at hstore;exact hstore.symm
   rw [e]
   simp [execOp,hop,resolve,invoke,builtin,hdq,hsq,Builtin.copy_,hdt,Builtin.lenOf,hmin,hte.sizeOf,harr,goInt]
  | some b=>
   have e : (storeCells b arr.toList).run P w = .ok () (World.put w (ids n).1 (.cells arr' T0 (0,0))):=by
    simp only [ZnB] at hstore
    rw [← hstore]
    congr 2
   simp [execOp,hop,resolve,invoke,builtin,hdq,hsq,Builtin.copy_,hdt,Builtin.lenOf,hmin,hte.sizeOf,harr,goInt,e]
 have hgo : Goes (Ze F h ids) w (World.put w (ids n).1 (.cells arr' T0 (0,0))):=by
  refine ⟨Nat.le_of_eq (Zbk _ _ _).symm,fun c _ hc=>Zz _ _ _ _ fun e=>hc (.inr ⟨n,_,hn,hreal,e.symm⟩),fun c arr1 T1 fz hc=>?_,fun c es k hc=>?_,⟨rfl,rfl⟩,fun a=>?_⟩
  · by_cases e : c = (ids n).1
    · subst e
      rw [hb0] at hc;cases hc
      exact ⟨_,ZQ _ _ _ hlt,hsz'⟩
    · exact ⟨arr1,by rw [Zz _ _ _ _ e];exact hc,rfl⟩
  · by_cases e : c = (ids n).1
    · subst e;rw [hb0] at hc;cases hc
    · exact ⟨es,k,by rw [Zz _ _ _ _ e];exact hc⟩
  · by_cases e : a.block = (ids n).1
    · exact QP (by rw [e];exact hb0) (by rw [e,ZQ _ _ _ hlt])
    · exact YZ (Zz _ _ _ _ e)
 have hbr : ∀ row ∈ YG r,∀ x ∈ row,x.Below M:=ZJ M r
 have hbs : ∀ row ∈ YG src,∀ x ∈ row,x.Below M:=ZJ M src
 have hsl : (YG src).length = k:=by rw [Zo,sl1]
 have hchg:=Chg.write (b':=.dat ε.size (r.take off ++ (src ++ r.drop (off + k)))) hh hn hreal (.cells arr0 T0 (0,0)) (.cells arr' T0 (0,0)) hb0 (fun arr T fz e=>by cases e;exact ⟨_,rfl,hsz'⟩) (fun es k e=>by cases e) trivial fun A hA=>by
  refine ⟨fun _=>⟨arr',T0,ZQ _ _ _ hlt,?_,fun row hrow=>?_,fun i row j x hi hj=>?_⟩,?_⟩
  · rw [hsz',Zo]
    simp only [List.length_append,List.length_take,List.length_drop,sl1,Nat.min_eq_left ho]
    rw [Zo] at hsz0
    simp only [Array.length_toList,hst.len,hsl] at hroom
    by_cases hc1 : off + k ≤ r.length
    · rw [show off + (k + (r.length - (off + k))) = r.length by omega];exact hsz0
    · rw [show off + (k + (r.length - (off + k))) = off + k by omega,Nat.add_mul];omega
  · rw [QR,QR] at hrow
    rcases List.mem_append.1 hrow with hrow | hrow
    · exact hwid row (by unfold YG at hrow ⊢;rw [List.map_take] at hrow;exact List.mem_of_mem_take hrow)
    · rcases List.mem_append.1 hrow with hrow | hrow
      · exact hst.wid row hrow
      · exact hwid row (by unfold YG at hrow ⊢;rw [List.map_drop] at hrow;exact List.mem_of_mem_drop hrow)
  · have hjr : j < row.length:=(List.getElem?_eq_some_iff.1 hj).1
    have old : (YG r)[i]? = some row → (i < off ∨ off + k ≤ i) → ∃ v,arr'[(ids n).2 + (i * ε.size + j)]? = some v ∧ RepV A ids (World.put w (ids n).1 (.cells arr' T0 (0,0))) x v:=by
     intro hi hio
     have hjs : j < ε.size:=by rw [← hwid row (List.mem_of_getElem? hi)];exact hjr
     obtain ⟨v,hv,hrep⟩:=hcell i row j x hi hj
     refine ⟨v,?_,hrep.mono hgo hA (fun _ _=>rfl) (hbr row (List.mem_of_getElem? hi) x (List.mem_of_getElem? hj))⟩
     rw [hget,if_neg]
     · exact hv
     · simp only [Array.length_toList,hst.len,hsl]
       rcases hio with hio | hio
       · have:=ZgN (n:=off) hio hjs;omega
       · have : (off + k) * ε.size ≤ i * ε.size:=Nat.mul_le_mul_right _ hio
         rw [Nat.add_mul] at this;omega
    rw [QR,QR] at hi
    have hto : (YG (r.take off)).length = off:=by rw [Zo,List.length_take];omega
    by_cases c1 : i < off
    · rw [List.getElem?_append_left (by omega)] at hi
      refine old ?_ (.inl c1)
      unfold YG at hi ⊢
      rw [List.map_take,List.getElem?_take_of_lt c1] at hi;exact hi
    · rw [List.getElem?_append_right (by omega),hto] at hi
      by_cases c2 : i < off + k
      · rw [List.getElem?_append_left (by omega)] at hi
        obtain ⟨v,hv,hrep⟩:=hst.rep _ row j x hi hj
        have hlt2:=(Array.getElem?_eq_some_iff.1 hv).1
        have e : i * ε.size = off * ε.size + (i - off) * ε.size:=by rw [← Nat.add_mul];congr 1;omega
        refine ⟨v,?_,hrep.mono hgo hA (fun _ _=>rfl) (hbs row (List.mem_of_getElem? hi) x (List.mem_of_getElem? hj))⟩
        rw [hget,if_pos (by simp;omega),show (ids n).2 + (i * ε.size + j) - ((ids n).2 + off * ε.size) = (i - off) * ε.size + j by omega]
        simpa using hv
      · rw [List.getElem?_append_right (by omega),hsl] at hi
        refine old ?_ (.inr (by omega))
        unfold YG at hi ⊢
        rw [List.map_drop,List.getElem?_drop] at hi
        rw [← hi];congr 1;omega
  · exact Zbl (fun row hrow=>(hh.blk n _ hn).2 row (List.mem_of_mem_take hrow)) (Zbl hlv fun row hrow=>(hh.blk n _ hn).2 row (List.mem_of_mem_drop hrow))
 exact ⟨_,_,_,.inl hrun,hchg.trans (Chg.skip hchg.heap (Nm.le_add _ _)),.c _,.c _⟩
end
set_option linter.unusedVariables false
set_option linter.unusedSimpArgs false
section
variable {P : Program} {tab : Tab}
def Zqm (x : V) : V:=
 match x with
 | .sx n sz off len _=>.sl n sz off len
 | x=>x
theorem ZiW {A : Nat → Prop} {ids : Nat → Nat × Nat} {w : World} {x : V} {v : Value} (h : RepV A ids w x v) : RepV A ids w (Zqm x) v:=by
 cases h with
 | sx n sz off len cap ad hl hc=>exact .sl _ _ _ _ cap ad hl hc
 | un=>exact .un _
 | c=>exact .c _
 | lst _ _ _ _ h hcl=>exact .lst _ _ _ _ h hcl
 | sl _ _ _ _ _ _ hl hc=>exact .sl _ _ _ _ _ _ hl hc
 | ac0=>exact .ac0 _ _ _
 | ac1 _ _ _ _ h0 h=>exact .ac1 _ _ _ _ h0 h
 | p=>exact .p ..
 | q _ _ _ _ _ h1 h2 h3 h4=>exact .q _ _ _ _ _ h1 h2 h3 h4
 | agg _ _ hs h=>exact .agg _ _ hs h
 | tup _ _ hs h=>exact .tup _ _ hs h
 | fn _ _ _ _ _ h1 h2 h3 h4=>exact .fn _ _ _ _ _ h1 h2 h3 h4
 | ifc _ _ _ h=>exact .ifc _ _ _ h
 | mp=>exact .mp ..
theorem Ze9 {m : Nm} {x : V} (h : x.Below m) : (Zqm x).Below m:=by
 cases h with
 | sx n sz off len cap h=>exact .sl _ _ _ _ h
 | un=>exact .un
 | c=>exact .c _
 | lst=>exact .lst ..
 | sl _ _ _ _ h=>exact .sl _ _ _ _ h
 | ac _ _ _ h=>exact .ac _ _ _ h
 | p _ _ _ _ h=>exact .p _ _ _ _ h
 | q=>exact .q ..
 | agg _ h=>exact .agg _ h
 | tup _ h=>exact .tup _ h
 | fn _ _ _ h1 h2=>exact .fn _ _ _ h1 h2
 | ifc _ _ h=>exact .ifc _ _ h
 | mp _ h=>exact .mp _ h
theorem Znq : ∀ (t : List V) (i : Nat),tAt (t.map Zqm) i = Zqm (tAt t i)
 | [],i=>rfl
 | x :: t,0=>rfl
 | x :: t,i + 1=>Znq t i
theorem ZoV (t : List V) (x : Operand) : evS (tAt (t.map Zqm)) x = Zqm (evS (tAt t) x):=by
 cases x with
 | tmp i=>exact Znq t i
 | const v=>cases v <;> rfl
 | _=>rfl
theorem AOp.of_sop (ht : Zk P tab) {M : Nm} {nm : Nat} (hfresh : ¬ M nm) {op : Op} {e e0 : Operand → V} {h h' : Hp} {K : V → Hp → Prop} {v : V} (hs : sop tab nm e h op = some (v,h'))
 (hw : ∀ x ∈ op.operands.toList,(∀ (A : Nat → Prop) (ids : Nat → Nat × Nat) (w : World) (u : Value),RepV A ids w (e0 x) u → RepV A ids w (e x) u) ∧ ((e0 x).Below M → (e x).Below M)) (hK : K v h') : AOp P op e0 h M nm K:=by
 classical
 refine AOp.ok fun F ids w a o ho hh h1 h2=>⟨v,h',hK,?_⟩
 subst ho
 have h3 : ∀ x ∈ o.op.operands.toList,(if x ∈ o.op.operands.toList then e x else V.un) = e x:=fun x hx=>if_pos hx
 have hs2 : sop tab nm (fun x=>if x ∈ o.op.operands.toList then e x else .un) h o.op = some (v,h'):=by rw [(ZlL (tab:=tab) h3).1];exact hs
 refine ZdY ht hh hfresh _ a.eval (fun x=>?_) (fun x=>?_) (fun _=>rfl) o hs2
 · by_cases hx : x ∈ o.op.operands.toList
   · simp only [hx,if_true];exact (hw x hx).1 _ _ _ _ (h1 x hx)
   · simp only [hx,if_false];exact .un _
 · by_cases hx : x ∈ o.op.operands.toList
   · simp only [hx,if_true];exact (hw x hx).2 (h2 x hx)
   · simp only [hx,if_false];exact .un
theorem ZuC (ht : Zk P tab) {op : Op} {t : List V} {h : List (Nat × B)} {b : Nat} {K : V → List (Nat × B) → Prop} (k : opK tab b (t.map Zqm) h op K) : OpB P op t h b K:=by
 obtain ⟨v,l,hs,hk⟩:=Zi3 k
 exact ⟨AOp.of_sop (M:=Lt b) ht (Nat.lt_irrefl b) hs (fun x _=>by rw [ZoV];exact ⟨fun _ _ _ _ hr=>ZiW hr,fun hb=>Ze9 hb⟩) ⟨l,rfl,hk⟩⟩
def atO (e : Operand → V) (o : Option Operand) (d n : Nat) : Prop:=
 match o with
 | none=>n = d
 | some x=>∃ k,e x = .c (.int k (n : Int))
theorem ZaR {w : World} {len cap a b : Nat} {vlo vhi : Option Value} (hlo : (vlo = none ∧ a = 0) ∨ ∃ k,vlo = some (.int k (a : Int))) (hhi : (vhi = none ∧ b = len) ∨ ∃ k,vhi = some (.int k (b : Int))) (h1 : a ≤ b) (h2 : b ≤ cap) :
 (Instr.sliceBounds true len cap vlo vhi none).run P w = .ok (a,b,cap) w:=by
 rcases hlo with ⟨rfl,rfl⟩ | ⟨k,rfl⟩ <;> rcases hhi with ⟨rfl,rfl⟩ | ⟨k',rfl⟩ <;> simp [Instr.sliceBounds,Instr.sliceBound,asIntOf,h1,h2]
inductive InBlk (n sz : Nat) : V → Nat → Nat → Option Nat → Prop
 | sl (off len : Nat) : InBlk n sz (.sl n sz off len) off len none
 | ac (len : Nat) : InBlk n sz (.ac n sz len) 0 len none
 | sx (off len cap : Nat) : InBlk n sz (.sx n sz off len cap) off len (some cap)
theorem InBlk.rep {n sz off len : Nat} {c : Option Nat} {x : V} (hx : InBlk n sz x off len c) {A : Nat → Prop} {ids : Nat → Nat × Nat} {w : World} {v : Value} (h : RepV A ids w x v) : ∃ cap,(∀ c',c = some c' → cap = c') ∧ RepV A ids w (.sx n sz off len cap) v:=by
 cases hx with
 | sl=>cases h with | sl _ _ _ _ cap ad hl hc=>exact ⟨cap,by simp,.sx _ _ _ _ _ ad hl hc⟩
 | ac=>cases h with
  | ac0=>exact ⟨0,by simp,.sx _ _ _ _ _ _ (Nat.le_refl _) (fun h=>absurd rfl h)⟩
  | ac1 _ _ _ _ h0 h=>cases h with | sl _ _ _ _ cap ad hl hc=>exact ⟨cap,by simp,.sx _ _ _ _ _ ad hl hc⟩
 | sx=>cases h with | sx _ _ _ _ _ ad hl hc=>exact ⟨_,by simp,.sx _ _ _ _ _ ad hl hc⟩
theorem Zju {e : Operand → V} {o : Option Operand} {d n : Nat} (ho : atO e o d n) {A : Nat → Prop} {ids : Nat → Nat × Nat} {w : World} {ρ : Operand → Value} (hr : ∀ x ∈ o.toList,RepV A ids w (e x) (ρ x)) :
 (o.map ρ = none ∧ n = d) ∨ ∃ k,o.map ρ = some (.int k (n : Int)):=by
 cases o with
 | none=>exact .inl ⟨rfl,ho⟩
 | some x=>
  obtain ⟨k,hk⟩:=ho
  have:=hr x (by simp)
  rw [hk] at this
  exact .inr ⟨k,by rw [Option.map_some,Zcx this]⟩
theorem ZsD (ht : Zk P tab) {ty : TypeId} {x : Operand} {lo hi : Option Operand} {t : List V} {h : List (Nat × B)} {bn : Nat} {K : V → List (Nat × B) → Prop} (ε : Ty) (hε : Zy tab ty = some ε) {n off len cap : Nat} (a b : Nat) (hx : evS (tAt t) x = .sx n ε.size off len cap)
 (hlo : atO (evS (tAt t)) lo 0 a) (hhi : atO (evS (tAt t)) hi len b) (h1 : a ≤ b) (h2 : b ≤ cap) (k : K (.sx n ε.size (off + a) (b - a) (cap - a)) h) : OpB P (.slice ty x lo hi none) t h bn K:=by
 refine ⟨AOp.ok fun F ids w ac o ho hh hr hb=>⟨_,_,⟨h,rfl,k⟩,?_⟩⟩
 obtain ⟨τ,et,hτ,hk,he⟩:=Z0 hε
 have hd:=ZK ht hτ hk
 have hxv:=hr x (by simp [Op.operands])
 have hxb:=hb x (by simp [Op.operands])
 rw [hx] at hxv hxb
 have p1:=Zju (ρ:=ac.eval) hlo fun y hy=>hr y (by simp only [Op.operands,Array.toList_append,List.mem_append];simp at hy ⊢;simp [hy])
 have p2:=Zju (ρ:=ac.eval) hhi fun y hy=>hr y (by simp only [Op.operands,Array.toList_append,List.mem_append];simp at hy ⊢;simp [hy])
 generalize hq : ac.eval x = xv at hxv
 cases hxb with
 | sx _ _ _ _ _ hn=>
 cases hxv with
 | sx _ _ _ _ _ ad hl hcc=>
 have hrun:=ZaR (P:=P) (w:=w) (len:=len) p1 p2 h1 h2
 refine OpOk.still (val:=.slice (if cap = a then ad else ad.map (·.add (a * ε.size))) (b - a) (cap - a)) hh (Nm.le_add _ _) ?_ (.sx _ _ _ _ _ _ (by omega) fun h0=>?_) (.sx _ _ _ _ _ hn)
 · simp only [execOp,ho,hq,Instr.sliceAt,Sem.run_bind,hd,Result.andThen_ok,Instr.slice,Option.map_none,hrun,(ht _ _ he).sizeOf,Sem.run_pure]
 · have hca : cap ≠ a:=by omega
   obtain ⟨arr,T,hs,rfl,ha⟩:=hcc (by omega)
   refine ⟨arr,T,hs,?_,by rw [show off + a + (cap - a) = off + cap by omega];exact ha⟩
   rw [if_neg hca,Option.map_some,Z8,Nat.add_mul,Nat.add_assoc]
theorem ZuM (ht : Zk P tab) {ty : TypeId} {x : Operand} {t : List V} {h : List (Nat × B)} {bn : Nat} {K : V → List (Nat × B) → Prop} (ε : Ty) (hε : Zy tab ty = some ε) {n sz off len cap : Nat} (hx : evS (tAt t) x = .sx n sz off len cap) (k : K (V.int cap) h) : OpB P (.call ⟨.builtin .cap,#[x],#[ty]⟩) t h bn K:=by
 refine ⟨AOp.ok fun F ids w ac o ho hh hr hb=>⟨_,_,⟨h,rfl,k⟩,?_⟩⟩
 obtain ⟨τ,et,hτ,hk,he⟩:=Z0 hε
 have hd:=ZK ht hτ hk
 have hxv:=hr x (by simp [Op.operands,Call.operands])
 rw [hx] at hxv
 generalize hq : ac.eval x = xv at hxv
 cases hxv with
 | sx _ _ _ _ _ ad hl hcc=>
 refine OpOk.still (val:=.int .i64 cap) hh (Nm.le_add _ _) ?_ (.c _) (.c _)
 simp [execOp,ho,resolve,invoke,builtin,hq,Builtin.cap_,hd,goInt]
end
set_option linter.unusedVariables false
set_option linter.unusedSimpArgs false
section
variable {P : Program} {tab : Tab}
theorem Zo6 (ht : Zk P tab) {t : TypeId} {k : IntKind} {τ : Ty} (hτ : tab t = some τ) (hk : τ.kind = .int k) (w : World) : (underlying t).run P w = .ok (.int k) w:=by
 obtain ⟨d,h1,_,hf⟩:=(ht t τ hτ).desc
 rw [hk] at hf
 generalize τ.agg = g at hf
 cases hf;exact h1 w
theorem Zil (ht : Zk P tab) {t tn T e : TypeId} {τ τn ε : Ty} (hτ : tab t = some τ) (hk : τ.kind = .slice e) (he : tab e = some ε) {kn kq : IntKind} (hτn : tab tn = some τn) (hkn : τn.kind = .int kn) {w : World}
 {base : Option Addr} {sLen sCap k : Nat} (hb : ε.bytes ≤ 4096) (hneed : sLen + k < 2147483648) (hgt : sCap < sLen + k) (hs : 0 < ε.size) (h0 : 0 < k) :
 ∃ newCap,sLen + k ≤ newCap ∧ ∀ old : Array Value,(Builtin.firstCells ε.size sLen (.slice base sLen sCap)).run P w.drew = .ok old w.drew →
  ∃ rest : Array Value,rest.size = (newCap - (sLen + k)) * ε.size ∧ (Builtin.append_ #[t,tn] T #[.slice base sLen sCap,.int kq k]).run P w = .ok (.slice (some ⟨w.heap.size,0,none⟩) (sLen + k) newCap) (w.drew.alloc (.cells (old ++ Builtin.zeroCells ε.zero.toArray k ++ rest) e)):=by
 have hd:=ZK ht hτ hk
 have hez:=(ht e ε he).sizeOf
 have hdn:=Zo6 ht hτn hkn
 obtain ⟨z,hz,hzc⟩:=(ht e ε he).zero w.drew
 have hzl:=(ht e ε he).zlen
 obtain ⟨i,hi1,hi2⟩:=(ht e ε he).typeInfo w
 obtain ⟨i',hi1',hi2'⟩:=(ht e ε he).typeInfo w.drew
 have hnc:=Za1 (need:=sLen + k) (cap:=sCap) hgt
 have hsz : ¬ 281474976710656 < Builtin.nextslicecap (sLen + k) sCap * i.bytes:=by
  have h2 : Builtin.nextslicecap (sLen + k) sCap * i.bytes ≤ (2 * (sLen + k) + 192) * 4096:=Nat.mul_le_mul hnc (by omega)
  omega
 have hmx : ¬ (9223372036854775807 : Int) < (sLen : Int) + k:=by omega
 have hforced : (Question.appendCap (sLen + k) sCap e).forced = false:=rfl
 have hw : IntKind.i64.wrap (k : Int) = k:=by rw [IntKind.wrap_i64];omega
 have hneg : ¬ ((k : Int) < 0):=by omega
 have hkb : k * i.bytes ≤ 8796093022208:=Nat.le_trans (Nat.mul_le_mul (show k ≤ 2147483648 by omega) (show i.bytes ≤ 4096 by omega)) (by omega)
 have h48 : ¬ (281474976710656 < ((k : Int) * (i.bytes : Int))):=by rw [← Int.natCast_mul];omega
 have hns : ¬ (k * ε.size = 0):=by have:=Nat.mul_pos h0 hs;omega
 have hnle : ¬ (sLen + k ≤ sCap):=by omega
 refine ⟨(Question.appendCap (sLen + k) sCap e).cut (w.tape w.drawn (.appendCap (sLen + k) sCap e)),by simp only [Question.cut];omega,fun old hold=>?_⟩
 refine ⟨Builtin.zeroCells z.cells ((Question.appendCap (sLen + k) sCap e).cut (w.tape w.drawn (.appendCap (sLen + k) sCap e)) - (sLen + k)),by simp [Builtin.zeroCells,hzc,hzl],?_⟩
 rw [← hzc]
 simp [Builtin.append_,hd,hdn,hez,asInt,asIntOf,hw,hneg,h48,hnle,hi1,hmx,hsz,hforced,hi1',hold,hns,hz,newRow]
theorem Zgo {z : List Value} {sz k i j : Nat} (hz : z.length = sz) (hi : i < k) (hj : j < sz) : (Builtin.zeroCells z.toArray k)[i * sz + j]? = z[j]?:=by
 have hlt:=ZgN hi hj
 subst hz
 have hm : (i * z.length + j) % z.length = j:=by rw [Nat.mul_comm,Nat.mul_add_mod,Nat.mod_eq_of_lt hj]
 simp only [Builtin.zeroCells,Array.getElem?_map,Array.getElem?_range,List.size_toArray,hlt,if_true,Option.map_some,hm]
 rw [getElem!_pos _ _ (by simpa using hj)]
 simp [hj]
theorem ZiC {A : Nat → Prop} {ids : Nat → Nat × Nat} {w : World} {ε : Ty} (hzl : ε.zero.length = ε.size) {zr : List D} (hz : ZeroRow ε.zero zr) (k : Nat) : StandsR A ids w ε.size (YG (List.replicate k zr)) (Builtin.zeroCells ε.zero.toArray k):=by
 obtain ⟨zl,zlf,zrep⟩:=hz.get
 have hrow : ∀ (i : Nat) (row : List V),(YG (List.replicate k zr))[i]? = some row → i < k ∧ row = zr.map D.toV:=by
  intro i row hi
  rw [Y7,List.getElem?_replicate] at hi
  split at hi
  · next hlt=>simp at hi;exact ⟨hlt,hi.symm⟩
  · cases hi
 refine ⟨fun row hr=>?_,by simp [Builtin.zeroCells,Zo,hzl],fun i row j x hi hj=>?_⟩
 · obtain ⟨i,hi⟩:=List.getElem?_of_mem hr
   rw [(hrow i row hi).2,List.length_map,zl,hzl]
 · obtain ⟨hlt,rfl⟩:=hrow i row hi
   rw [List.getElem?_map,Option.map_eq_some_iff] at hj
   obtain ⟨d,hj,rfl⟩:=hj
   have hjl : j < ε.size:=by rw [← hzl,← zl];exact (List.getElem?_eq_some_iff.1 hj).1
   have hjz : j < ε.zero.length:=by omega
   exact ⟨ε.zero[j],by rw [Zgo hzl hlt hjl];simp [hjz],(zrep A w j _ d (by simp [hjz]) hj).toV⟩
theorem ZhX (ht : Zk P tab) {M : Nm} {nm : Nat} (hfresh : ¬ M nm) {ty tn : TypeId} {s x : Operand} {e : Operand → V} {h : Hp} {K : V → Hp → Prop} {ε τn : Ty} (hε : Zy tab ty = some ε) {kn kq : IntKind} (hτn : tab tn = some τn) (hkn : τn.kind = .int kn)
 {n off len cap k : Nat} {r : List (List D)} (hs : e s = .sx n ε.size off len cap) (hx : e x = .c (.int kq (k : Int))) (hr : h n = some (.dat ε.size r)) (hr0 : r ≠ []) (hin : off + len ≤ r.length) (hgt : cap < len + k) (h0 : 0 < k) (hsz : 0 < ε.size)
 (hneed : len + k < 2147483648) (hby : ε.bytes ≤ 4096) {zr : List D} (hz : ZeroRow ε.zero zr) (hK : K (.sl nm ε.size 0 (len + k)) (upd h nm (some (.dat ε.size ((r.drop off).take len ++ List.replicate k zr))))) : AOp P (.call ⟨.builtin .append,#[s,x],#[ty,tn]⟩) e h M nm K:=by
 refine AOp.ok fun F ids w a o ho hh h1 h2=>⟨_,_,hK,?_⟩
 obtain ⟨τ,et,hτ,hk,he⟩:=Z0 hε
 have hte:=ht _ _ he
 have hsv:=h1 s (by simp [Op.operands,Call.operands]);rw [hs] at hsv
 have hxv:=h1 x (by simp [Op.operands,Call.operands]);rw [hx] at hxv
 have ex:=Zcx hxv
 generalize hq : a.eval s = sv at hsv
 cases hsv with
 | sx _ _ _ _ _ ad hl hc=>
 have hdr:=Chg.drew hh
 obtain ⟨old,hold,hst⟩:=RepR.first (P:=P) (len:=len) ((hdr.heap.blk n _ hr).1 hr0) (off:=off) (k:=len) (cap:=cap) hl (by rw [Zo];exact hin) fun h0=>by obtain ⟨_,_,_,h3,_⟩:=hc h0;exact h3
 obtain ⟨newCap,hcap,hrun⟩:=Zil (P:=P) (T:=o.type) (kq:=kq) ht hτ hk he hτn hkn (w:=w) (base:=ad) (sLen:=len) (sCap:=cap) (k:=k) hby hneed hgt hsz h0
 obtain ⟨rest,hrest,hrun⟩:=hrun old hold
 have hzs:=ZiC (A:=Ze F h ids) (ids:=ids) (w:=w.drew) hte.zlen hz k
 have hboth:=hst.append hzs
 rw [← Zcn] at hboth
 have hgo : Goes (Ze F h ids) w.drew (w.drew.alloc (.cells (old ++ Builtin.zeroCells ε.zero.toArray k ++ rest) et)):=Goes.alloc _ _ _
 have hlv : leaves ((r.drop off).take len ++ List.replicate k zr):=Zbl (Zan (hh.blk n _ hr).2 _ _) fun row hrow=>by rw [List.eq_of_mem_replicate hrow];exact hz.get.2.1
 have hlen : ((r.drop off).take len ++ List.replicate k zr).length = len + k:=by simp;omega
 have hchg:=(Chg.new hdr.heap hfresh (.cells (old ++ Builtin.zeroCells ε.zero.toArray k ++ rest) et) (.dat ε.size ((r.drop off).take len ++ List.replicate k zr)) trivial fun ids' A h1 h2=>by
  refine ⟨fun _=>⟨_,et,Yx _ _,?_,?_,fun i row j x hi hj=>?_⟩,hlv⟩
  · rw [Zo,hlen,Array.size_append,hboth.len,List.length_append,Zo,Zo]
    have : ((r.drop off).take len).length = len:=by simp;omega
    rw [this,List.length_replicate];dsimp only;omega
  · rw [QR];exact hboth.wid
  · rw [QR] at hi
    obtain ⟨v,hv,hrep⟩:=hboth.rep i row j x hi hj
    have hlt:=(Array.getElem?_eq_some_iff.1 hv).1
    refine ⟨v,by dsimp only;rw [Nat.zero_add,Array.getElem?_append_left hlt];exact hv,hrep.mono hgo h2 h1 ?_⟩
    have hm : row ∈ YG ((r.drop off).take len ++ List.replicate k zr):=by rw [QR];exact List.mem_of_getElem? hi
    exact ZJ M _ row hm x (List.mem_of_getElem? hj))
 refine OpOk.made (val:=.slice (some ⟨w.heap.size,0,none⟩) (len + k) newCap) (hdr.trans hchg) (by simp only [execOp,ho,resolve,invoke,builtin,Sem.run_bind,Sem.run_pure,Result.andThen_ok,List.map_toArray,List.map_cons,List.map_nil,hq,ex,hrun]) ?_ (.sl _ _ _ _ (.inr rfl))
 refine .sl _ _ _ _ _ _ hcap fun _=>⟨_,et,by rw [Zb];exact Yx _ _,by rw [Zb];simp,?_⟩
 rw [Zb,Array.size_append,hboth.len,hrest,List.length_append,Zo,Zo,List.length_replicate]
 have : ((r.drop off).take len).length = len:=by simp;omega
 rw [this]
 dsimp only
 rw [← Nat.add_mul,show len + k + (newCap - (len + k)) = 0 + newCap by omega]
 omega
theorem Zrf (ht : Zk P tab) {ty tn : TypeId} {s x : Operand} {t : List V} {h : List (Nat × B)} {b : Nat} {K : V → List (Nat × B) → Prop} (ε τn : Ty) (zr : List D) (hε : Zy tab ty = some ε) (hz : ZeroRow ε.zero zr) {kn kq : IntKind} (hτn : tab tn = some τn) (hkn : τn.kind = .int kn)
 {n off len cap : Nat} (k : Nat) {r : List (List D)} (hs : evS (tAt t) s = .sx n ε.size off len cap) (hx : evS (tAt t) x = .c (.int kq (k : Int))) (hr : hAt h n = some (.dat ε.size r)) (hc : r ≠ [] ∧ off + len ≤ r.length ∧ cap < len + k ∧ 0 < k ∧ len + k < 2147483648) (hsz : Nat.blt 0 ε.size = true) (hby : Nat.ble ε.bytes 4096 = true)
 (hk : Zc2 h b (.dat ε.size ((r.drop off).take len ++ List.replicate k zr)) fun h=>K (.sl b ε.size 0 (len + k)) h) : OpB P (.call ⟨.builtin .append,#[s,x],#[ty,tn]⟩) t h b K:=by
 obtain ⟨l',hk,e⟩:=ZX hk
 exact ⟨ZhX (M:=Lt b) ht (Nat.lt_irrefl b) (K:=fun v h'=>∃ l,h' = hAt l ∧ K v l) hε hτn hkn hs hx hr hc.1 hc.2.1 hc.2.2.1 hc.2.2.2.1 (by simpa [Nat.blt_eq] using hsz) hc.2.2.2.2 (Nat.le_of_ble_eq_true hby) hz ⟨l',e.symm,hk⟩⟩
theorem ZsP (ht : Zk P tab) {d s : Operand} {dT sT : TypeId} {t : List V} {h : List (Nat × B)} {b : Nat} {K : V → List (Nat × B) → Prop} (ε : Ty) (hε : Zy tab dT = some ε) {n off len m : Nat} (k : Nat) {r src : List (List D)}
 (hd : evS (tAt t) d = .sl n ε.size off len) (hn : hAt h n = some (.dat ε.size r)) (hc : r ≠ [] ∧ off ≤ r.length ∧ k = min m len) (hs : CopySrc (hAt h) ε.size k (evS (tAt t) s) m src)
 (hk : Zc2 h n (.dat ε.size (r.take off ++ (src ++ r.drop (off + k)))) fun h=>K (V.int k) h) : OpB P (.call ⟨.builtin .copy,#[d,s],#[dT,sT]⟩) t h b K:=by
 obtain ⟨l',hk,e⟩:=ZX hk
 exact ⟨ZiS (M:=Lt b) ht (K:=fun v h'=>∃ l,h' = hAt l ∧ K v l) hε hd hn hc.1 hc.2.1 hc.2.2 hs ⟨l',e.symm,hk⟩⟩
def Zgn : V → List Nat
 | .sl n _ _ _=>[n]
 | .sx n _ _ _ _=>[n]
 | _=>[]
theorem CopySrc.congr {h h2 : Hp} {sz k m : Nat} {x : V} {src : List (List D)} (hs : CopySrc h sz k x m src) (he : ∀ n ∈ Zgn x,h2 n = h n) : CopySrc h2 sz k x m src:=by
 cases hs with
 | lst rows cl hk=>exact .lst rows cl hk
 | sl n off len r hn hr hk hl=>exact .sl n off _ r (by rw [he n (by simp [Zgn])];exact hn) hr hk hl
 | sx n off len cap r hn hr hk hl=>exact .sx n off _ cap r (by rw [he n (by simp [Zgn])];exact hn) hr hk hl
theorem ZpM (ht : Zk P tab) {d s : Operand} {dT sT : TypeId} {t : List V} {h : List (Nat × B)} {b : Nat} {K : V → List (Nat × B) → Dyn → Prop} (ε : Ty) (hε : Zy tab dT = some ε) {n off len m : Nat} (k : Nat) {r src : List (List D)}
 (hd : evS (tAt t) d = .sl n ε.size off len) (hn : hAt h n = some (.dat ε.size r)) (hc : r ≠ [] ∧ off ≤ r.length ∧ k = min m len) (hs : CopySrc (hAt h) ε.size k (evS (tAt t) s) m src)
 (hk : YC (Zgn (evS (tAt t) s)) fun hr=>Zc2 h n (.dat ε.size (r.take off ++ (src ++ r.drop (off + k)))) fun h=>K (V.int k) h ⟨hr,[n],[],false⟩) : DOpB P (.call ⟨.builtin .copy,#[d,s],#[dT,sT]⟩) t h b K:=by
 obtain ⟨l',hk,e⟩:=ZX (Zt hk)
 refine ⟨_,V.int k,[(n,some (.dat ε.size (r.take off ++ (src ++ r.drop (off + k)))))],l',rfl,⟨by simp [Zw],by simp,fun h2 he M hf hb=>?_⟩,e,hk⟩
 exact ZiS ht hε hd (by rw [he n (.inr (by simp))];exact hn) hc.1 hc.2.1 hc.2.2 (hs.congr fun n hn=>he n (.inl hn)) ⟨rfl,rfl⟩
theorem DOpB.still {op : Op} {t : List V} {h : List (Nat × B)} {b : Nat} {K : V → List (Nat × B) → Dyn → Prop} {v : V} (hrun : ∀ (h2 : Hp) (M : Nm),AOp P op (evS (tAt t)) h2 M b fun r h'=>r = v ∧ h' = h2) (hk : K v h ⟨[],[],[],false⟩) : DOpB P op t h b K:=
 ⟨_,v,[],h,rfl,⟨by simp [Zw],by simp,fun h2 _ M _ _=>hrun h2 M⟩,rfl,hk⟩
theorem Zg8 (ht : Zk P tab) {ty : TypeId} {x : Operand} {lo hi : Option Operand} {e : Operand → V} {h : Hp} {M : Nm} {nm : Nat} {K : V → Hp → Prop} {ε : Ty} (hε : Zy tab ty = some ε) {n off len cap : Nat} {a b : Nat} (hx : e x = .sx n ε.size off len cap)
 (hlo : atO e lo 0 a) (hhi : atO e hi len b) (h1 : a ≤ b) (h2 : b ≤ cap) (k : K (.sx n ε.size (off + a) (b - a) (cap - a)) h) : AOp P (.slice ty x lo hi none) e h M nm K:=by
 refine AOp.ok fun F ids w ac o ho hh hr hb=>⟨_,_,k,?_⟩
 obtain ⟨τ,et,hτ,hk,he⟩:=Z0 hε
 have hd:=ZK ht hτ hk
 have hxv:=hr x (by simp [Op.operands])
 have hxb:=hb x (by simp [Op.operands])
 rw [hx] at hxv hxb
 have p1:=Zju (ρ:=ac.eval) hlo fun y hy=>hr y (by simp only [Op.operands,Array.toList_append,List.mem_append];simp at hy ⊢;simp [hy])
 have p2:=Zju (ρ:=ac.eval) hhi fun y hy=>hr y (by simp only [Op.operands,Array.toList_append,List.mem_append];simp at hy ⊢;simp [hy])
 generalize hq : ac.eval x = xv at hxv
 cases hxb with
 | sx _ _ _ _ _ hn=>
 cases hxv with
 | sx _ _ _ _ _ ad hl hcc=>
 have hrun:=ZaR (P:=P) (w:=w) (len:=len) p1 p2 h1 h2
 refine OpOk.still (val:=.slice (if cap = a then ad else ad.map (·.add (a * ε.size))) (b - a) (cap - a)) hh (Nm.le_add _ _) ?_ (.sx _ _ _ _ _ _ (by omega) fun h0=>?_) (.sx _ _ _ _ _ hn)
 · simp only [execOp,ho,hq,Instr.sliceAt,Sem.run_bind,hd,Result.andThen_ok,Instr.slice,Option.map_none,hrun,(ht _ _ he).sizeOf,Sem.run_pure]
 · have hca : cap ≠ a:=by omega
   obtain ⟨arr,T,hs,rfl,ha⟩:=hcc (by omega)
   refine ⟨arr,T,hs,?_,by rw [show off + a + (cap - a) = off + cap by omega];exact ha⟩
   rw [if_neg hca,Option.map_some,Z8,Nat.add_mul,Nat.add_assoc]
theorem ZsZ (ht : Zk P tab) {ty : TypeId} {x : Operand} {lo hi : Option Operand} {t : List V} {h : List (Nat × B)} {bn : Nat} {K : V → List (Nat × B) → Dyn → Prop} (ε : Ty) (hε : Zy tab ty = some ε) {n off len cap : Nat} (a b : Nat) (hx : evS (tAt t) x = .sx n ε.size off len cap)
 (hlo : atO (evS (tAt t)) lo 0 a) (hhi : atO (evS (tAt t)) hi len b) (h12 : a ≤ b ∧ b ≤ cap) (k : K (.sx n ε.size (off + a) (b - a) (cap - a)) h ⟨[],[],[],false⟩) : DOpB P (.slice ty x lo hi none) t h bn K:=
 DOpB.still (fun h2 M=>Zg8 ht hε hx hlo hhi h12.1 h12.2 ⟨rfl,rfl⟩) k
theorem Zub (ht : Zk P tab) {ty : TypeId} {x : Operand} {lo hi : Option Operand} {t : List V} {h : List (Nat × B)} {bn : Nat} {K : V → List (Nat × B) → Prop} (ε : Ty) (hε : Zy tab ty = some ε) {n off len cap : Nat} (a b : Nat) (hx : evS (tAt t) x = .sx n ε.size off len cap)
 (hlo : atO (evS (tAt t)) lo 0 a) (hhi : atO (evS (tAt t)) hi len b) (h12 : a ≤ b ∧ b ≤ cap) (k : K (.sl n ε.size (off + a) (b - a)) h) : OpB P (.slice ty x lo hi none) t h bn K:=by
 refine ⟨fun F ids w ac o ho hh hr hb next Q hn=>Zg8 (nm:=bn) (K:=fun v h'=>h' = hAt h ∧ v = .sx n ε.size (off + a) (b - a) (cap - a)) ht hε hx hlo hhi h12.1 h12.2 ⟨rfl,rfl⟩ F ids w ac o ho hh hr hb next Q ?_⟩
 rintro v h' ids' w' val ⟨rfl,rfl⟩ hc hv hvb
 exact hn _ _ ids' w' val ⟨h,rfl,k⟩ hc (ZiW hv) (Ze9 hvb)
theorem ZhU (w : World) (tS tR e : TypeId) (ht : P.underlying tS = some (.slice e)) (size : Nat) (hz : ∀ w,(Go.sizeOf e).run P w = .ok size w) (ba oa bb ob la ca lb cb : Nat) (hne : ba ≠ bb) {arrA arrB : Array Value} {tA tB : TypeId} {fA : Nat × Nat}
 (hA : w.heap[ba]? = some (.cells arrA tA fA)) (hB : w.heap[bb]? = some (.cells arrB tB (0,0))) (hA0 : arrA.size ≠ 0) (hB0 : arrB.size ≠ 0) :
 (Extern.SlicesOverlaps.overlaps #[tS,tS] #[tR] #[.slice (some ⟨ba,oa,none⟩) la ca,.slice (some ⟨bb,ob,none⟩) lb cb]).run P w = .ok (.bool false) w:=by
 have hnb : (ba != bb) = true:=by simpa using hne
 have hnb' : (ba == bb) = false:=by simpa using hne
 change Sem.run P (α:=Value) (do
  let some t := (#[tS, tS] : Array TypeId)[0]? | stuck "slices.overlaps: no parameter types"
  let .slice elem ← underlying t | stuck "slices.overlaps: slice type expected"
  let size ← sizeOf elem
  match (some (⟨ba,oa,none⟩ : Addr) : Option Addr),(some (⟨bb,ob,none⟩ : Addr) : Option Addr) with
  | some a,some b=>
   if la = 0 ∨ lb = 0 ∨ size = 0 then pure (Value.bool false)
   else if a.block != b.block && (← frozen a) && (← frozen b) then unsupported .addressObserved
   else do
    if a.block != b.block then do
     noView a;noView b
     if ← mayBeOne a b then return Value.bool ((← choose (.extern "sameAddr.stringBytes" 2)) == 1)
    pure (Value.bool (a.block == b.block && a.off < b.off + lb * size && b.off < a.off + la * size))
  | _,_=>pure (Value.bool false)) w = _
 have sA : w.shape? ba = some (tA,arrA.size):=by simp [World.shape?,hA]
 have sB : w.shape? bb = some (tB,arrB.size):=by simp [World.shape?,hB]
 have fB : ∀ o,w.frozen? ⟨bb,o,none⟩ = false:=fun o=>Zgx hB
 by_cases h0 : la = 0 ∨ lb = 0 ∨ size = 0
 · simp [run_underlying ht,hz,h0]
 · obtain ⟨na,hna⟩ : ∃ n,arrA.size = n + 1:=⟨arrA.size - 1,by omega⟩
   obtain ⟨nb,hnb2⟩ : ∃ n,arrB.size = n + 1:=⟨arrB.size - 1,by omega⟩
   rw [hna] at sA
   rw [hnb2] at sB
   by_cases c1 : w.frozen? ⟨ba,oa,none⟩ = true
   · simp [run_underlying ht,hz,h0,hnb,hnb',frozen,noView,viewAt,mayBeOne,stringish,shape,Sem.run,sA,sB,fB,c1]
   · by_cases c2 : w.frozen? ⟨ba,na + 1,none⟩ = true
     · simp [run_underlying ht,hz,h0,hnb,hnb',frozen,noView,viewAt,mayBeOne,stringish,shape,Sem.run,sA,sB,fB,c1,c2]
     · simp [run_underlying ht,hz,h0,hnb,hnb',frozen,noView,viewAt,mayBeOne,stringish,shape,Sem.run,sA,sB,fB,c1,c2]
theorem ZmV (ht : Zk P tab) {f : FuncId} {fn : Func} {tS tR : TypeId} (hf : P.funcs[f]? = some fn) (hname : (fn.name == "runtime.NumGoroutine") = false) (hbn : fn.body.isNone = true) (hn : Extern.findNext fn = none) (he : Extern.find fn = some (Extern.SlicesOverlaps.overlaps #[tS, tS] #[tR]))
 {ε : Ty} (hε : Zy tab tS = some ε) {row : List D} {cl : Bool} {n off len : Nat} {x : V} {c : Option Nat} (hx : InBlk n ε.size x off len c) {r : List (List D)} {h : List (Nat × B)} {b : Nat} {K : V → List (Nat × B) → Prop} (hr : hAt h n = some (.dat ε.size r)) (hr0 : r ≠ []) (hs0 : 0 < ε.size) (hl0 : 0 < len)
 (k : K (V.bool false) h) : CallB P f [.lst ε.size [row] cl,x] h b K:=by
 refine ⟨fun F ids w vals hh hsz hv=>.inr ?_⟩
 obtain ⟨τ,et,hτ,hk,hte⟩:=Z0 hε
 obtain ⟨d,hd,hu,hfit⟩:=(ht _ _ hτ).desc
 have hu : P.underlying tS = some (.slice et):=by
  rw [hk] at hfit
  generalize τ.agg = g at hfit
  cases hfit;exact hu
 have hs2 : vals.size = 2:=hsz
 have ev : vals = #[vals[0]'(by omega),vals[1]'(by omega)]:=by
  apply Array.ext
  · simp [hs2]
  · intro i h1 h2
    match i,h1 with
    | 0,_=>rfl
    | 1,_=>rfl
    | i + 2,h1=>omega
 have h0:=hv 0 _ (vals[0]'(by omega)) rfl (by simp [hs2])
 have h1:=hv 1 _ (vals[1]'(by omega)) rfl (by simp [hs2])
 generalize vals[0]'(by omega) = v0 at ev h0
 generalize vals[1]'(by omega) = v1 at ev h1
 subst ev
 obtain ⟨cap,_,h1⟩:=hx.rep h1
 obtain ⟨arrB,TB,b1,b2,b3,b4⟩:=(hh.blk n _ hr).1 hr0
 have hB0 : arrB.size ≠ 0:=by
  have:=List.length_pos_iff.2 hr0
  have h3 : 1 * ε.size ≤ (YG r).length * ε.size:=Nat.mul_le_mul_right _ (by rw [Zo];exact this)
  omega
 refine ⟨.bool false,V.bool false,hAt h,ids,w,?_,⟨h,rfl,k⟩,Chg.skip hh (fun _ hk=>.inl hk),.c _,.c _⟩
 rw [run_callFunc_extern hf hname hbn hn he]
 cases h0 with
 | lst _ _ _ _ hd0 _=>
 cases hd0 with
 | lst _ _ ba oa ca cell hcap hbb hA hw hcell hdd=>
 cases h1 with
 | sx _ _ _ _ _ ad hl hcc=>
 have hrow : row.length = ε.size:=hw row (by simp)
 obtain ⟨d0,hd0⟩ : ∃ d0,row[0]? = some d0:=⟨row[0]'(by omega),by simp⟩
 have hc0:=hcell 0 row 0 d0 rfl hd0
 have hheap : ∃ arrA tA fA,w.heap[ba]? = some (.cells arrA tA fA) ∧ arrA.size ≠ 0:=by
  unfold World.cell? at hc0
  split at hc0
  · next c t f hq=>
    refine ⟨c,t,f,hq,?_⟩
    simp only [Option.isSome_none,Bool.false_eq_true,if_false] at hc0
    have:=(Array.getElem?_eq_some_iff.1 hc0).1
    omega
  · cases hc0
 obtain ⟨arrA,tA,fA,g1,g2⟩:=hheap
 have hne : ba ≠ (ids n).1:=fun e=>hA (.inr ⟨n,_,hr,QX hr0,e.symm⟩)
 have hz : cap ≠ 0:=by omega
 obtain ⟨_,_,_,rfl,_⟩:=hcc hz
 rw [ZhU w tS tR et hu ε.size (ht _ _ hte).sizeOf ba oa (ids n).1 _ _ _ _ _ hne g1 b1 g2 hB0]
 rfl
theorem LSpec.room {f : FuncId} {n sz len : Nat} {args : List V} {H : List (Nat × B)} {N : Nat} {r : V} {H' : List (Nat × B)} {N' : Nat} (hs : ∀ cap,len ≤ cap → LSpec P f (.sx n sz 0 len cap :: args) H N r H' N') : LSpec P f (.ac n sz len :: args) H N r H' N':=by
 obtain ⟨a1,a2,_⟩:=hs len (Nat.le_refl _)
 refine ⟨fun x hx=>?_,a2,fun F ids w vals hh hsz hv=>?_⟩
 · rcases List.mem_cons.1 hx with rfl | hx
   · have:=a1 _ (List.mem_cons_self);cases this;exact .ac _ _ _ (by assumption)
   · exact a1 x (List.mem_cons_of_mem _ hx)
 · have h0 : 0 < vals.size:=by rw [hsz];simp
   obtain ⟨cap,_,hr⟩:=InBlk.rep (.ac len) (hv 0 _ vals[0] rfl (by simp))
   have hlc : len ≤ cap:=by generalize vals[0] = v0 at hr;cases hr;assumption
   obtain ⟨_,_,h3⟩:=hs cap hlc
   refine h3 F ids w vals hh hsz fun i x v hx hvi=>?_
   cases i with
   | zero=>
    simp only [List.getElem?_cons_zero,Option.some.injEq] at hx
    subst hx
    have : v = vals[0]:=by simp [h0] at hvi;exact hvi.symm
    rw [this];exact hr
   | succ i=>exact hv (i + 1) x v (by simpa using hx) hvi
end
set_option linter.unusedVariables false
set_option linter.unusedSimpArgs false
section
variable {P : Program} {tab : Tab}
def Zar : Bool → V → V → Option Bool
 | true,.c (.int k a),.c (.int k' b)=>if k = k' then some (decide (a = b)) else none
 | false,.c (.bool a),.c (.bool b)=>some (a == b)
 | _,_,_=>none
def Zaw : List Bool → List V → List V → Option Bool
 | [],[],[]=>some true
 | k :: ks,x :: xs,y :: ys=>(Zar k x y).bind fun b=>(Zaw ks xs ys).bind fun c=>some (b && c)
 | _,_,_=>none
def QE (P : Program) : List Field → Nat → List Bool → Bool
 | [],_,[]=>true
 | f :: fs, i, k :: ks => f.name != "_" && f.offset == i && (match P.underlying f.type, k with
  | some (.int _),true=>true
  | some .bool,false=>true
  | _,_=>false) && QE P fs (i + 1) ks
 | _,_,_=>false
def Zi1 (P : Program) (t : TypeId) (ks : List Bool) : Bool:=
 (match P.underlying t with
  | some (.struct fs)=>QE P fs.toList 0 ks
  | _=>false) && !P.stoodInHeld t && !P.eqGuardType P.depth t
theorem ZfT {t : TypeId} {k : IntKind} (h : P.underlying t = some (.int k)) (w : World) : (isAgg t).run P w = .ok false w:=by
 simp [isAgg,run_underlying h]
theorem ZeA {t : TypeId} (h : P.underlying t = some .bool) (w : World) : (isAgg t).run P w = .ok false w:=by
 simp [isAgg,run_underlying h]
theorem Zhu (w : World) (d : Nat) {A : Nat → Prop} {ids : Nat → Nat × Nat} : ∀ (fs : List Field) (i : Nat) (ks : List Bool) (X Y : List V) (vx vy : Array Value) (z : Bool),QE P fs i ks = true → Zaw ks (X.drop i) (Y.drop i) = some z →
 vx.size = X.length → vy.size = Y.length → (∀ (i : Nat) (x : V) (v : Value),X[i]? = some x → vx[i]? = some v → RepV A ids w x v) → (∀ (i : Nat) (x : V) (v : Value),Y[i]? = some x → vy[i]? = some v → RepV A ids w x v) →
 (Op.eqFields (d + 1) vx vy fs).run P w = .ok z w:=by
 intro fs
 induction fs with
 | nil=>
  intro i ks X Y vx vy z hok hz _ _ _ _
  cases ks with
  | nil=>
   have : z = true:=by
    revert hz
    cases X.drop i <;> cases Y.drop i <;> simp [Zaw]
   subst this
   simp [Op.eqFields]
  | cons k ks=>simp [QE] at hok
 | cons f fs ih=>
  intro i ks X Y vx vy z hok hz hsx hsy hx hy
  cases ks with
  | nil=>simp [QE] at hok
  | cons k ks=>
   simp only [QE,Bool.and_eq_true,bne_iff_ne,beq_iff_eq] at hok
   obtain ⟨⟨⟨hn,ho⟩,hk⟩,hrest⟩:=hok
   cases hX : X.drop i with
   | nil=>rw [hX] at hz;simp [Zaw] at hz
   | cons x xs=>
    cases hY : Y.drop i with
    | nil=>rw [hX,hY] at hz;simp [Zaw] at hz
    | cons y ys=>
     rw [hX,hY] at hz
     simp only [Zaw,Option.bind_eq_some_iff,Option.some.injEq] at hz
     obtain ⟨b,hb,c,hc,rfl⟩:=hz
     have gx : X[i]? = some x:=by rw [← List.head?_drop,hX];rfl
     have gy : Y[i]? = some y:=by rw [← List.head?_drop,hY];rfl
     have dx : X.drop (i + 1) = xs:=by rw [← List.tail_drop,hX];rfl
     have dy : Y.drop (i + 1) = ys:=by rw [← List.tail_drop,hY];rfl
     obtain ⟨v,hv⟩ : ∃ v,vx[i]? = some v:=by
      have : i < X.length:=(List.getElem?_eq_some_iff.1 gx).1
      exact ⟨vx[i],by rw [Array.getElem?_eq_getElem (by omega)]⟩
     obtain ⟨u,hu⟩ : ∃ v,vy[i]? = some v:=by
      have : i < Y.length:=(List.getElem?_eq_some_iff.1 gy).1
      exact ⟨vy[i],by rw [Array.getElem?_eq_getElem (by omega)]⟩
     have rx:=hx i x v gx hv
     have ry:=hy i y u gy hu
     have hnext:=ih (i + 1) ks X Y vx vy c hrest (by rw [dx,dy];exact hc) hsx hsy hx hy
     have hfin : ∀ b : Bool,(Op.equalIn (d + 1) f.type v u).run P w = .ok b w → (isAgg f.type).run P w = .ok false w → (Op.eqFields (d + 1) vx vy (f :: fs)).run P w = .ok (b && c) w:=by
      intro b he ha
      have pv : (part f.type vx f.offset).run P w = .ok v w:=by simp [part,ha,ho,hv]
      have pu : (part f.type vy f.offset).run P w = .ok u w:=by simp [part,ha,ho,hu]
      simp only [Op.eqFields,ne_eq,hn,not_false_eq_true,if_true,Sem.run_bind,pv,pu,he,Result.andThen_ok]
      cases b with
      | true=>simp only [Bool.not_true,Bool.false_eq_true,if_false,Bool.true_and];exact hnext
      | false=>simp
     cases k with
     | true=>
      have hu' : ∃ k,P.underlying f.type = some (.int k):=by
       revert hk
       cases P.underlying f.type with
       | none=>simp
       | some t=>cases t <;> simp
      obtain ⟨kk,hu'⟩:=hu'
      revert hb
      cases rx <;> simp only [Zar,reduceCtorEq,false_implies]
      cases ry <;> try (cases v <;> simp only [Zar,reduceCtorEq,false_implies])
      cases v <;> try (simp only [Zar,reduceCtorEq,false_implies])
      cases u <;> try (simp only [Zar,reduceCtorEq,false_implies])
      intro hb
      split at hb
      · next e=>
        subst e
        cases hb
        refine hfin _ ?_ (ZfT hu' w)
        rw [run_equalIn_int w d _ _ _ _ _ hu']
        rfl
      · cases hb
     | false=>
      have hu' : P.underlying f.type = some .bool:=by
       revert hk
       cases P.underlying f.type with
       | none=>simp
       | some t=>cases t <;> simp
      revert hb
      cases rx <;> simp only [Zar,reduceCtorEq,false_implies]
      cases ry <;> try (cases v <;> simp only [Zar,reduceCtorEq,false_implies])
      cases v <;> try (simp only [Zar,reduceCtorEq,false_implies])
      cases u <;> try (simp only [Zar,reduceCtorEq,false_implies])
      intro hb
      cases hb
      exact hfin _ (run_equalIn_bool' w d _ _ _ hu') (ZeA hu' w)
theorem ZpF {M : Nm} {nm : Nat} {neg : Bool} {ty ty' : TypeId} {x y : Operand} {e : Operand → V} {h : Hp} {K : V → Hp → Prop} {ks : List Bool} (hty : Zi1 P ty ks = true) {X Y : List V} {z : Bool} (hx : e x = .agg X) (hy : e y = .agg Y)
 (hz : Zaw ks X Y = some z) (hK : K (.c (.bool (z != neg))) h) : AOp P (.binOp (if neg then .neq else .eql) ty x y ty') e h M nm K:=by
 refine AOp.ok fun F ids w a o ho hh h1 h2=>⟨_,_,hK,?_⟩
 simp only [Zi1,Bool.and_eq_true,Bool.not_eq_true'] at hty
 obtain ⟨⟨hfs,hst⟩,hg⟩:=hty
 have r1:=h1 x (by simp [Op.operands])
 have r2:=h1 y (by simp [Op.operands])
 rw [hx] at r1
 rw [hy] at r2
 cases hax : a.eval x <;> rw [hax] at r1 <;> cases r1
 next vx sx rx=>
 cases hay : a.eval y <;> rw [hay] at r2 <;> cases r2
 next vy sy ry=>
 cases hu : P.underlying ty with
 | none=>rw [hu] at hfs;cases hfs
 | some d=>
  rw [hu] at hfs
  cases d with
  | struct fs=>
   have hfo : P.fieldsOf ty = fs:=by simp [Program.fieldsOf,hu]
   have hS : P.underlying ty = some (.struct (P.fieldsOf ty)):=by rw [hu,hfo]
   have heq : (Op.equalIn 10000 ty (.agg vx) (.agg vy)).run P w = .ok z w:=by
    rw [show (10000 : Nat) = 9999 + 1 from rfl,run_equalIn_agg w 9999 ty _ _ hS hst,hfo]
    exact Zhu w 9998 fs.toList 0 ks X Y vx vy z hfs (by simpa using hz) sx sy rx ry
   have hrun : (execOp a.eval o).run P w = .ok (.value (.bool (z != neg))) w:=by
    cases neg with
    | true=>
     simp only [execOp,ho,if_true,Sem.run_bind,hax,hay,run_eqGuard_agg w _ ty x y vx vy hg,Result.andThen_ok,run_neq_struct,heq,Sem.run_pure]
     cases z <;> rfl
    | false=>
     simp only [execOp,ho,Bool.false_eq_true,if_false,Sem.run_bind,hax,hay,run_eqGuard_agg w _ ty x y vx vy hg,Result.andThen_ok,run_eql_struct,heq,Sem.run_pure]
     cases z <;> rfl
   exact OpOk.still hh (Nm.le_add _ _) hrun (.c _) (.c _)
  | _=>cases hfs
theorem eqB {ty ty' : TypeId} {x y : Operand} {t : List V} {h : List (Nat × B)} {b : Nat} {K : V → List (Nat × B) → Prop} (ks : List Bool) (hty : Zi1 P ty ks = true) {X Y : List V} {z : Bool} (hx : evS (tAt t) x = .agg X) (hy : evS (tAt t) y = .agg Y)
 (hz : Zaw ks X Y = some z) (k : K (.c (.bool z)) h) : OpB P (.binOp .eql ty x y ty') t h b K:=
 ⟨ZpF (neg:=false) (K:=fun v h'=>∃ l,h' = hAt l ∧ K v l) hty hx hy hz ⟨h,rfl,by rw [Bool.bne_false];exact k⟩⟩
theorem ZtY {ty ty' : TypeId} {x y : Operand} {t : List V} {h : List (Nat × B)} {b : Nat} {K : V → List (Nat × B) → Dyn → Prop} (ks : List Bool) (hty : Zi1 P ty ks = true) {X Y : List V} {z : Bool} (hx : evS (tAt t) x = .agg X) (hy : evS (tAt t) y = .agg Y)
 (hz : Zaw ks X Y = some z) (k : K (.c (.bool (!z))) h ⟨[],[],[],false⟩) : DOpB P (.binOp .neq ty x y ty') t h b K:=
 DOpB.still (fun h2 M=>ZpF (neg:=true) hty hx hy hz ⟨by rw [Bool.bne_true],rfl⟩) k
def Ys (k : Int) : List (Value × V) → Nat → Option (Nat × V)
 | [],_=>none
 | e :: es,i=>match e.1 with
  | .int _ a=>if k = a then some (i,e.2) else Ys k es (i + 1)
  | _=>none
def Zex (k : IntKind) (n : Int) (v : V) : List (Value × V) → List (Value × V)
 | []=>[(.int k n,v)]
 | e :: es=>match e.1 with
  | .int k' a=>if n = a then (.int k' a,v) :: es else e :: Zex k n v es
  | _=>e :: es
def ZcJ (k : IntKind) (es : List (Value × V)) : Prop:=∀ e ∈ es,∃ n,e.1 = .int k n
theorem Zeo {kk : IntKind} {k : IntKind} {n : Int} {A : Nat → Prop} {ids : Nat → Nat × Nat} {w : World} : ∀ (es : List (Value × V)) (ar : List MapEntry) (i : Nat),ZcJ k es → ar.length = es.length →
 (∀ (i : Nat) (e : Value × V) (m : MapEntry),es[i]? = some e → ar[i]? = some m → m.key = e.1 ∧ RepV A ids w e.2 m.val) →
 (match Ys n es i with
  | none=>Instr.findNow (.int kk) (.int k n) ar i = some none ∧ ∀ v,Zex k n v es = es ++ [(.int k n,v)]
  | some (j,v)=>∃ u,Instr.findNow (.int kk) (.int k n) ar i = some (some (j,u)) ∧ RepV A ids w v u ∧ i ≤ j ∧ j - i < es.length ∧ (es[j - i]?).map (·.1) = some (.int k n) ∧ ∀ v',Zex k n v' es = es.set (j - i) (.int k n,v')):=by
 intro es
 induction es with
 | nil=>
  intro ar i _ hl _
  cases ar with
  | nil=>exact ⟨rfl,fun _=>rfl⟩
  | cons m ar=>simp at hl
 | cons e es ih=>
  intro ar i hk hl hr
  cases ar with
  | nil=>simp at hl
  | cons m ar=>
   obtain ⟨a,ha⟩:=hk e (List.mem_cons_self ..)
   obtain ⟨ek,ev⟩:=e
   simp only at ha
   subst ha
   obtain ⟨hm,hv⟩:=hr 0 _ m rfl rfl
   simp only at hm hv
   simp only [Ys,Instr.findNow,hm,Instr.sameNow,if_true,Zex]
   by_cases h : n = a
   · subst h
     simp only [if_true,BEq.rfl]
     exact ⟨m.val,rfl,hv,Nat.le_refl _,by simp,by simp,fun v'=>by simp⟩
   · have hb : (n == a) = false:=by simp [h]
     simp only [h,if_false,hb]
     have:=ih ar (i + 1) (fun e he=>hk e (List.mem_cons_of_mem _ he)) (by simpa using hl) (fun j e m he hm=>hr (j + 1) e m (by simpa using he) (by simpa using hm))
     revert this
     cases Ys n es (i + 1) with
     | none=>
      rintro ⟨h1,h2⟩
      exact ⟨h1,fun v=>by simp [h2]⟩
     | some p=>
      obtain ⟨j,v⟩:=p
      rintro ⟨u,h1,h2,h3,h4,h5,h6⟩
      have e1 : j - i = (j - (i + 1)) + 1:=by omega
      refine ⟨u,h1,h2,by omega,by simp;omega,?_,fun v'=>?_⟩
      · rw [e1];simpa using h5
      · rw [e1,h6];simp
theorem Zcq {m : Nm} {i : Int} : ∀ {es : List (Value × V)} {j a : Nat} {v : V},Ys i es j = some (a,v) → (∀ e ∈ es,e.2.Below m) → v.Below m
 | [],_,_,_,h,_=>by simp [Ys] at h
 | e :: es,j,a,v,h,hb=>by
  simp only [Ys] at h
  split at h
  · split at h
    · cases h;exact hb e (List.mem_cons_self ..)
    · exact Zcq h fun e he=>hb e (List.mem_cons_of_mem _ he)
  · cases h
theorem Zi4 (ht : Zk P tab) {t : TypeId} {kt et : TypeId} (h : (tab t).map Ty.kind = some (.map kt et)) : P.underlying t = some (.map kt et):=by
 obtain ⟨d,g,h1,h2,hf⟩:=Qc ht h
 cases hf
 exact h2
theorem Zhr (ht : Zk P tab) {t : TypeId} {kk : IntKind} (h : (tab t).map Ty.kind = some (.int kk)) : P.underlying t = some (.int kk):=by
 obtain ⟨d,g,h1,h2,hf⟩:=Qc ht h
 cases hf
 exact h2
theorem QV {t : TypeId} {kk : IntKind} (h : P.underlying t = some (.int kk)) (em : Bool) (k : IntKind) (i : Int) (w : World) : (Instr.checkKey em 10000 t (.int k i)).run P w = .ok () w:=by
 rw [show (10000 : Nat) = 9999 + 1 from rfl,Instr.checkKey]
 simp [run_underlying h]
theorem ZaD {t : TypeId} {kk : IntKind} (h : P.underlying t = some (.int kk)) {x : Value} {es : List MapEntry} {r : Option (Nat × Value)} (hr : Instr.findNow (.int kk) x es 0 = some r) (w : World) : (Instr.findKey t x es).run P w = .ok r w:=by
 simp [Instr.findKey,run_underlying h,hr]
theorem RepH.map {F : Nat → Prop} {ids : Nat → Nat × Nat} {w : World} {h : Hp} {nx : Nm} (hh : RepH F ids w h nx) {n : Nat} {es : List (Value × V)} (hn : h n = some (.map es)) : ∃ (ar : Array MapEntry) (k : Nat),w.heap[(ids n).1]? = some (.map ar k) ∧ ar.size = es.length ∧
 ∀ (i : Nat) (e : Value × V) (m : MapEntry),es[i]? = some e → ar[i]? = some m → m.key = e.1 ∧ RepV (Ze F h ids) ids w e.2 m.val:=hh.blk n _ hn
theorem Zbm {w : World} {b : Nat} {es : Array MapEntry} {c : Nat} (h : w.heap[b]? = some (.map es c)) : (getObj b).run P w = .ok (.map es c) w:=by
 simp [getObj,Sem.run,h]
theorem ZeY {w : World} {b : Nat} {es : Array MapEntry} {c : Nat} (o : Obj) (h : w.heap[b]? = some (.map es c)) : (setObj b o).run P w = .ok () (World.put w b o):=by
 simp [setObj,Sem.run,World.put,h]
theorem ZhO {M : Nm} {nm : Nat} (hfresh : ¬ M nm) {ty : TypeId} {e : Operand → V} {h : Hp} {K : V → Hp → Prop} (hK : K (.mp nm) (upd h nm (some (.map [])))) : AOp P (.makeMap ty none) e h M nm K:=by
 refine AOp.ok fun F ids w a o ho hh h1 h2=>⟨_,_,hK,?_⟩
 have hchg:=Chg.new hh hfresh (.map #[] 0) (.map []) (by intro e he;cases he) (fun ids' A _ _=>⟨#[],0,Yx _ _,rfl,fun i e m he=>by simp at he⟩) (by intro _ _ _ h;cases h)
 refine OpOk.made (val:=.map (some w.heap.size)) hchg ?_ ?_ (.mp _ (.inr rfl))
 · simp [execOp,ho,Instr.makeMap]
 · have:=RepV.mp (A:=Ze F (upd h nm (some (B.map []))) (upd ids nm (w.heap.size,0))) (ids:=upd ids nm (w.heap.size,0)) (w:=w.alloc (Obj.map #[] 0)) nm
   rw [Zb] at this
   exact this
theorem Zdj {ty : TypeId} {t : List V} {h : List (Nat × B)} {b : Nat} {K : V → List (Nat × B) → Prop} (k : Zc2 h b (.map []) fun h=>K (.mp b) h) : OpB P (.makeMap ty none) t h b K:=by
 obtain ⟨l',hk,e⟩:=ZX k
 exact ⟨ZhO (M:=Lt b) (Nat.lt_irrefl b) (K:=fun v h'=>∃ l,h' = hAt l ∧ K v l) ⟨l',e.symm,hk⟩⟩
theorem Zm2 {F : Nat → Prop} {ids : Nat → Nat × Nat} {w : World} {h : Hp} {nx : Nm} (hh : RepH F ids w h nx) {n : Nat} {es es' : List (Value × V)} (hn : h n = some (.map es)) {ar ar' : Array MapEntry} {c c' : Nat} (g1 : w.heap[(ids n).1]? = some (.map ar c)) (hl : ar'.size = es'.length)
 (hb : ∀ e ∈ es',e.2.Below nx) (hr : ∀ (i : Nat) (e : Value × V) (m : MapEntry),es'[i]? = some e → ar'[i]? = some m → m.key = e.1 ∧ RepV (Ze F h ids) ids w e.2 m.val) :
 Chg F ids w h nx ids (World.put w (ids n).1 (.map ar' c')) (upd h n (some (.map es'))) nx:=by
 have hlt : (ids n).1 < w.heap.size:=(Array.getElem?_eq_some_iff.1 g1).1
 refine Chg.write hh hn rfl (.map ar c) _ g1 (fun _ _ _ h=>by cases h) (fun es k _=>⟨_,_,rfl⟩) hb fun A hA=>⟨ar',c',ZQ _ _ _ hlt,hl,fun i e m he hm=>?_⟩
 obtain ⟨q1,q2⟩:=hr i e m he hm
 refine ⟨q1,q2.mono (A:=Ze F h ids) ?_ hA (fun _ _=>rfl) (hb e (List.mem_of_getElem? he))⟩
 refine ⟨Nat.le_of_eq (Zbk _ _ _).symm,fun b _ hb=>Zz _ _ _ _ fun e=>hb (.inr ⟨n,_,hn,rfl,e.symm⟩),fun b arr T fz hc=>⟨arr,?_,rfl⟩,fun b es k hc=>?_,⟨rfl,rfl⟩,fun a=>?_⟩
 · rw [Zz _ _ _ _ (fun e=>by subst e;rw [g1] at hc;cases hc)];exact hc
 · by_cases e : b = (ids n).1
   · subst e;exact ⟨ar',c',ZQ _ _ _ hlt⟩
   · exact ⟨es,k,by rw [Zz _ _ _ _ e];exact hc⟩
 · by_cases e : a.block = (ids n).1
   · exact Ze5 (by rw [e];exact g1) (by rw [e];exact ZQ _ _ _ hlt)
   · exact YZ (Zz _ _ _ _ e)
end
set_option linter.unusedVariables false
set_option linter.unusedSimpArgs false
section
variable {P : Program} {tab : Tab}
end
set_option linter.unusedVariables false
set_option linter.unusedSimpArgs false
section
variable {P : Program} {tab : Tab}
end
open Go.ChangeShapes Go.WideShapes Go.ChangeAt Go.RowKit Go.Deep
set_option linter.unusedVariables false
set_option linter.unusedSimpArgs false
theorem Goes.grown {w w' : World} (h : Goes (fun _=>False) w w') : Grown w w':=by
 refine ⟨⟨h.env.1,h.env.2,fun i hi=>?_⟩,h.frz,h.size⟩
 rw [h.same i hi (fun x=>x)]
 cases w.heap[i]? with
 | none=>rfl
 | some o=>cases o <;> simp
def ZcX (tab : Tab) (t : TypeId) : Nat:=
 match tab t with
 | some τ=>τ.size
 | none=>0
def Zhp (sh : TypeId → List D → Prop) : List (Nat × TypeId) → List D → Prop
 | [],row=>row = []
 | p :: fs,row=>∃ a b,row = a ++ b ∧ sh p.2 a ∧ Zhp sh fs b
def Z5 (tab : Tab) : Nat → TypeId → List D → Prop
 | 0,_,_=>False
 | n + 1,t,row=>match (tab t).map Ty.kind with
  | some (.int k)=>∃ x : Int,row = [.c (.int k x)] ∧ (Lit.int k x).wf = true
  | some .bool=>∃ b,row = [.c (.bool b)]
  | some (.slice e)=>∃ rows,row = [.lst (ZcX tab e) rows] ∧ rows.length ≤ maxLen ∧ ∀ r ∈ rows,Z5 tab n e r
  | some (.struct fs)=>Zhp (Z5 tab n) fs row
  | _=>False
def ZkL (tab : Tab) : List (Nat × TypeId) → Nat → Nat → Bool
 | [],off,size=>off == size
 | p :: fs,off,size=>p.1 == off && ZkL tab fs (off + ZcX tab p.2) size
def ZjL (tab : Tab) : Nat → TypeId → Bool
 | 0,_=>false
 | n + 1,t=>match tab t with
  | some τ=>match τ.kind with
   | .int _=>!τ.agg
   | .bool=>!τ.agg
   | .slice e=>!τ.agg && (ZjL tab n e && Nat.blt 0 (ZcX tab e))
   | .struct fs=>τ.agg && (ZkL tab fs 0 τ.size && fs.all fun p=>ZjL tab n p.2)
   | _=>false
  | none=>false
def RepRow (w : World) (row : List D) (cs : List Value) : Prop:=row.length = cs.length ∧ ∀ (j : Nat) (d : D) (v : Value),row[j]? = some d → cs[j]? = some v → RepD (fun _=>False) w d v
theorem RepRow.append {w : World} {a b : List D} {x y : List Value} (h : RepRow w a x) (h' : RepRow w b y) : RepRow w (a ++ b) (x ++ y):=by
 refine ⟨by simp [h.1,h'.1],fun j d v hd hv=>?_⟩
 by_cases hj : j < a.length
 · rw [List.getElem?_append_left hj] at hd
   rw [List.getElem?_append_left (by rw [← h.1];exact hj)] at hv
   exact h.2 j d v hd hv
 · rw [List.getElem?_append_right (by omega)] at hd
   rw [List.getElem?_append_right (by rw [← h.1];omega),← h.1] at hv
   exact h'.2 _ d v hd hv
theorem RepRow.one {w : World} {d : D} {v : Value} (h : RepD (fun _=>False) w d v) : RepRow w [d] [v]:=by
 refine ⟨rfl,fun j d' v' hd hv=>?_⟩
 cases j with
 | zero=>simp at hd hv;subst hd;subst hv;exact h
 | succ j=>simp at hd
section
variable {P : Program} {tab : Tab} {H : Type} {enc : TypeId × Value → H} {w : World}
theorem Ze1 (ht : Zk P tab) {t : TypeId} {τ : Ty} (h : tab t = some τ) : P.cellsOf t = τ.size:=by
 obtain ⟨⟨i,z,h1,h2,_⟩,_,_⟩:=ht t τ h
 simp [Program.cellsOf,h1,h2]
theorem Zjk {m : Nat} {t : TypeId} (h : ZjL tab m t = true) : ∃ τ,tab t = some τ:=by
 cases m with
 | zero=>cases h
 | succ m=>
  unfold ZjL at h
  split at h
  · next τ hτ=>exact ⟨τ,hτ⟩
  · cases h
theorem Zhk (ht : Zk P tab) {m : Nat} {t : TypeId} (h : ZjL tab m t = true) : P.cellsOf t = ZcX tab t:=by
 obtain ⟨τ,hτ⟩:=Zjk h
 rw [Ze1 ht hτ,ZcX,hτ]
theorem ZqK (ht : Zk P tab) : ∀ (m : Nat) (t : TypeId) (n : Nat) (cs : List Value) (x : DataW H × List MemPlace),ZjL tab m t = true → DataW.trod enc P w 0 (fun _=>true) true n t cs = some x → ∃ row,Z5 tab m t row ∧ RepRow w row cs:=by
 intro m
 induction m with
 | zero=>intro t n cs x h;cases h
 | succ m ih=>
  intro t n cs x hok h
  unfold ZjL at hok
  split at hok
  case h_2=>cases hok
  next τ hτ=>
  obtain ⟨-,⟨d0,hu,hf⟩,-⟩:=ht t τ hτ
  obtain ⟨sz,by_,ag,ze,kind⟩:=τ
  dsimp only at hok hf
  cases kind <;> try cases hok
  case int k=>
   cases hf
   obtain ⟨n,rfl,rfl,hwf⟩:=DataW.trod_int hu h
   exact ⟨[.c (.int k n)],by unfold Z5;rw [hτ];exact ⟨n,rfl,hwf⟩,.one (.c _ rfl)⟩
  case bool=>
   cases hf
   obtain ⟨b,rfl,rfl⟩:=DataW.trod_bool hu h
   exact ⟨[.c (.bool b)],by unfold Z5;rw [hτ];exact ⟨b,rfl⟩,.one (.c _ rfl)⟩
  case slice e=>
   cases hf
   rw [Bool.and_eq_true,Bool.and_eq_true] at hok
   obtain ⟨_,hok1,hpos⟩:=hok
   have hpos : 0 < ZcX tab e:=by simpa using hpos
   have hsz:=Zhk ht hok1
   have hS : ∀ rows : List (List D),rows.length ≤ maxLen → (∀ r ∈ rows,Z5 tab m e r) → Z5 tab (m + 1) t [.lst (ZcX tab e) rows]:=by
    intro rows h1 h2
    unfold Z5;rw [hτ];exact ⟨rows,rfl,h1,h2⟩
   rcases open_slice hu h with ⟨rfl,_⟩ | ⟨a,len,cap,mm,n',Dd,Pl,rfl,_,hl,hm,hmm,_,hx⟩
   · exact ⟨_,hS [] (by simp) (by simp),.one (.emp _ _ _)⟩
   · by_cases h0 : len = 0
     · subst h0;exact ⟨_,hS [] (by simp) (by simp),.one (.emp _ _ _)⟩
     have hmm : mm = cap:=hmm
     obtain ⟨f,hf⟩:=choose_lt (α:=List Value × List D) (n:=len) (p:=fun i q=>w.cells? 0 (a.add (i * P.cellsOf e)) (P.cellsOf e) = some q.1 ∧ Z5 tab m e q.2 ∧ RepRow w q.2 q.1) (fun i hi=>by
      obtain ⟨cs',h1,h2⟩:=hx i (by omega)
      obtain ⟨row,h3,h4⟩:=ih e n' cs' _ hok1 h2
      exact ⟨(cs',row),h1,h3,h4⟩)
     rw [hsz] at hf
     have hcell : ∀ i,i < len → (f i).1.length = ZcX tab e ∧ ∀ j,j < ZcX tab e → w.cell? (a.add (i * ZcX tab e + j)) = (f i).1[j]?:=by
      intro i hi
      obtain ⟨_,h2,h3⟩:=World.cells?_some (hf i hi).1
      exact ⟨h2,fun j hj=>by rw [← add_add];exact h3 j hj⟩
     have hc00 : ∃ v,w.cell? a = some v:=by
      obtain ⟨h2,h3⟩:=hcell 0 (by omega)
      have:=h3 0 hpos
      rw [List.getElem?_eq_getElem (by omega)] at this
      rw [Nat.zero_mul] at this
      exact ⟨_,by simpa [Addr.add] using this⟩
     obtain ⟨v0,hv0⟩:=hc00
     have hspot:=World.cell?_spot hv0
     obtain ⟨b,o,spot⟩:=a
     dsimp only at hspot
     subst hspot
     have hadd : ∀ k,Addr.add ⟨b,o,none⟩ k = ⟨b,o + k,none⟩:=by
      intro k
      unfold Addr.add
      by_cases hk : k = 0 <;> simp [hk]
     have hb : b < w.heap.size:=by
      by_cases hb : b < w.heap.size
      · exact hb
      · simp [World.cell?,show w.heap[b]? = none from by simp;omega] at hv0
     have hrow : ∀ i r,((List.range len).map fun i=>(f i).2)[i]? = some r → i < len ∧ r = (f i).2:=by
      intro i r hi
      by_cases hl2 : i < len
      · rw [List.getElem?_map,List.getElem?_range hl2] at hi
        exact ⟨hl2,(Option.some.inj hi).symm⟩
      · rw [List.getElem?_map,List.getElem?_eq_none (by simpa using hl2)] at hi
        cases hi
     have hlen : ((List.range len).map fun i=>(f i).2).length = len:=by simp
     refine ⟨_,hS ((List.range len).map fun i=>(f i).2) (by rw [hlen];omega) (fun r hr=>?_),.one ?_⟩
     · obtain ⟨i,hi,rfl⟩:=List.mem_map.1 hr
       exact (hf i (by simpa using hi)).2.1
     · have key:=RepD.lst (A:=fun _=>False) (w:=w) (ZcX tab e) ((List.range len).map fun i=>(f i).2) b o cap (fun i j=>(f i).1.getD j undef) (by rw [hlen];exact hl) hb (fun h=>h) (fun r hr=>?_) (fun i r j d hi hj=>?_) (fun i r j d hi hj=>?_)
       · rw [hlen] at key;exact key
       · obtain ⟨i,hi,rfl⟩:=List.mem_map.1 hr
         have hi:=List.mem_range.1 hi
         rw [(hf i hi).2.2.1,(hcell i hi).1]
       · obtain ⟨hlt,rfl⟩:=hrow i r hi
         have hjl : j < (f i).1.length:=by rw [← (hf i hlt).2.2.1];exact (List.getElem?_eq_some_iff.1 hj).1
         have:=(hcell i hlt).2 j (by rw [← (hcell i hlt).1];exact hjl)
         rw [hadd] at this
         rw [this,List.getD_eq_getElem?_getD,List.getElem?_eq_getElem hjl]
         rfl
       · obtain ⟨hlt,rfl⟩:=hrow i r hi
         have hjl : j < (f i).1.length:=by rw [← (hf i hlt).2.2.1];exact (List.getElem?_eq_some_iff.1 hj).1
         refine (hf i hlt).2.2.2 j d _ hj ?_
         rw [List.getD_eq_getElem?_getD,List.getElem?_eq_getElem hjl]
         rfl
  case struct fs=>
   cases hf with
   | struct fa _ hfl=>
   rw [Bool.and_eq_true,Bool.and_eq_true] at hok
   obtain ⟨_,htile,hall⟩:=hok
   obtain ⟨xs,n',_,_,hcl,hxl,hf⟩:=DataW.trod_struct hu h
   have hsz : P.cellsOf t = sz:=Ze1 ht hτ
   have key : ∀ (l : List Field) (off : Nat),(∀ f ∈ l,∃ y,DataW.trod enc P w 0 (fun _=>true) true n' f.type ((cs.drop f.offset).take (P.cellsOf f.type)) = some y) → ZkL tab (l.map fun f=>(f.offset,f.type)) off sz = true → ((l.map fun f=>(f.offset,f.type)).all fun p=>ZjL tab m p.2) = true →
    ∃ row,Zhp (Z5 tab m) (l.map fun f=>(f.offset,f.type)) row ∧ RepRow w row (cs.drop off):=by
    intro l
    induction l with
    | nil=>
     intro off _ h2 _
     have : off = sz:=by simpa [ZkL] using h2
     refine ⟨[],rfl,?_⟩
     rw [List.drop_eq_nil_of_le (by omega)]
     exact ⟨rfl,by simp⟩
    | cons f l ihl=>
     intro off h1 h2 h3
     simp only [List.map_cons,ZkL,Bool.and_eq_true,beq_iff_eq] at h2
     simp only [List.map_cons,List.all_cons,Bool.and_eq_true] at h3
     obtain ⟨y,hy⟩:=h1 f (by simp)
     obtain ⟨r1,s1,s2⟩:=ih f.type n' _ y h3.1 hy
     obtain ⟨r2,s3,s4⟩:=ihl (off + ZcX tab f.type) (fun g hg=>h1 g (by simp [hg])) h2.2 h3.2
     refine ⟨r1 ++ r2,⟨r1,r2,rfl,s1,s3⟩,?_⟩
     have:=s2.append s4
     rw [h2.1,Zhk ht h3.1,← List.drop_drop,List.take_append_drop] at this
     exact this
   obtain ⟨row,s1,s2⟩:=key fa.toList 0 (fun f hf'=>by
    obtain ⟨i,hi,e⟩:=List.getElem_of_mem hf'
    have hfi : fa[i]? = some f:=by rw [← e];simp at hi ⊢
    rw [hf i f hfi]
    have hi' : i < xs.length:=by rw [hxl];simpa using hi
    exact ⟨xs[i],by simp [hi']⟩) (by rw [hfl];exact htile) (by rw [hfl];exact hall)
   refine ⟨row,?_,by simpa using s2⟩
   unfold Z5;rw [hτ]
   rw [hfl] at s1
   exact s1
end
open Go.ChangeShapes Go.WideShapes Go.ChangeAt Go.RowKit Go.Deep
set_option linter.unusedVariables false
set_option linter.unusedSimpArgs false
def ZuD (b : Bool) (row : List D) : V:=
 match b with
 | true=>.agg (row.map D.toV)
 | false=>match row with
  | [d]=>d.toV
  | _=>.un
def Zpt (tab : Tab) (t : TypeId) (row : List D) : V:=
 match tab t with
 | some τ=>ZuD τ.agg row
 | none=>.un
def AllR {α β : Type} (R : α → β → Prop) : List α → List β → Prop
 | [],[]=>True
 | a :: l,b :: l'=>R a b ∧ AllR R l l'
 | _,_=>False
theorem AllR.nil {α β : Type} {R : α → β → Prop} {r : List β} (h : AllR R [] r) : r = []:=by
 cases r with
 | nil=>rfl
 | cons b l=>exact h.elim
theorem AllR.cons {α β : Type} {R : α → β → Prop} {a : α} {l : List α} {r : List β} (h : AllR R (a :: l) r) : ∃ b l',r = b :: l' ∧ R a b ∧ AllR R l l':=by
 cases r with
 | nil=>exact h.elim
 | cons b l'=>exact ⟨b,l',rfl,h.1,h.2⟩
section
variable {P : Program} {tab : Tab} {H : Type} {enc : TypeId × Value → H} {w : World}
theorem Zry (ht : Zk P tab) {m : Nat} {t : TypeId} (hok : ZjL tab m t = true) {r : Reach} {b0 : Nat} {v : Value} {d : DataW H} {ps : List MemPlace} (hval : Value.okWide P w r b0 t v) (h : DataW.Trod enc P w 0 (fun _=>true) true t v d ps) (ids : Nat → Nat × Nat) :
 ∃ row,Z5 tab m t row ∧ RepV (fun _=>False) ids w (Zpt tab t row) v:=by
 obtain ⟨n,hn⟩:=h
 obtain ⟨row,hs,hl,hrep⟩:=ZqK ht m t n _ _ hok hn
 refine ⟨row,hs,?_⟩
 obtain ⟨τ,hτ⟩:=Zjk hok
 obtain ⟨-,⟨d0,hu,hf⟩,-⟩:=ht t τ hτ
 have hag : ∀ b,τ.agg = b → Zpt tab t row = ZuD b row:=by
  intro b hb
  unfold Zpt;rw [hτ];dsimp only;rw [hb]
 have one : τ.agg = false → (∀ cs,v ≠ .agg cs) → RepV (fun _=>False) ids w (Zpt tab t row) v:=by
  intro ha hv
  have hc : v.cells.toList = [v]:=by
   cases v with
   | agg cs=>exact absurd rfl (hv cs)
   | _=>rfl
  rw [hc] at hl hrep
  obtain ⟨x,rfl⟩:=List.length_eq_one_iff.1 hl
  rw [hag _ ha]
  exact (hrep 0 x v rfl rfl).toV
 cases m with
 | zero=>cases hok
 | succ m=>
  unfold ZjL at hok
  rw [hτ] at hok
  dsimp only at hok
  generalize hk : τ.kind = kind at hok hf
  cases kind <;> try cases hok
  case int k=>
   have ha : τ.agg = false:=by simpa using hok
   rw [ha] at hf
   cases hf
   refine one ha fun cs e=>?_
   subst e
   simp [Value.okWide,hu,Cell.okWide,Cell.ok] at hval
  case bool=>
   have ha : τ.agg = false:=by simpa using hok
   rw [ha] at hf
   cases hf
   refine one ha fun cs e=>?_
   subst e
   simp [Value.okWide,hu,Cell.okWide,Cell.ok] at hval
  case slice e=>
   rw [Bool.and_eq_true] at hok
   have ha : τ.agg = false:=by simpa using hok.1
   rw [ha] at hf
   cases hf
   refine one ha fun cs e=>?_
   subst e
   simp [Value.okWide,hu,Cell.okWide,Cell.ok] at hval
  case struct fs=>
   rw [Bool.and_eq_true] at hok
   have ha : τ.agg = true:=hok.1
   rw [ha] at hf
   cases hf with
   | struct fa _ hfl=>
   rw [hag _ ha]
   obtain ⟨cs,rfl,_,_⟩ : ∃ cs,v = .agg cs ∧ cs.size = P.cellsOf t ∧ Row.okWide P w r b0 t cs:=by
    simpa [Value.okWide,hu] using hval
   refine .agg _ _ (by simpa [Value.cells] using hl.symm) fun i x u hx hui=>?_
   rw [List.getElem?_map,Option.map_eq_some_iff] at hx
   obtain ⟨q,hq,rfl⟩:=hx
   exact (hrep i q u hq (by simpa [Value.cells] using hui)).toV
theorem ZkQ (ht : Zk P tab) {m : Nat} {r : Reach} {b0 : Nat} (ids : Nat → Nat × Nat) : ∀ (ts : List TypeId) (vs : List Value) (ds : List (DataW H)) (ps : List MemPlace),DataW.TrodAll enc P w 0 (fun _=>true) true ts vs ds ps →
 (∀ (j : Nat) (t : TypeId) (v : Value),ts[j]? = some t → vs[j]? = some v → Value.okWide P w r b0 t v) → (∀ t ∈ ts,ZjL tab m t = true) →
 ∃ rows,AllR (Z5 tab m) ts rows ∧ vs.length = ts.length ∧ ds.length = ts.length ∧ (List.zipWith (Zpt tab) ts rows).length = ts.length ∧ ∀ (j : Nat) (x : V) (v : Value),(List.zipWith (Zpt tab) ts rows)[j]? = some x → vs[j]? = some v → RepV (fun _=>False) ids w x v
 | [],vs,ds,ps,h,_,_=>by
  obtain ⟨rfl,rfl,rfl⟩:=trodAll_nil h
  exact ⟨[],trivial,rfl,rfl,rfl,by simp⟩
 | t :: ts,vs,ds,ps,h,hv,hok=>by
  obtain ⟨v,vs',d,ds',p,q,rfl,rfl,rfl,h1,h2⟩:=trodAll_cons h
  obtain ⟨row,s1,s2⟩:=Zry ht (hok t (by simp)) (hv 0 t v rfl rfl) h1 ids
  obtain ⟨rows,s3,s4,s5,s6,s7⟩:=ZkQ ht ids ts vs' ds' q h2 (fun j t v a b=>hv (j + 1) t v a b) (fun t h=>hok t (by simp [h]))
  refine ⟨row :: rows,⟨s1,s3⟩,by simp [s4],by simp [s5],by simpa using s6,fun j x v hx hv=>?_⟩
  cases j with
  | zero=>simp at hx hv;subst hx;subst hv;exact s2
  | succ j=>exact s7 j x v (by simpa using hx) (by simpa using hv)
theorem Zja (hl : laidOutB P = true) {W W' : World} {sp : Nat → Bool} : ∀ (ts : List TypeId) (vs : List Value) (ds : List (DataW H)) (ps : List MemPlace),DataW.TrodAll enc P W 0 (fun _=>true) true ts vs ds ps →
 (∀ t ∈ ts,P.readableRec t = true ∧ t < P.types.size) → (∀ p ∈ ps,W.sameAt W' p) → (∀ p ∈ ps,sp p.block = true) → DataW.TrodAll enc P W' 0 sp true ts vs ds ps
 | [],vs,ds,ps,h,_,_,_=>by
  obtain ⟨rfl,rfl,rfl⟩:=trodAll_nil h
  exact trodAll_mk0
 | t :: ts,vs,ds,ps,h,hr,hs,hp=>by
  obtain ⟨v,vs',d,ds',p,q,rfl,rfl,rfl,h1,h2⟩:=trodAll_cons h
  exact ⟨p,q,Go.WideElems.Trod_stays hl (hr t (by simp)).1 (hr t (by simp)).2 h1 (fun x hx=>hs x (by simp [hx])) (fun x hx=>hp x (by simp [hx])),
   Zja hl ts vs' ds' q h2 (fun t h=>hr t (by simp [h])) (fun x hx=>hs x (by simp [hx])) (fun x hx=>hp x (by simp [hx])),rfl⟩
theorem ZnR (ht : Zk P tab) {f : FuncId} {fn : Func} {s : ChangeSpec} (m : Nat) {ts : List TypeId} (hts : fn.params.toList = ts) (hl : laidOutB P = true) (hr0 : (fn.params.toList.all fun t=>P.readableRec t && (Nat.blt t P.types.size && ZjL tab m t)) = true) (hvars : s.vars = [])
 (hsfn : ∀ ds : List (DataW H),ds.length = fn.params.size → s.fn H ds = { results:=[.lit (.bool true)],args:=ds }) {tb : TypeId} (hrt : fn.resultTypes = #[tb]) (hub : P.underlying tb = some .bool)
 (spec : ∀ rows : List (List D),AllR (Z5 tab m) ts rows → PSpec P f (List.zipWith (Zpt tab) ts rows) (V.bool true))
 {apart fresh handsOn again : Bool} (W : World) (base : Nat) (args : Array Value) (ds gs : List (DataW H)) (before : List MemPlace)
 (hval : ∀ (j : Nat) t v,fn.params[j]? = some t → args[j]? = some v → Value.okWide P W .any base t v) (hW : DataW.Whole enc P fn.params.toList s.vars apart W args.toList ds gs before) :
 Calls P f args W fun e W'=>∃ v,e = .returned v ∧ s.post enc P fn apart fresh handsOn again W args v W':=by
 subst hts
 have hr : ∀ t ∈ fn.params.toList,(P.readableRec t = true ∧ t < P.types.size) ∧ ZjL tab m t = true:=by
  intro t h
  have:=List.all_eq_true.1 hr0 t h
  rw [Bool.and_eq_true,Bool.and_eq_true] at this
  exact ⟨⟨this.1,by simpa using this.2.1⟩,this.2.2⟩
 have hW':=hW
 obtain ⟨p,q,hA,hV,hps,hfz,hnd⟩:=hW
 rw [hvars] at hV
 obtain ⟨rfl,rfl⟩:=trodVars_none hV
 rw [List.append_nil] at hps
 subst hps
 obtain ⟨rows,s1,s2,s3,s4,s5⟩:=ZkQ (b0:=base) ht (fun _=>(0,0)) fn.params.toList args.toList ds before hA (fun j t v h1 h2=>hval j t v (by simpa using h1) (by simpa using h2)) (fun t h=>(hr t h).2)
 obtain ⟨_,c⟩:=(spec rows s1).2.2 (fun _=>False) (fun _=>(0,0)) W args (fun b h=>h.elim) (by rw [s4,← s2];simp) (fun i x v hx hv=>s5 i x v hx (by simpa using hv))
 refine c.mono ?_
 rintro e W' ⟨v,rfl,hrv,hg⟩
 have hv : v = .bool true:=by cases hrv;rfl
 subst hv
 have hfn:=hsfn (ds ++ []) (by rw [List.append_nil,s3];simp)
 refine ⟨_,rfl,post_of_same (pa:=before) (pv:=[]) hW' (fun b sp hd=>?_) (fun sp hsp=>?_) (fun sp hsp=>?_) (by simp) (hg.grown.frame _) hg.frz (ok_one hrt rfl ?_)⟩
 · rw [hfn,hrt]
   exact trodAll_mk1 ⟨1,by simp [DataW.trod,Value.cells,hub]⟩
 · rw [hfn]
   show DataW.TrodAll enc P W' 0 sp true fn.params.toList args.toList (ds ++ []) before
   rw [List.append_nil]
   refine Zja hl _ _ _ _ hA (fun t h=>(hr t h).1) (fun x hx=>?_) hsp
   have hb : x.block < W.heap.size:=hW'.lt x hx
   cases x with
   | cell b off=>exact Zei (hg.same b hb fun h=>h) off
   | map b=>exact hg.same b hb fun h=>h
 · rw [hfn,hvars];rfl
 · simp [Value.okWide,hub,Cell.okWide,Cell.ok]
end
set_option linter.unusedVariables false
set_option linter.unusedSimpArgs false
structure Cmp {α : Type} (c : α → α → Int) : Prop where
 anti : ∀ x y,c x y = - c y x
 trans : ∀ x y z,¬ 0 < c x y → ¬ 0 < c y z → c x z = min (c x y) (c y z)
section
variable {α : Type} {c : α → α → Int}
def le (c : α → α → Int) (x y : α) : Prop:=¬ c y x < 0
theorem Cmp.le_iff (h : Cmp c) {x y : α} : le c x y ↔ c x y ≤ 0:=by
 unfold le
 have:=h.anti x y
 omega
theorem Cmp.le_trans (h : Cmp c) {x y z : α} (a : le c x y) (b : le c y z) : le c x z:=by
 rw [h.le_iff] at *
 have:=h.trans x y z (by omega) (by omega)
 omega
theorem Cmp.lt_le (h : Cmp c) {x y z : α} (a : c x y < 0) (b : le c y z) : c x z < 0:=by
 rw [h.le_iff] at b
 have:=h.trans x y z (by omega) (by omega)
 omega
theorem Cmp.le_lt (h : Cmp c) {x y z : α} (a : le c x y) (b : c y z < 0) : c x z < 0:=by
 rw [h.le_iff] at a
 have:=h.trans x y z (by omega) (by omega)
 omega
theorem Cmp.lt_le' (h : Cmp c) {x y : α} (a : c x y < 0) : le c x y:=by
 rw [h.le_iff];omega
def Srt (c : α → α → Int) (l : List α) : Prop:=l.Pairwise (le c)
def mrg (c : α → α → Int) : List α → List α → List α
 | [],B=>B
 | x :: A,B=>go x (mrg c A) B
 where
 go (x : α) (k : List α → List α) : List α → List α
  | []=>x :: k []
  | y :: B=>if c y x < 0 then y :: go x k B else x :: k (y :: B)
theorem QJ (A : List α) : mrg c A [] = A:=by
 induction A with
 | nil=>rfl
 | cons x A ih=>rw [mrg,mrg.go,ih]
theorem Zau (x y : α) (A B : List α) : mrg c (x :: A) (y :: B) = if c y x < 0 then y :: mrg c (x :: A) B else x :: mrg c A (y :: B):=by
 simp only [mrg,mrg.go]
theorem Yw : ∀ (A1 B1 A2 B2 : List α),(∀ y ∈ B1,∀ x ∈ A2,c y x < 0) → (∀ x ∈ A1,∀ y ∈ B2,le c x y) → mrg c (A1 ++ A2) (B1 ++ B2) = mrg c A1 B1 ++ mrg c A2 B2
 | [],[],A2,B2,_,_=>rfl
 | [],y :: B1,[],B2,h,h'=>by simp [mrg]
 | [],y :: B1,x :: A2,B2,h,h'=>by
  have ih:=Yw [] B1 (x :: A2) B2 (fun y hy=>h y (by simp [hy])) h'
  simp only [List.nil_append,mrg] at ih ⊢
  rw [List.cons_append,mrg.go,if_pos (h y (by simp) x (by simp)),ih]
  rfl
 | x :: A1,[],A2,[],h,h'=>by simp [QJ]
 | x :: A1,[],A2,y :: B2,h,h'=>by
  have ih:=Yw A1 [] A2 (y :: B2) h (fun x hx=>h' x (by simp [hx]))
  have hn : ¬ c y x < 0:=h' x (by simp) y (by simp)
  rw [QJ] at ih ⊢
  rw [List.nil_append] at ih ⊢
  rw [List.cons_append,Zau,if_neg hn,ih]
  rfl
 | x :: A1,y :: B1,A2,B2,h,h'=>by
  rw [List.cons_append,List.cons_append,Zau,Zau]
  split
  · have ih:=Yw (x :: A1) B1 A2 B2 (fun y hy=>h y (by simp [hy])) h'
    rw [List.cons_append] at ih
    rw [ih];rfl
  · have ih:=Yw A1 (y :: B1) A2 B2 h (fun x hx=>h' x (by simp [hx]))
    rw [List.cons_append] at ih
    rw [ih];rfl
termination_by A1 B1=>A1.length + B1.length
theorem ZfU : ∀ (A B : List α) (z : α),z ∈ mrg c A B ↔ z ∈ A ∨ z ∈ B
 | [],B,z=>by simp [mrg]
 | x :: A,[],z=>by simp [QJ]
 | x :: A,y :: B,z=>by
  rw [Zau]
  split
  · rw [List.mem_cons,ZfU (x :: A) B z];simp only [List.mem_cons,or_assoc];constructor <;> (rintro (h | h | h | h) <;> simp [h])
  · rw [List.mem_cons,ZfU A (y :: B) z];simp only [List.mem_cons,or_assoc]
termination_by A B=>A.length + B.length
theorem Zab : ∀ (A B : List α),(mrg c A B).length = A.length + B.length
 | [],B=>by simp [mrg]
 | x :: A,[]=>by simp [QJ]
 | x :: A,y :: B=>by
  rw [Zau]
  split
  · rw [List.length_cons,Zab (x :: A) B];simp;omega
  · rw [List.length_cons,Zab A (y :: B)];simp;omega
termination_by A B=>A.length + B.length
theorem Zcy (hc : Cmp c) : ∀ (A B : List α),Srt c A → Srt c B → Srt c (mrg c A B)
 | [],B,_,hB=>by simpa [mrg] using hB
 | x :: A,[],hA,_=>by rw [QJ];exact hA
 | x :: A,y :: B,hA,hB=>by
  have a:=List.pairwise_cons.1 hA
  have b:=List.pairwise_cons.1 hB
  rw [Zau]
  split
  · next h=>
    refine List.pairwise_cons.2 ⟨fun z hz=>?_,Zcy hc (x :: A) B hA b.2⟩
    rcases (ZfU _ _ _).1 hz with hz | hz
    · have hyx:=hc.lt_le' h
      rcases List.mem_cons.1 hz with rfl | hz
      · exact hyx
      · exact hc.le_trans hyx (a.1 z hz)
    · exact b.1 z hz
  · next h=>
    refine List.pairwise_cons.2 ⟨fun z hz=>?_,Zcy hc A (y :: B) a.2 hB⟩
    rcases (ZfU _ _ _).1 hz with hz | hz
    · exact a.1 z hz
    · have hxy : le c x y:=h
      rcases List.mem_cons.1 hz with rfl | hz
      · exact hxy
      · exact hc.le_trans hxy (b.1 z hz)
termination_by A B=>A.length + B.length
def Yu (c : α → α → Int) (z : α) (l : List α) : List α:=l.filter fun x=>decide (c x z = 0)
theorem Zb2 (hc : Cmp c) (z : α) : ∀ (A B : List α),Srt c A → Srt c B → Yu c z (mrg c A B) = Yu c z A ++ Yu c z B
 | [],B,_,_=>by simp [mrg,Yu]
 | x :: A,[],_,_=>by simp [QJ,Yu]
 | x :: A,y :: B,hA,hB=>by
  have a:=List.pairwise_cons.1 hA
  have b:=List.pairwise_cons.1 hB
  rw [Zau]
  split
  · next h=>
    have ih:=Zb2 hc z (x :: A) B hA b.2
    have e : Yu c z (y :: mrg c (x :: A) B) = Yu c z [y] ++ Yu c z (mrg c (x :: A) B):=by simp only [Yu,← List.filter_append];rfl
    have e2 : Yu c z (y :: B) = Yu c z [y] ++ Yu c z B:=by simp only [Yu,← List.filter_append];rfl
    rw [e,ih,e2]
    by_cases hy : c y z = 0
    · have hn : Yu c z (x :: A) = []:=by
       unfold Yu
       rw [List.filter_eq_nil_iff]
       intro w hw hz
       have hz : c w z = 0:=by simpa using hz
       have hyw : c y w < 0:=by
        rcases List.mem_cons.1 hw with rfl | hw
        · exact h
        · exact hc.lt_le h (a.1 w hw)
       have hzw:=hc.anti w z
       have:=hc.trans y w z (by omega) (by omega)
       omega
      rw [hn];simp
    · have hn : Yu c z [y] = []:=by simp [Yu,hy]
      rw [hn];simp
  · next h=>
    have ih:=Zb2 hc z A (y :: B) a.2 hB
    have e : Yu c z (x :: mrg c A (y :: B)) = Yu c z [x] ++ Yu c z (mrg c A (y :: B)):=by simp only [Yu,← List.filter_append];rfl
    have e2 : Yu c z (x :: A) = Yu c z [x] ++ Yu c z A:=by simp only [Yu,← List.filter_append];rfl
    rw [e,ih,e2,List.append_assoc]
termination_by A B=>A.length + B.length
theorem ZeL (hc : Cmp c) (refl : ∀ x,c x x = 0) : ∀ (L M : List α),Srt c L → Srt c M → (∀ z,Yu c z L = Yu c z M) → L = M
 | [],[],_,_,_=>rfl
 | [],y :: M,_,_,h=>by have:=h y;simp [Yu,refl] at this
 | x :: L,[],_,_,h=>by have:=h x;simp [Yu,refl] at this
 | x :: L,y :: M,hL,hM,h=>by
  have a:=List.pairwise_cons.1 hL
  have b:=List.pairwise_cons.1 hM
  have mem : ∀ {w : α} {l l' : List α},Yu c w l = Yu c w l' → w ∈ l → w ∈ l':=by
   intro w l l' e hw
   have : w ∈ Yu c w l:=List.mem_filter.2 ⟨hw,by simp [refl]⟩
   rw [e] at this
   exact (List.mem_filter.1 this).1
  have hyx : le c y x:=by
   rcases List.mem_cons.1 (mem (h x) (by simp)) with e | hx
   · rw [e];unfold le;rw [refl];omega
   · exact b.1 x hx
  have hxy : le c x y:=by
   rcases List.mem_cons.1 (mem (h y).symm (by simp)) with e | hy
   · rw [e];unfold le;rw [refl];omega
   · exact a.1 y hy
  rw [hc.le_iff] at hyx hxy
  have e0 : c x y = 0:=by have:=hc.anti x y;omega
  have e1 : c y x = 0:=by have:=hc.anti x y;omega
  have hxy : x = y:=by
   have:=h y
   simp only [Yu,List.filter_cons,e0,refl,decide_true,if_true] at this
   exact (List.cons.inj this).1
  subst hxy
  rw [ZeL hc refl L M a.2 b.2 fun z=>?_]
  have:=h z
  simp only [Yu,List.filter_cons] at this
  split at this
  · exact (List.cons.inj this).2
  · exact this
theorem ZP (z : α) (l m : List α) : Yu c z (l ++ m) = Yu c z l ++ Yu c z m:=by simp [Yu]
theorem Zfy (x : α) : Srt c [x]:=List.pairwise_singleton _ _
def Z4 (c : α → α → Int) (R : List α) : List α:=R.foldl (fun A x=>mrg c A [x]) []
theorem Zbb (hc : Cmp c) : ∀ (R A : List α),Srt c A → Srt c (R.foldl (fun A x=>mrg c A [x]) A) ∧ (∀ z,Yu c z (R.foldl (fun A x=>mrg c A [x]) A) = Yu c z A ++ Yu c z R) ∧ (R.foldl (fun A x=>mrg c A [x]) A).length = A.length + R.length
 | [],A,hA=>⟨hA,fun z=>by simp [Yu],by simp⟩
 | x :: R,A,hA=>by
  obtain ⟨h1,h2,h3⟩:=Zbb hc R (mrg c A [x]) (Zcy hc A [x] hA (Zfy x))
  refine ⟨h1,fun z=>?_,?_⟩
  · rw [List.foldl_cons,h2,Zb2 hc z A [x] hA (Zfy x),show x :: R = [x] ++ R from rfl,ZP,List.append_assoc]
  · rw [List.foldl_cons,h3,Zab];simp;omega
theorem ZaX (hc : Cmp c) (R : List α) : Srt c (Z4 c R):=(Zbb hc R [] List.Pairwise.nil).1
theorem Zbr (hc : Cmp c) (R : List α) (z : α) : Yu c z (Z4 c R) = Yu c z R:=((Zbb hc R [] List.Pairwise.nil).2.1 z).trans (by simp [Yu])
theorem Za0 (hc : Cmp c) (R : List α) : (Z4 c R).length = R.length:=((Zbb hc R [] List.Pairwise.nil).2.2).trans (by simp)
theorem Zot (refl : ∀ x,c x x = 0) {l m : List α} (h : ∀ z,Yu c z l = Yu c z m) {x : α} (hx : x ∈ l) : x ∈ m:=by
 have : x ∈ Yu c x l:=List.mem_filter.2 ⟨hx,by simp [refl]⟩
 rw [h x] at this
 exact (List.mem_filter.1 this).1
theorem Zhg (hc : Cmp c) (refl : ∀ x,c x x = 0) {D R : List α} (h : Srt c D) (ht : ∀ z,Yu c z D = Yu c z R) : D = Z4 c R:=
 ZeL hc refl D (Z4 c R) h (ZaX hc R) fun z=>(ht z).trans (Zbr hc R z).symm
theorem Zj7 (A : List α) (x : α) : Z4 c (A ++ [x]) = mrg c (Z4 c A) [x]:=by simp [Z4]
theorem Zhi [DecidableEq α] (refl : ∀ x,c x x = 0) {l m : List α} (h : ∀ z,Yu c z l = Yu c z m) : l.Perm m:=by
 rw [List.perm_iff_count]
 intro a
 have e : ∀ l : List α,l.count a = (Yu c a l).count a:=by
  intro l
  unfold Yu
  rw [List.count_filter (by simp [refl])]
 rw [e l,e m,h a]
end
end Go.Proofs.YtdjnjchpgccbiaaGreat.Abs
