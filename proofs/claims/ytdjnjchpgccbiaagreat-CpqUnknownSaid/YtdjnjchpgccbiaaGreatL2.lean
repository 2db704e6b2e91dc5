/- The abstract machine, part 13: contracts of functions, and what a piece of code does, in meaning. -/
import Derived.Test.YtdjnjchpgccbiaaGreatL1
import Derived.ControlIn
import Derived.CallsIn
import Derived.LoopIn
import Derived.RangeFuncLeaves
namespace Go.Proofs.YtdjnjchpgccbiaaGreat.Abs
set_option linter.unusedVariables false
section
variable {P : Program}
inductive Ex where
 | normal | exit (id : Nat) | ret
def Ex.is : Ex → Exit → Prop
 | .normal,.normal=>True
 | .exit i,.exit j=>i = j
 | .ret,.ret=>True
 | _,_=>False
def ACall (P : Program) (f : FuncId) (args : List V) (h : Hp) (M : Nm) (nm : Nat) (K : V → Hp → Prop) : Prop:=
 ∀ (F : Nat → Prop) (ids : Nat → Nat × Nat) (w : World) (vals : Array Value),RepH F ids w h M → vals.size = args.length →
  (∀ (i : Nat) (x : V) (v : Value),args[i]? = some x → vals[i]? = some v → RepV (Ze F h ids) ids w x v) →
  ((callFunc f vals).run P w = .ok (.enter f vals) w ∧
  Calls P f vals w fun e w'=>∃ v r h' ids',e = .returned v ∧ K r h' ∧ Chg F ids w h M ids' w' h' (fun k=>M k ∨ (nm ≤ k ∧ k < nm + 64)) ∧ RepV (Ze F h' ids') ids' w' r v ∧ r.Below (fun k=>M k ∨ (nm ≤ k ∧ k < nm + 64))) ∨
  ∃ v r h' ids' w',(callFunc f vals).run P w = .ok (.value v) w' ∧ K r h' ∧ Chg F ids w h M ids' w' h' (fun k=>M k ∨ (nm ≤ k ∧ k < nm + 64)) ∧ RepV (Ze F h' ids') ids' w' r v ∧ r.Below (fun k=>M k ∨ (nm ≤ k ∧ k < nm + 64))
theorem ACall.mono {f : FuncId} {args : List V} {h : Hp} {M : Nm} {nm : Nat} {K K' : V → Hp → Prop} (hc : ACall P f args h M nm K) (hk : ∀ r h',K r h' → K' r h') : ACall P f args h M nm K':=by
 intro F ids w vals hh hs hv
 rcases hc F ids w vals hh hs hv with ⟨h1,h2⟩ | ⟨v,r,h',ids',w',h1,hK,hrest⟩
 · exact .inl ⟨h1,h2.mono fun e w' ⟨v,r,h',ids',he,hK,hrest⟩=>⟨v,r,h',ids',he,hk r h' hK,hrest⟩⟩
 · exact .inr ⟨v,r,h',ids',w',h1,hk r h' hK,hrest⟩
def Nm.call (M : Nm) (nm : Nat) : Nm:=fun k=>M k ∨ (nm ≤ k ∧ k < nm + 64)
def AOp (P : Program) (op : Op) (e : Operand → V) (h : Hp) (M : Nm) (nm : Nat) (K : V → Hp → Prop) : Prop:=
 ∀ (F : Nat → Prop) (ids : Nat → Nat × Nat) (w : World) (a : Act) (o : Oper),o.op = op → RepH F ids w h M → (∀ x ∈ op.operands.toList,RepV (Ze F h ids) ids w (e x) (a.eval x)) → (∀ x ∈ op.operands.toList,(e x).Below M) →
  ∀ (next : Act → World → Prop) (Q : Exit → Act → World → Prop),
   (∀ (v : V) (h' : Hp) (ids' : Nat → Nat × Nat) (w' : World) (val : Value),K v h' → Chg F ids w h M ids' w' h' (M.call nm) → RepV (Ze F h' ids') ids' w' v val → v.Below (M.call nm) → next (a.put o.dst val) w') → o.wp P a w next Q
theorem AOp.mono {op : Op} {e : Operand → V} {h : Hp} {M : Nm} {nm : Nat} {K K' : V → Hp → Prop} (hc : AOp P op e h M nm K) (hk : ∀ r h',K r h' → K' r h') : AOp P op e h M nm K':=
 fun F ids w a o ho hh h1 h2 next Q hn=>hc F ids w a o ho hh h1 h2 next Q fun v h' ids' w' val hK=>hn v h' ids' w' val (hk v h' hK)
theorem AOp.ev {op : Op} {e e2 : Operand → V} {h : Hp} {M : Nm} {nm : Nat} {K : V → Hp → Prop} (he : ∀ x ∈ op.operands.toList,e2 x = e x) (hc : AOp P op e h M nm K) : AOp P op e2 h M nm K:=
 fun F ids w a o ho hh h1 h2 next Q hn=>hc F ids w a o ho hh (fun x hx=>by rw [← he x hx];exact h1 x hx) (fun x hx=>by rw [← he x hx];exact h2 x hx) next Q hn
structure Keep (M0 : Nm) (ids : Nat → Nat × Nat) (w : World) (h : Hp) (ids' : Nat → Nat × Nat) (w' : World) (h' : Hp) : Prop where
 goes : Goes (Zbs h ids) w w'
 live : ∀ b,b < w.heap.size → Zbs h' ids' b → Zbs h ids b
 ids : ∀ n,M0 n → ids' n = ids n
theorem Keep.refl {M0 : Nm} {ids : Nat → Nat × Nat} {w : World} {h : Hp} : Keep M0 ids w h ids w h:=⟨Goes.refl _ _,fun _ _ x=>x,fun _ _=>rfl⟩
theorem Keep.trans {M0 : Nm} {ids ids1 ids2 : Nat → Nat × Nat} {w w1 w2 : World} {h h1 h2 : Hp} (c : Keep M0 ids w h ids1 w1 h1) (c' : Keep M0 ids1 w1 h1 ids2 w2 h2) : Keep M0 ids w h ids2 w2 h2:=
 ⟨c.goes.trans c'.goes c.live,fun b hb x=>c.live b hb (c'.live b (Nat.lt_of_lt_of_le hb c.goes.size) x),fun n hn=>(c'.ids n hn).trans (c.ids n hn)⟩
theorem Chg.keep {F : Nat → Prop} {M0 : Nm} {ids ids' : Nat → Nat × Nat} {w w' : World} {h h' : Hp} {M M' : Nm} (c : Chg F ids w h M ids' w' h' M') (hm : M0.le M) : Keep M0 ids w h ids' w' h':=
 ⟨c.goes,c.live,fun n hn=>c.ids n (hm n hn)⟩
structure KeepA (M0 : Nm) (ids : Nat → Nat × Nat) (w : World) (h : Hp) (a : Act) (ids' : Nat → Nat × Nat) (w' : World) (h' : Hp) (a' : Act) : Prop extends Keep M0 ids w h ids' w' h' where
 news : ∃ ms,a'.defers = ms ++ a.defers ∧ ∀ m ∈ ms,∃ r,m.target = .collected r ∧ w.heap.size ≤ r
theorem KeepA.refl {M0 : Nm} {ids : Nat → Nat × Nat} {w : World} {h : Hp} {a : Act} : KeepA M0 ids w h a ids w h a:=⟨Keep.refl,[],rfl,fun _ h=>nomatch h⟩
theorem KeepA.step {M0 : Nm} {ids ids1 ids2 : Nat → Nat × Nat} {w w1 w2 : World} {h h1 h2 : Hp} {a a1 a2 : Act} (c : KeepA M0 ids w h a ids1 w1 h1 a1) (c' : Keep M0 ids1 w1 h1 ids2 w2 h2) (e : a2.defers = a1.defers) : KeepA M0 ids w h a ids2 w2 h2 a2:=
 ⟨c.toKeep.trans c',by rw [e];exact c.news⟩
theorem KeepA.trans {M0 : Nm} {ids ids1 ids2 : Nat → Nat × Nat} {w w1 w2 : World} {h h1 h2 : Hp} {a a1 a2 : Act} (c : KeepA M0 ids w h a ids1 w1 h1 a1) (c' : KeepA M0 ids1 w1 h1 a1 ids2 w2 h2 a2) : KeepA M0 ids w h a ids2 w2 h2 a2:=by
 refine ⟨c.toKeep.trans c'.toKeep,?_⟩
 obtain ⟨m1,e1,f1⟩:=c.news
 obtain ⟨m2,e2,f2⟩:=c'.news
 refine ⟨m2 ++ m1,by rw [e2,e1,List.append_assoc],fun m hm=>?_⟩
 rcases List.mem_append.1 hm with hm | hm
 · obtain ⟨r,e,hr⟩:=f2 m hm
   exact ⟨r,e,Nat.le_trans c.goes.size hr⟩
 · exact f1 m hm
theorem Keep.toA {M0 : Nm} {ids ids1 ids2 : Nat → Nat × Nat} {w w1 w2 : World} {h h1 h2 : Hp} {a a2 : Act} (c : Keep M0 ids w h ids1 w1 h1) (hs : w1.heap.size = w.heap.size) (c' : KeepA M0 ids1 w1 h1 a ids2 w2 h2 a2) : KeepA M0 ids w h a ids2 w2 h2 a2:=
 KeepA.trans (a1:=a) ⟨c,[],rfl,fun _ h=>nomatch h⟩ c'
def Fw (rd : Option Nat) : Fence:={ Fence.wide with round:=rd }
theorem Fw.room {rd : Option Nat} (k : Nat) : (Fw rd).room k:=fun _ h=>by simp [Fw,Fence.wide] at h
theorem ZjG {rd : Option Nat} {n : Nat} {P : Program} {f : FuncId} {args : Array Value} {w : World} {R : Ending → World → Prop} (h : Calls P f args w R) : CallsIn (Fw rd) n P f args w R:=
 ⟨trivial,fun cs _=>let ⟨e,w',fr,r,s,x⟩:=h cs;⟨e,w',fr,r,(comesIn_wide (P:=P)).2 s,x⟩⟩
theorem ZlI {rd : Option Nat} {n : Nat} {P : Program} {o : Oper} {a : Act} {w : World} {next : Act → World → Prop} {Q : Exit → Act → World → Prop} (h : o.wp P a w next Q) (ho : ∀ c,o.op ≠ .defer c) : o.wpIn (Fw rd) n P a w next Q:=by
 refine ⟨fun _ _=>trivial,?_⟩
 rw [Oper.semAt_eq _ _ _ ho]
 unfold Oper.wp at h
 generalize (execOp a.eval o).run P w = r at h
 cases r with
 | ok x w'=>
  cases x with
  | value v=>exact h
  | skip=>exact h
  | defer d=>exact h
  | enter f args=>exact ⟨fun e=>by simp [Fw,Fence.wide] at e,(ZjG h).mono fun e w2 hh=>by cases e <;> exact hh⟩
  | row row args=>exact ⟨fun e=>by simp [Fw,Fence.wide] at e,fun c cs _=>let ⟨v,w2,r,s⟩:=h c cs;⟨v,w2,r,(stepsIn_wide (P:=P)).2 s⟩⟩
  | _=>exact False.elim h
 | halt x w'=>
  cases x with
  | panic v=>exact h
  | _=>exact False.elim h
def ZaO : Code → Bool
 | .seq c d=>ZaO c && ZaO d
 | .cond _ c d=>ZaO c && ZaO d
 | .block _ c=>ZaO c
 | .loop c=>ZaO c
 | .scope c=>ZaO c
 | .rangeFunc ..=>false
 | _=>true
def AWP (P : Program) (M0 : Nm) (c : Code) (Q : Ex → St → Prop) (s : St) : Prop:=
 ∀ (rd : Option Nat) (_ : ∀ l,rd = some l → ZaO c = true) (n : Nat) (F : Nat → Prop) (ids : Nat → Nat × Nat) (w : World) (a : Act),Rep F ids w s a →
  c.wpIn (Fw rd) n P (fun e a' w'=>∃ x s' ids',x.is e ∧ Q x s' ∧ Rep F ids' w' s' a' ∧ KeepA M0 ids w s.h a ids' w' s'.h a') a w
variable {M0 : Nm}
theorem AWP.mono {c : Code} {Q Q' : Ex → St → Prop} {s : St} (h : AWP P M0 c Q s) (hq : ∀ x s',Q x s' → Q' x s') : AWP P M0 c Q' s:=
 fun rd hrd n F ids w a hr=>wpIn_mono (h rd hrd n F ids w a hr) fun e a' w' ⟨x,s',ids',h1,h2,h3⟩=>⟨x,s',ids',h1,hq x s' h2,h3⟩
theorem ZoB {Q : Ex → St → Prop} {s : St} (h : Q .normal s) : AWP P M0 .skip Q s:=
 fun rd hrd n F ids w a hr=>wpIn_skip ⟨.normal,s,ids,trivial,h,hr,KeepA.refl⟩
theorem ZlM {l : Nat} {Q : Ex → St → Prop} {s : St} (h : Q .normal s) : AWP P M0 (.label l) Q s:=
 fun rd hrd n F ids w a hr=>wpIn_label ⟨.normal,s,ids,trivial,h,hr,KeepA.refl⟩
theorem ZnJ {i : Nat} {Q : Ex → St → Prop} {s : St} (h : Q (.exit i) s) : AWP P M0 (.exit i) Q s:=
 fun rd hrd n F ids w a hr=>wpIn_exit ⟨.exit i,s,ids,rfl,h,hr,KeepA.refl⟩
theorem Zp1 {Q : Ex → St → Prop} {s : St} (h : Q .ret s) : AWP P M0 .ret Q s:=
 fun rd hrd n F ids w a hr=>wpIn_ret ⟨.ret,s,ids,trivial,h,hr,KeepA.refl⟩
def Zrq (K : St → Prop) (Q : Ex → St → Prop) : Ex → St → Prop
 | .normal,s=>K s
 | x,s=>Q x s
def ZiJ (id : Nat) (Q : Ex → St → Prop) : Ex → St → Prop
 | .exit k,s=>if k = id then Q .normal s else Q (.exit k) s
 | x,s=>Q x s
theorem Zp2 {c d : Code} {Q : Ex → St → Prop} {s : St} (h : AWP P M0 c (Zrq (AWP P M0 d Q) Q) s) : AWP P M0 (.seq c d) Q s:=by
 intro rd hrd n F ids w a hr
 refine wpIn_seq (wpIn_mono (h rd (fun l e=>(Bool.and_eq_true_iff.1 (hrd l e)).1) n F ids w a hr) ?_)
 rintro e a' w' ⟨x,s',ids',hx,hq,hr',hc⟩
 cases e with
 | normal=>
  cases x with
  | normal=>exact wpIn_mono (hq rd (fun l e=>(Bool.and_eq_true_iff.1 (hrd l e)).2) n F ids' w' a' hr') fun e2 a2 w2 ⟨x2,s2,ids2,g1,g2,g3,g4⟩=>⟨x2,s2,ids2,g1,g2,g3,hc.trans g4⟩
  | _=>cases hx
 | exit k=>cases x <;> first | exact ⟨_,s',ids',hx,hq,hr',hc⟩ | exact absurd hx (by intro h;exact h)
 | ret=>cases x <;> first | exact ⟨_,s',ids',hx,hq,hr',hc⟩ | exact absurd hx (by intro h;exact h)
 | _=>cases x <;> cases hx
theorem Zld {id : Nat} {c : Code} {Q : Ex → St → Prop} {s : St} (h : AWP P M0 c (ZiJ id Q) s) : AWP P M0 (.block id c) Q s:=by
 intro rd hrd n F ids w a hr
 refine wpIn_block (wpIn_mono (h rd hrd n F ids w a hr) ?_)
 rintro e a' w' ⟨x,s',ids',hx,hq,hr',hc⟩
 cases e with
 | normal=>
  cases x with
  | normal=>exact ⟨.normal,s',ids',trivial,hq,hr',hc⟩
  | _=>cases hx
 | exit k=>
  cases x with
  | exit j=>
   cases hx
   simp only [Exit.inBlock]
   simp only [ZiJ] at hq
   split
   · next e=>rw [if_pos e] at hq;exact ⟨.normal,s',ids',trivial,hq,hr',hc⟩
   · next e=>rw [if_neg e] at hq;exact ⟨.exit k,s',ids',rfl,hq,hr',hc⟩
  | _=>cases hx
 | ret=>
  cases x with
  | ret=>exact ⟨.ret,s',ids',trivial,hq,hr',hc⟩
  | _=>cases hx
 | _=>cases x <;> cases hx
theorem ZgH {P : Program} {b : Frame} {a : Act} {k : List Item} {cs : List Frame} {w : World} {c : Code} : step P (lone (b.atR a (.code (.scope c) :: k)) cs w) = .next (lone (b.atR a (.code c :: .inScope c :: k)) cs w):=
 step_lone_go (by simp [stepG,stepG.exec,Frame.atR])
theorem ZeC {P : Program} {b : Frame} {a : Act} {k : List Item} {cs : List Frame} {w : World} {c : Code} : step P (lone (b.atR a (.inScope c :: k)) cs w) = .next (lone (b.atR a k) cs w):=
 step_lone_go (by simp [stepG,stepG.exec,Frame.atR])
theorem Znm {c : Code} {Q : Ex → St → Prop} {s : St} (h : AWP P M0 c Q s) : AWP P M0 (.scope c) Q s:=by
 intro rd hrd n F ids w a hr
 intro b k cs hro hb hroom
 obtain ⟨e,a',w',⟨x,s',ids',hx,hrest⟩,harr⟩:=h rd hrd n F ids w a hr b (.inScope c :: k) cs hro hb hroom
 have h1 : StepsIn (Machine.fenced P (Fw rd)) P (lone (b.atR a (.code (.scope c) :: k)) cs w) (lone (b.atR a (.code c :: .inScope c :: k)) cs w):=.one (fenced_calm hb hroom rfl) ZgH
 cases e with
 | goto l=>cases x <;> cases hx
 | normal=>exact ⟨.normal,a',w',⟨x,s',ids',hx,hrest⟩,h1.trans (StepsIn.trans harr (.one (fenced_calm hb hroom rfl) ZeC))⟩
 | exit i=>exact ⟨.exit i,a',w',⟨x,s',ids',hx,hrest⟩,fun k' hk=>h1.trans (harr.1 k' (by simp [exitTo,hk])),fun hr' hk=>let ⟨k₁,e1,e2⟩:=harr.2 hr' (by simp [exitTo,hk]);⟨k₁,e1,h1.trans e2⟩⟩
 | ret=>exact ⟨.ret,a',w',⟨x,s',ids',hx,hrest⟩,fun hn=>let ⟨todo,e⟩:=harr.1 hn;⟨todo,h1.trans e⟩,fun hs=>let ⟨k₁,e⟩:=harr.2 hs;⟨k₁,h1.trans e⟩⟩
 | _=>cases x <;> cases hx
theorem Zo0 {c : Operand} {d e : Code} {Q : Ex → St → Prop} {s : St} {b : Bool} (hc : evS s.t c = .c (.bool b)) (ht : b = true → AWP P M0 d Q s) (hf : b = false → AWP P M0 e Q s) : AWP P M0 (.cond c d e) Q s:=by
 intro rd hrd n F ids w a hr
 have hv:=Yr hr c
 rw [hc] at hv
 have hv : a.eval c = .bool b:=by cases hq : a.eval c <;> rw [hq] at hv <;> cases hv <;> rfl
 exact wpIn_cond_split hv (fun h=>ht h rd (fun l e=>(Bool.and_eq_true_iff.1 (hrd l e)).1) n F ids w a hr) (fun h=>hf h rd (fun l e=>(Bool.and_eq_true_iff.1 (hrd l e)).2) n F ids w a hr)
def Sub (M0 : Nm) (s s' : St) : Prop:=
 ∀ (F : Nat → Prop) (ids : Nat → Nat × Nat) (w : World) (a : Act),Rep F ids w s a → ∃ ids',Rep F ids' w s' a ∧ Keep M0 ids w s.h ids' w s'.h
theorem Sub.refl {s : St} : Sub M0 s s:=fun F ids w a hr=>⟨ids,hr,Keep.refl⟩
theorem AWP.sub {c : Code} {Q : Ex → St → Prop} {s s' : St} (hs : Sub M0 s s') (h : AWP P M0 c Q s') : AWP P M0 c Q s:=by
 intro rd hrd n F ids w a hr
 obtain ⟨ids',hr',hk⟩:=hs F ids w a hr
 exact wpIn_mono (h rd hrd n F ids' w a hr') fun e a' w' ⟨x,s2,ids2,h1,h2,h3,h4⟩=>⟨x,s2,ids2,h1,h2,h3,hk.toA rfl h4⟩
theorem Zos {p : Nat → Prop} (h : ∃ n,p n) : ∃ m,p m ∧ ∀ k,p k → m ≤ k:=by
 obtain ⟨n,hn⟩:=h
 induction n using Nat.strongRecOn with
 | _ n ih=>
  by_cases hx : ∃ k,k < n ∧ p k
  · obtain ⟨k,hk,hp⟩:=hx;exact ih k hk hp
  · exact ⟨n,hn,fun k hk=>Nat.le_of_not_lt fun hlt=>hx ⟨k,hlt,hk⟩⟩
theorem Zbc {α : Type} {c : Code} {Q : Ex → St → Prop} (S : α → St) (I : α → Prop) (μ : α → Nat) (round : ∀ x,I x → AWP P M0 c (Zrq (fun s'=>∃ y,I y ∧ μ y < μ x ∧ Sub M0 s' (S y)) Q) (S x)) {x : α} (h0 : I x) :
 AWP P M0 (.loop c) Q (S x):=by
 classical
 intro rd hrd dep F ids0 w0 a0 hr0
 let Good : Nat → Act → World → Prop:=fun n a w=>∃ y ids,I y ∧ Rep F ids w (S y) a ∧ KeepA M0 ids0 w0 (S x).h a0 ids w (S y).h a ∧ μ y = n
 let μ' : Act → World → Nat:=fun a w=>if h : ∃ n,Good n a w then Classical.choose (Zos h) else 0
 have hμ : ∀ a w n,Good n a w → ∃ m,Good m a w ∧ μ' a w = m ∧ m ≤ n:=by
  intro a w n hg
  have hex : ∃ n,Good n a w:=⟨n,hg⟩
  have hs:=Classical.choose_spec (Zos hex)
  exact ⟨Classical.choose (Zos hex),hs.1,by simp only [μ'];rw [dif_pos hex],hs.2 n hg⟩
 refine wpIn_loop (fun a w=>∃ n,Good n a w) μ' ⟨μ x,x,ids0,h0,hr0,KeepA.refl,rfl⟩ ?_
 rintro a w ⟨n,hg⟩
 obtain ⟨m,⟨y,ids,hy,hry,hky,hm⟩,hmu,_⟩:=hμ a w n hg
 refine wpIn_mono (round y hy rd hrd dep F ids w a hry) ?_
 rintro e a' w' ⟨x',s',ids',hx,hq,hr',hk'⟩
 cases e with
 | normal=>
  cases x' with
  | normal=>
   obtain ⟨z,hz,hlt,hsub⟩:=hq
   obtain ⟨ids2,hr2,hk2⟩:=hsub F ids' w' a' hr'
   have hg' : Good (μ z) a' w':=⟨z,ids2,hz,hr2,(hky.trans hk').step hk2 rfl,rfl⟩
   refine ⟨⟨_,hg'⟩,?_⟩
   obtain ⟨m',_,e1,e2⟩:=hμ a' w' _ hg'
   rw [e1,hmu];omega
  | _=>cases hx
 | exit k=>cases x' <;> first | exact ⟨_,s',ids',hx,hq,hr',hky.trans hk'⟩ | exact absurd hx (by intro h;exact h)
 | ret=>cases x' <;> first | exact ⟨_,s',ids',hx,hq,hr',hky.trans hk'⟩ | exact absurd hx (by intro h;exact h)
 | _=>cases x' <;> cases hx
end
set_option linter.unusedVariables false
set_option linter.unusedSimpArgs false
section
variable {P : Program} {tab : Tab} {M0 : Nm}
def Zmk {α : Type} (o : Option α) (K : α → Prop) : Prop:=∃ x,o = some x ∧ K x
def Ztw (P : Program) (tab : Tab) (b : Nat) (o : Oper) (t : Nat → V) (h : Hp) (K : V → Hp → Prop) : Prop:=
 match o.op with
 | .pick c x y=>match evS t c with
  | .c (.bool z)=>(z = true → K (evS t x) h) ∧ (z = false → K (evS t y) h)
  | _=>False
 | .call c=>match c.callee with
  | .builtin _=>Zmk (Zdg tab b (evS t) h c) fun p=>K p.1 p.2
  | .value f=>match evS t f with
   | .fn (.func g) first cap=>ACall P g (first ++ (c.args.toList.map (evS t) ++ cap)) h (Lt b) b K
   | _=>False
  | _=>False
 | .binOp bo ty x y ty'=>match Zs7 ((tab ty).map Ty.kind) bo y (evS t x) with
  | some (neg,p)=>∀ z : Bool,(z = true → p) → K (.c (.bool (z != neg))) h
  | none=>Zmk (sop tab b (evS t) h (.binOp bo ty x y ty')) fun p=>K p.1 p.2
 | op=>Zmk (sop tab b (evS t) h op) fun p=>K p.1 p.2
def opB (P : Program) (tab : Tab) (b : Nat) (o : Oper) (t : Nat → V) (h : Hp) (K : V → Hp → Prop) : Prop:=Ztw P tab b o t h K ∨ AOp P o.op (evS t) h (Lt b) b K
def Zkk (n : Nat) (dst : Option Nat) (v : V) (t : Nat → V) (K : (Nat → V) → Prop) : Prop:=
 match dst with
 | none=>K t
 | some d=>d < n ∧ K (upd t d v)
abbrev V.no : V:=.c (.tuple #[])
def Zhj (ops : Array Oper) (o : Oper) (t : Nat → V) (X Y : (Nat → V) → Prop) : Prop:=
 match o.guard with
 | none=>X t
 | some (j,want)=>match (ops[j]?).bind (·.dst) with
  | some d=>match t d with
   | .c (.bool x)=>(x = want → X (upd t d (.c (.bool want)))) ∧ (x = (!want) → Y (upd t d (.c (.bool (!want)))))
   | .c (.tuple _)=>Y t
   | _=>False
  | none=>False
def YK (P : Program) (tab : Tab) (ops : Array Oper) (n : Nat) : List Oper → Nat → (Nat → V) → Hp → ((Nat → V) → Hp → Nat → Prop) → Prop
 | [],b,t,h,K=>K t h b
 | o :: os,b,t,h,K=>Zhj ops o t (fun t=>opB P tab b o t h fun v h'=>Zkk n o.dst v t fun t'=>YK P tab ops n os (b + 64) t' h' K)
  (fun t=>Zkk n o.dst .no t fun t'=>YK P tab ops n os (b + 64) t' h K)
theorem Zes {a b : Nat} (h : a ≤ b) : Nm.le (Lt a) (Lt b):=fun _ x=>Nat.lt_of_lt_of_le x h
theorem RepT.put {F : Nat → Prop} {ids ids' : Nat → Nat × Nat} {w w' : World} {M M' : Nm} {t : Nat → V} {h h' : Hp} {n : Nat} {a : Act} (hr : RepT F ids w M t h n a) (hc : Chg F ids w h M ids' w' h' M') {v : V} {val : Value}
 (hv : RepV (Ze F h' ids') ids' w' v val) (hb : v.Below M') {d : Nat} (hd : d < n) : RepT F ids' w' M' (upd t d v) h' n (a.put (some d) val) where
 heap:=hc.heap
 tmps:=fun i=>by
  by_cases e : i = d
  · subst e
    rw [Zb]
    have hs:=hr.size
    simp only [Act.put,Array.getD_eq_getD_getElem?,Array.getElem?_setIfInBounds,if_true,hs,hd]
    exact hv
  · rw [Zi _ _ _ _ e]
    simp only [Act.put,Array.getD_eq_getD_getElem?,Array.getElem?_setIfInBounds]
    rw [if_neg (Ne.symm e),← Array.getD_eq_getD_getElem?]
    exact hc.rep (hr.tmps i) (hr.below i)
 size:=by simp [Act.put,hr.size]
 out:=fun i hi=>by rw [Zi _ _ _ _ (by omega)];exact hr.out i hi
 below:=fun i=>by
  by_cases e : i = d
  · subst e;rw [Zb];exact hb
  · rw [Zi _ _ _ _ e];exact (hr.below i).mono hc.nx
 defers:=hr.defers.goes hr.heap hc.goes
theorem RepT.chg {F : Nat → Prop} {ids ids' : Nat → Nat × Nat} {w w' : World} {M M' : Nm} {t : Nat → V} {h h' : Hp} {n : Nat} {a : Act} (hr : RepT F ids w M t h n a) (hc : Chg F ids w h M ids' w' h' M') : RepT F ids' w' M' t h' n a where
 heap:=hc.heap
 tmps:=fun i=>hc.rep (hr.tmps i) (hr.below i)
 size:=hr.size
 out:=hr.out
 below:=fun i=>(hr.below i).mono hc.nx
 defers:=hr.defers.goes hr.heap hc.goes
theorem RepT.up {F : Nat → Prop} {ids : Nat → Nat × Nat} {w : World} {M M' : Nm} {t : Nat → V} {h : Hp} {n : Nat} {a : Act} (hr : RepT F ids w M t h n a) (hm : M.le M') : RepT F ids w M' t h n a:=
 hr.chg (Chg.skip hr.heap hm)
theorem RepT.same {F : Nat → Prop} {ids : Nat → Nat × Nat} {w : World} {M : Nm} {t : Nat → V} {h : Hp} {n : Nat} {a : Act} (hr : RepT F ids w M t h n a) {d : Nat} {v : V} (e : t d = v) : RepT F ids w M (upd t d v) h n a:=by
 have : upd t d v = t:=by funext i;unfold upd;split <;> simp_all
 rw [this];exact hr
theorem Zfe {F : Nat → Prop} {ids ids' : Nat → Nat × Nat} {w w' : World} {M M' : Nm} {t : Nat → V} {h h' : Hp} {n : Nat} {a : Act} (hr : RepT F ids w M t h n a) (hc : Chg F ids w h M ids' w' h' M') {v : V} {val : Value}
 (hv : RepV (Ze F h' ids') ids' w' v val) (hb : v.Below M') {dst : Option Nat} {K : (Nat → V) → Prop} (hk : Zkk n dst v t K) : ∃ t',K t' ∧ RepT F ids' w' M' t' h' n (a.put dst val):=by
 cases dst with
 | none=>exact ⟨t,hk,hr.chg hc⟩
 | some d=>exact ⟨_,hk.2,hr.put hc hv hb hk.1⟩
theorem Zmh (ht : Zk P tab) {F : Nat → Prop} {ids : Nat → Nat × Nat} {w : World} {t : Nat → V} {h : Hp} {n b : Nat} {a : Act} (hr : RepT F ids w (Lt b) t h n a) (o : Oper) {K : V → Hp → Prop} (hk : opB P tab b o t h K)
 (next : Act → World → Prop) (Q : Exit → Act → World → Prop)
 (hnext : ∀ v h' ids' w' val,K v h' → Chg F ids w h (Lt b) ids' w' h' (Lt (b + 64)) → RepV (Ze F h' ids') ids' w' v val → v.Below (Lt (b + 64)) → next (a.put o.dst val) w') : o.wp P a w next Q:=by
 have hfresh : ¬ Lt b b:=Nat.lt_irrefl b
 have hup : Nm.le ((Lt b).add b) (Lt (b + 64)):=by rintro k (hk | rfl);exact Nat.lt_of_lt_of_le hk (by omega);exact Nat.lt_add_of_pos_right (by omega)
 have hsop : ∀ v h',sop tab b (evS t) h o.op = some (v,h') → K v h' → o.wp P a w next Q:=by
  intro v h' hs hK
  obtain ⟨val,w',ids',hrun,hc,hv,hbv⟩:=ZdY ht hr.heap hfresh (evS t) a.eval (Yr hr) (Yg hr.below) (fun _=>rfl) o hs
  have hc' : Chg F ids w h (Lt b) ids' w' h' (Lt (b + 64)):=hc.trans (Chg.skip hc.heap hup)
  have:=hnext v h' ids' w' val hK hc' hv (hbv.mono hup)
  unfold Oper.wp
  rcases hrun with hrun | ⟨hrun,rfl⟩
  · rw [hrun];exact this
  · rw [hrun];exact this
 rcases hk with hk | hk
 case inr=>
  have hup' : Nm.le ((Lt b).call b) (Lt (b + 64)):=by
   rintro k (hk | hk)
   · exact Nat.lt_of_lt_of_le hk (by omega)
   · exact hk.2
  exact hk F ids w a o rfl hr.heap (fun x _=>Yr hr x) (fun x _=>Yg hr.below x) next Q fun v h' ids' w' val hK hc hv hb=>hnext v h' ids' w' val hK (hc.trans (Chg.skip hc.heap hup')) hv (hb.mono hup')
 unfold Ztw at hk
 split at hk
 · next c x y ho=>
   split at hk
   · next z hz=>
     have hc:=Yr hr c
     rw [hz] at hc
     have hv : a.eval c = .bool z:=by cases hq : a.eval c <;> rw [hq] at hc <;> cases hc <;> rfl
     have hskip : Chg F ids w h (Lt b) ids w h (Lt (b + 64)):=Chg.skip hr.heap (Zes (by omega))
     unfold Oper.wp
     have hex : (execOp a.eval o).run P w = .ok (.value (if z = true then a.eval x else a.eval y)) w:=by
      simp only [execOp,ho,hv,asBool,Sem.run_bind,Sem.run_pure,Result.andThen_ok]
     rw [hex]
     cases z with
     | true=>exact hnext _ h ids w _ (hk.1 rfl) hskip (Yr hr x) ((Yg hr.below x).mono (Zes (by omega)))
     | false=>exact hnext _ h ids w _ (hk.2 rfl) hskip (Yr hr y) ((Yg hr.below y).mono (Zes (by omega)))
   · exact hk.elim
 · next c ho=>
   split at hk
   · obtain ⟨⟨v,h'⟩,hs,hK⟩:=hk
     exact hsop v h' (by rw [ho];exact hs) hK
   · next f hcal=>
     split at hk
     · next g first cap hf=>
       have hfr:=Yr hr f
       rw [hf] at hfr
       obtain ⟨fa,ca,hfv,s1,s2,r1,r2⟩ : ∃ fa ca,a.eval f = .func (.func g) fa ca ∧ fa.size = first.length ∧ ca.size = cap.length ∧
        (∀ (i : Nat) (x : V) (v : Value),first[i]? = some x → fa[i]? = some v → RepV (Ze F h ids) ids w x v) ∧ (∀ (i : Nat) (x : V) (v : Value),cap[i]? = some x → ca[i]? = some v → RepV (Ze F h ids) ids w x v):=by
        generalize a.eval f = u at hfr
        cases hfr with
        | fn _ _ _ ar br h1 h2 h3 h4=>exact ⟨ar,br,rfl,h1,h2,h3,h4⟩
       have hvals : ∀ (i : Nat) (x : V) (v : Value),(first ++ (c.args.toList.map (evS t) ++ cap))[i]? = some x → (fa ++ c.args.map a.eval ++ ca)[i]? = some v → RepV (Ze F h ids) ids w x v:=by
        intro i x v hx hv
        by_cases h1 : i < first.length
        · rw [List.getElem?_append_left h1] at hx
          rw [Array.getElem?_append_left (by simp;omega),Array.getElem?_append_left (by omega)] at hv
          exact r1 i x v hx hv
        · rw [List.getElem?_append_right (by omega)] at hx
          by_cases h2 : i - first.length < c.args.toList.length
          · rw [List.getElem?_append_left (by simpa using h2),List.getElem?_map,Option.map_eq_some_iff] at hx
            obtain ⟨y,hy,rfl⟩:=hx
            rw [Array.getElem?_append_left (by simp at h2 ⊢;omega),Array.getElem?_append_right (by omega),Array.getElem?_map,s1] at hv
            rw [Array.getElem?_toList] at hy
            rw [hy] at hv
            cases hv
            exact Yr hr y
          · rw [List.getElem?_append_right (by simpa using Nat.le_of_not_lt h2)] at hx
            rw [Array.getElem?_append_right (by simp at h2 ⊢;omega)] at hv
            refine r2 _ x v hx ?_
            rw [← hv];congr 1;simp;omega
       have hup' : Nm.le (fun k=>Lt b k ∨ (b ≤ k ∧ k < b + 64)) (Lt (b + 64)):=by
        rintro k (hk | hk)
        · exact Nat.lt_of_lt_of_le hk (by omega)
        · exact hk.2
       unfold Oper.wp
       rcases hk F ids w (fa ++ c.args.map a.eval ++ ca) hr.heap (by simp;omega) hvals with ⟨c1,c2⟩ | ⟨v,r,h',ids',w',c1,hK,hc,hv,hbv⟩
       case inr=>
        have hex : (execOp a.eval o).run P w = .ok (.value v) w':=by
         simp only [execOp,ho,resolve,hcal,hfv,Deferred.ofValue,Sem.run_bind,Sem.run_pure,Result.andThen_ok,invoke]
         exact c1
        rw [hex]
        exact hnext r h' ids' w' v hK (hc.trans (Chg.skip hc.heap hup')) hv (hbv.mono hup')
       have hex : (execOp a.eval o).run P w = .ok (.enter g (fa ++ c.args.map a.eval ++ ca)) w:=by
        simp only [execOp,ho,resolve,hcal,hfv,Deferred.ofValue,Sem.run_bind,Sem.run_pure,Result.andThen_ok,invoke]
        exact c1
       rw [hex,Oper.upon_enter]
       refine c2.mono ?_
       rintro e w' ⟨v,r,h',ids',rfl,hK,hc,hv,hbv⟩
       exact hnext r h' ids' w' v hK (hc.trans (Chg.skip hc.heap hup')) hv (hbv.mono hup')
     · exact hk.elim
   · exact hk.elim
 · next bo ty x y ty' ho=>
   split at hk
   · next neg p hask=>
     cases y with
     | const c=>
      obtain ⟨z,hz,hrun⟩:=ZkX (P:=P) (w:=w) ht (Yr hr x) hask x
      have hskip : Chg F ids w h (Lt b) ids w h (Lt (b + 64)):=Chg.skip hr.heap (Zes (by omega))
      unfold Oper.wp
      have hex : (execOp a.eval o).run P w = .ok (.value (.bool (z != neg))) w:=by
       simp only [execOp,ho,Sem.run_bind,Act.eval] at hrun ⊢
       rw [hrun];rfl
      rw [hex]
      exact hnext _ h ids w _ (hk z hz) hskip (.c _) (.c _)
     | _=>simp [Zs7,ZeE] at hask
   · obtain ⟨⟨v,h'⟩,hs,hK⟩:=hk
     exact hsop v h' (by rw [ho];exact hs) hK
 · obtain ⟨⟨v,h'⟩,hs,hK⟩:=hk
   exact hsop v h' hs hK
theorem Zbq (a : Act) (d : Option Nat) (v : Value) : (a.put d v).defers = a.defers:=by cases d <;> rfl
def Zis : Op → Bool
 | .defer _=>true
 | _=>false
theorem ZjI {x : Op} (h : Zis x = false) (c : Call) (e : x = .defer c) : False:=by
 subst e;exact Bool.noConfusion h
def ZdV (l : List Oper) : Bool:=l.all fun o=>!Zis o.op
theorem Zff {l : List Oper} (h : ZdV l = true) : ∀ o ∈ l,∀ c,o.op ≠ .defer c:=fun o ho c e=>by
 have:=List.all_eq_true.1 h o ho
 refine ZjI ?_ c e
 generalize Zis o.op = x at this ⊢
 cases x
 · rfl
 · cases this
theorem Zhm {rd : Option Nat} {dep : Nat} (ht : Zk P tab) (ops : Array Oper) (hno : ∀ o ∈ ops,∀ c,o.op ≠ .defer c) {n : Nat} {Q : Exit → Act → World → Prop} {F : Nat → Prop} (b0 : Nat) (hb0 : M0.le (Lt b0)) {ids0 : Nat → Nat × Nat} {w0 : World} {h0 : Hp} {a0 : Act} {K : (Nat → V) → Hp → Nat → Prop}
 (hQ : ∀ t' h' b' ids' w' a',K t' h' b' → RepT F ids' w' (Lt b') t' h' n a' → KeepA M0 ids0 w0 h0 a0 ids' w' h' a' → Q .normal a' w') :
 ∀ (os : List Oper) (i b : Nat) (t : Nat → V) (h : Hp) (ids : Nat → Nat × Nat) (w : World) (a : Act),b0 ≤ b → (∀ k,(os[k]?) = ops[i + k]?) → YK P tab ops n os b t h K → RepT F ids w (Lt b) t h n a → KeepA M0 ids0 w0 h0 a0 ids w h a →
  wpOpsIn (Fw rd) dep P ops Q (List.range' i os.length) a w:=by
 intro os
 induction os with
 | nil=>intro i b t h ids w a hb hos hk hr hkeep;exact hQ t h b ids w a hk hr hkeep
 | cons o os ih=>
  intro i b t h ids w a hb hos hk hr hkeep
  have ho : ops[i]? = some o:=by have:=hos 0;simpa using this.symm
  have hos' : ∀ k,(os[k]?) = ops[i + 1 + k]?:=by
   intro k
   have:=hos (k + 1)
   rw [List.getElem?_cons_succ] at this
   rw [this];congr 1;omega
  simp only [List.length_cons,List.range'_succ,wpOpsIn,ho]
  have hrun : ∀ t1,RepT F ids w (Lt b) t1 h n a → (opB P tab b o t1 h fun v h'=>Zkk n o.dst v t1 fun t'=>YK P tab ops n os (b + 64) t' h' K) → o.wpIn (Fw rd) dep P a w (wpOpsIn (Fw rd) dep P ops Q (List.range' (i + 1) os.length)) Q:=by
   intro t1 hr1 hk1
   refine ZlI (Zmh ht hr1 o hk1 _ _ ?_) (hno o (Array.mem_of_getElem? ho))
   intro v h' ids' w' val hK hc hv hbv
   obtain ⟨t',ht',hr'⟩:=Zfe hr1 hc hv hbv hK
   exact ih (i + 1) (b + 64) t' h' ids' w' _ (by omega) hos' ht' hr' (hkeep.step (hc.keep (fun k hk=>Nat.lt_of_lt_of_le (hb0 k hk) hb)) (Zbq _ _ _))
  have hskip : ∀ t1,RepT F ids w (Lt b) t1 h n a → (Zkk n o.dst .no t1 fun t'=>YK P tab ops n os (b + 64) t' h K) → wpOpsIn (Fw rd) dep P ops Q (List.range' (i + 1) os.length) (a.put o.dst undef) w:=by
   intro t1 hr1 hk1
   have hc : Chg F ids w h (Lt b) ids w h (Lt (b + 64)):=Chg.skip hr1.heap (Zes (by omega))
   obtain ⟨t',ht',hr'⟩:=Zfe hr1 hc (.c undef) (.c _) hk1
   exact ih (i + 1) (b + 64) t' h ids w _ (by omega) hos' ht' hr' (hkeep.step Keep.refl (Zbq _ _ _))
  unfold YK Zhj at hk
  split at hk
  · next hg=>
    rw [if_pos (by simp [Region.wanted,hg])]
    exact hrun t hr hk
  · next j want hg=>
    split at hk
    · next d hd=>
      split at hk
      · next x hx=>
        have hv:=hr.tmps d
        rw [hx] at hv
        have hval : a.tmps[d]? = some (.bool x):=by
         rw [Array.getD_eq_getD_getElem?] at hv
         cases hq : a.tmps[d]? with
         | none=>rw [hq] at hv;simp only [Option.getD_none] at hv;cases hv
         | some u=>rw [hq] at hv;simp only [Option.getD_some] at hv;cases hv;rfl
        have hy : yielded ops a.tmps j = some x:=by unfold yielded;rw [hd];simp [hval]
        by_cases e : x = want
        · rw [if_pos (by simp [Region.wanted,hg,hy,e])]
          exact hrun _ (hr.same (by rw [hx,e])) (hk.1 e)
        · have e' : x = !want:=by cases x <;> cases want <;> simp_all
          rw [if_neg (by simp [Region.wanted,hg,hy,e])]
          exact ⟨fun _ _=>trivial,hskip _ (hr.same (by rw [hx,e'])) (hk.2 e')⟩
      · next q hx=>
        have hv:=hr.tmps d
        rw [hx] at hv
        have hval : a.tmps.getD d undef = .tuple q:=by
         generalize a.tmps.getD d undef = u at hv
         cases hv;rfl
        have hy : yielded ops a.tmps j = none:=by
         unfold yielded
         rw [hd]
         rw [Array.getD_eq_getD_getElem?] at hval
         cases hq : a.tmps[d]? with
         | none=>simp [hq]
         | some u=>rw [hq] at hval;simp only [Option.getD_some] at hval;subst hval;simp [hq]
        rw [if_neg (by simp [Region.wanted,hg,hy])]
        exact ⟨fun _ _=>trivial,hskip _ hr hk⟩
      · exact hk.elim
    · exact hk.elim
theorem ZjZ (ht : Zk P tab) {id : Nat} {ops : Array Oper} {Q : Ex → St → Prop} {s : St} (hm : M0.le (Lt s.b)) (hno : ZdV ops.toList = true) (h : YK P tab ops s.n ops.toList s.b s.t s.h fun t h b=>Q .normal ⟨t,h,b,s.n⟩) : AWP P M0 (.region id ops false) Q s:=by
 intro rd hrd dep F ids w a hr
 refine wpIn_region ?_
 have:=Zhm (rd:=rd) (dep:=dep) (M0:=M0) ht ops (fun o ho=>Zff hno o (by simpa using ho)) (n:=s.n) (Q:=fun e a' w'=>∃ x s' ids',x.is e ∧ Q x s' ∧ Rep F ids' w' s' a' ∧ KeepA M0 ids w s.h a ids' w' s'.h a') (F:=F) s.b hm (ids0:=ids) (w0:=w) (h0:=s.h) (a0:=a)
  (K:=fun t h b=>Q .normal ⟨t,h,b,s.n⟩) (fun t' h' b' ids' w' a' hK hr' hk=>⟨.normal,⟨t',h',b',s.n⟩,ids',trivial,hK,hr',hk⟩) ops.toList 0 s.b s.t s.h ids w a (Nat.le_refl _) (fun k=>by simp) h hr KeepA.refl
 simpa [List.range_eq_range'] using this
end
set_option linter.unusedVariables false
set_option linter.unusedSimpArgs false
section
variable {P : Program} {tab : Tab} {M0 : Nm}
inductive FD (h : Hp) : D → V → Prop
 | c (v : Value) (h1 : v.oneCell' = true) : FD h (.c v) (.c v)
 | lst (sz : Nat) (rows : List (List D)) (clip : Bool) : FD h (.lst sz rows) (.lst sz rows clip)
 | nil (sz : Nat) : FD h (.lst sz []) (.c (.slice none 0 0))
 | ac (n sz len : Nat) (r : List (List D)) (hn : h n = some (.dat sz r)) (hl : len = r.length) : FD h (.lst sz r) (.ac n sz len)
 | sd (n sz off len : Nat) (r rows : List (List D)) (hn : h n = some (.dat sz r)) (hl : off + len ≤ r.length) (hr : rows = (r.drop off).take len) : FD h (.lst sz rows) (.sl n sz off len)
 | sl (n sz off len : Nat) (r : List (List V)) (rows : List (List D)) (vr : Nat → List V) (hn : h n = some (.rows sz r)) (hl : off + len ≤ r.length) (hr : rows.length = len)
  (h1 : ∀ (i : Nat) (row : List D),rows[i]? = some row → r[off + i]? = some (vr i) ∧ row.length = (vr i).length)
  (h2 : ∀ (i : Nat) (row : List D) (j : Nat) (d : D) (x : V),rows[i]? = some row → row[j]? = some d → (vr i)[j]? = some x → FD h d x) : FD h (.lst sz rows) (.sl n sz off len)
theorem Zlb {A A' : Nat → Prop} {ids : Nat → Nat × Nat} {w : World} (hA : ∀ b,A' b → A b) {d : D} {v : Value} (hl : d.leaf = true) (h : RepV A ids w d.toV v) : RepD A' w d v:=by
 cases d with
 | c u=>cases h;exact .c _ hl
 | lst sz rows=>cases h with | lst _ _ _ _ hd _=>exact hd.mono (Goes.refl A w) (fun b _ x=>hA b x)
theorem RepR.lst {A A' : Nat → Prop} {ids : Nat → Nat × Nat} {w : World} (hA : ∀ b,A' b → A b) {p : Nat × Nat} {sz off len cap : Nat} {r : List (List D)} {ad : Option Addr} (h : r ≠ [] → RepR A ids w p sz (YG r)) (hlv : leaves r) (hp : r ≠ [] → ¬ A' p.1) (hl : off + len ≤ r.length) (hc : len ≤ cap)
 (ha : cap ≠ 0 → ad = some ⟨p.1,p.2 + off * sz,none⟩) : RepD A' w (.lst sz ((r.drop off).take len)) (.slice ad len cap):=by
 have hlen : ((r.drop off).take len).length = len:=by simp;omega
 by_cases h0 : len = 0
 · subst h0;simpa using RepD.emp sz ad cap
 · have hne : r ≠ []:=by rintro rfl;simp at hl;omega
   obtain rfl:=ha (by omega)
   obtain ⟨arr,T,b1,b2,b3,b4⟩:=h hne
   have hget : ∀ (i : Nat) (row : List D),((r.drop off).take len)[i]? = some row → r[off + i]? = some row:=by
    intro i row hi
    have hlt : i < len:=by have:=(List.getElem?_eq_some_iff.1 hi).1;omega
    rwa [List.getElem?_take_of_lt hlt,List.getElem?_drop] at hi
   have key : ∀ (i : Nat) (row : List D) (j : Nat) (d : D),((r.drop off).take len)[i]? = some row → row[j]? = some d → ∃ u,arr[p.2 + off * sz + (i * sz + j)]? = some u ∧ RepD A' w d u:=by
    intro i row j d hi hj
    have hr:=hget i row hi
    obtain ⟨u,hu,hrep⟩:=b4 (off + i) (row.map D.toV) j d.toV (by rw [Y7,hr];rfl) (by simp [hj])
    refine ⟨u,by rw [← hu];congr 1;rw [Nat.add_mul];omega,Zlb hA (List.all_eq_true.1 (hlv row (List.mem_of_getElem? hr)) d (List.mem_of_getElem? hj)) hrep⟩
   have:=RepD.lst (A:=A') (w:=w) sz ((r.drop off).take len) p.1 (p.2 + off * sz) cap (fun i j=>(arr[p.2 + off * sz + (i * sz + j)]?).getD default) (by omega) (Array.getElem?_eq_some_iff.1 b1).1 (hp hne) (fun row hrow=>by
    obtain ⟨i,hi⟩:=List.getElem?_of_mem hrow
    have:=b3 (row.map D.toV) (List.mem_of_getElem? (i:=off + i) (by rw [Y7,hget i row hi];rfl))
    simpa using this) (fun i row j d hi hj=>by
    obtain ⟨u,hu,_⟩:=key i row j d hi hj
    rw [ZbT b1,hu];rfl) (fun i row j d hi hj=>by
    obtain ⟨u,hu,hrep⟩:=key i row j d hi hj
    rw [hu];exact hrep)
   rwa [hlen] at this
theorem ZhK {F : Nat → Prop} {ids : Nat → Nat × Nat} {w : World} {h : Hp} {M : Nm} (hh : RepH F ids w h M) {n sz : Nat} {r : List (List D)} (hn : h n = some (.dat sz r)) (hr : r ≠ []) : ¬ F (ids n).1:=hh.out n _ hn (QX hr)
theorem Zm9 {F A' : Nat → Prop} {ids : Nat → Nat × Nat} {w : World} {h : Hp} {M : Nm} (hh : RepH F ids w h M) (hA : ∀ b,A' b → Ze F h ids b) {n sz off len : Nat} {r : List (List D)} (hn : h n = some (.dat sz r)) (hp : r ≠ [] → ¬ A' (ids n).1) (hl : off + len ≤ r.length) {v : Value}
 (hv : RepV (Ze F h ids) ids w (.sl n sz off len) v) : RepD A' w (.lst sz ((r.drop off).take len)) v:=by
 cases hv with
 | sl _ _ _ _ cap ad hc hcc=>exact RepR.lst hA (hh.blk n _ hn).1 (hh.blk n _ hn).2 hp hl hc fun h0=>by obtain ⟨_,_,_,h2,_⟩:=hcc h0;exact h2
theorem ZpA {F A' : Nat → Prop} {ids : Nat → Nat × Nat} {w : World} {h : Hp} {M : Nm} (hh : RepH F ids w h M) (hA : ∀ b,A' b → Ze F h ids b) {n sz len : Nat} {r : List (List D)} (hn : h n = some (.dat sz r)) (hp : r ≠ [] → ¬ A' (ids n).1) (hl : len = r.length) {v : Value}
 (hv : RepV (Ze F h ids) ids w (.ac n sz len) v) : RepD A' w (.lst sz r) v:=by
 cases hv with
 | ac0 => have : r = [] := List.length_eq_zero_iff.1 hl.symm
          subst this;exact .emp _ _ _
 | ac1 _ _ _ _ h0 hv=>
  have:=Zm9 hh hA hn hp (off:=0) (len:=len) (by omega) hv
  rwa [List.drop_zero,List.take_of_length_le (by omega)] at this
theorem FD.sound {F : Nat → Prop} {ids : Nat → Nat × Nat} {w : World} {h : Hp} {M : Nm} (hh : RepH F ids w h M) {d : D} {x : V} (hf : FD h d x) : ∀ v,RepV (Ze F h ids) ids w x v → RepD F w d v:=by
 induction hf with
 | c v h1=>intro u hu;cases hu;exact .c v h1
 | lst sz rows clip=>intro u hu;cases hu with | lst _ _ _ _ hd _=>exact hd.mono (Goes.refl (Ze F h ids) w) (fun _ _ x=>.inl x)
 | nil sz=>intro u hu;cases hu;exact .emp _ _ _
 | ac n sz len r hn hl=>exact fun v hv=>ZpA hh (fun _ x=>.inl x) hn (ZhK hh hn) hl hv
 | sd n sz off len r rows hn hl hr=>subst hr;exact fun v hv=>Zm9 hh (fun _ x=>.inl x) hn (ZhK hh hn) hl hv
 | sl n sz off len r rows vr hn hl hr h1 h2 ih=>
  intro u hu
  cases hu with
  | sl _ _ _ _ cap ad hlc hc=>
   obtain ⟨arr,T',b1,b2,b3,b4⟩:=hh.blk n _ hn
   cases rows with
   | nil=>simp at hr;subst hr;exact .emp _ _ _
   | cons r0 R=>
    have hpos : 0 < len:=by rw [← hr];simp
    obtain ⟨_,_,_,rfl,_⟩:=hc (by omega)
    rw [← hr]
    have hlen : ∀ row ∈ r0 :: R,row.length = sz:=by
     intro row hrow
     obtain ⟨i,hi⟩:=List.getElem?_of_mem hrow
     obtain ⟨e1,e2⟩:=h1 i row hi
     rw [e2];exact b3 _ (List.mem_of_getElem? e1)
    have key : ∀ (i : Nat) (row : List D) (j : Nat) (d : D),(r0 :: R)[i]? = some row → row[j]? = some d → ∃ u,arr[(ids n).2 + off * sz + (i * sz + j)]? = some u ∧ RepD F w d u:=by
     intro i row j d hi hj
     obtain ⟨e1,e2⟩:=h1 i row hi
     have hjl : j < (vr i).length:=by rw [← e2];exact (List.getElem?_eq_some_iff.1 hj).1
     obtain ⟨u,hu,hrep⟩:=b4 (off + i) (vr i) j (vr i)[j] e1 (by simp [hjl])
     refine ⟨u,?_,ih i row j d _ hi hj (by simp [hjl]) u hrep⟩
     rw [← hu];congr 1;rw [Nat.add_mul];omega
    refine .lst sz (r0 :: R) (ids n).1 ((ids n).2 + off * sz) cap (fun i j=>(arr[(ids n).2 + off * sz + (i * sz + j)]?).getD default) (by omega) (Array.getElem?_eq_some_iff.1 b1).1 (hh.out n _ hn rfl) hlen ?_ ?_
    · intro i row j d hi hj
      obtain ⟨u,hu,_⟩:=key i row j d hi hj
      rw [ZbT b1,hu];rfl
    · intro i row j d hi hj
      obtain ⟨u,hu,hrep⟩:=key i row j d hi hj
      rw [hu];exact hrep
inductive Frz (h : Hp) : V → V → Prop
 | d (d : D) (x : V) (hf : FD h d x) : Frz h d.toV x
 | same (x : V) (hb : x.Below fun _=>False) : Frz h x x
 | sem (r x : V) (hs : ∀ (F : Nat → Prop) (ids : Nat → Nat × Nat) (w : World) (M : Nm),RepH F ids w h M → ∀ v,RepV (Ze F h ids) ids w x v → ∀ ids' : Nat → Nat × Nat,RepV F ids' w r v) : Frz h r x
 | agg (rs xs : List V) (hl : rs.length = xs.length) (hp : ∀ (i : Nat) (r x : V),rs[i]? = some r → xs[i]? = some x → Frz h r x) : Frz h (.agg rs) (.agg xs)
 | tup (rs xs : List V) (hl : rs.length = xs.length) (hp : ∀ (i : Nat) (r x : V),rs[i]? = some r → xs[i]? = some x → Frz h r x) : Frz h (.tup rs) (.tup xs)
theorem Frz.sound {F : Nat → Prop} {ids ids' : Nat → Nat × Nat} {w : World} {h : Hp} {M : Nm} (hh : RepH F ids w h M) {r x : V} (hf : Frz h r x) : ∀ v,RepV (Ze F h ids) ids w x v → RepV F ids' w r v:=by
 induction hf with
 | d d x hf=>intro v hv;exact (hf.sound hh v hv).toV
 | same x hb=>intro v hv;exact hv.mono (Goes.refl (Ze F h ids) w) (fun _ _ x=>.inl x) (fun n hn=>hn.elim) hb
 | sem r x hs=>intro v hv;exact hs F ids w M hh v hv ids'
 | agg rs xs hl hp ih=>
  intro v hv
  cases hv with
  | agg _ arr hs hr=>
   refine .agg _ _ (by rw [hs,hl]) fun i r v hi hv=>?_
   have hlt : i < xs.length:=by rw [← hl];exact (List.getElem?_eq_some_iff.1 hi).1
   exact ih i r xs[i] hi (by simp [hlt]) v (hr i xs[i] v (by simp [hlt]) hv)
 | tup rs xs hl hp ih=>
  intro v hv
  cases hv with
  | tup _ arr hs hr=>
   refine .tup _ _ (by rw [hs,hl]) fun i r v hi hv=>?_
   have hlt : i < xs.length:=by rw [← hl];exact (List.getElem?_eq_some_iff.1 hi).1
   exact ih i r xs[i] hi (by simp [hlt]) v (hr i xs[i] v (by simp [hlt]) hv)
def Zn2 (tab : Tab) (t : Nat → V) (h : Hp) : List ResultVar → (List V → Prop) → Prop
 | [],K=>K []
 | .tmp i :: rs,K=>Zn2 tab t h rs fun xs=>K (t i :: xs)
 | .cell i T :: rs,K=>Zmk (ZdL tab h T (t i)) fun x=>Zn2 tab t h rs fun xs=>K (x :: xs)
def one (xs : List V) : V:=
 match xs with
 | [x]=>x
 | xs=>.tup xs
theorem Zki (ht : Zk P tab) {F : Nat → Prop} {ids : Nat → Nat × Nat} {w : World} {M : Nm} {t : Nat → V} {h : Hp} {n : Nat} {a : Act} (hr : RepT F ids w M t h n a) (g : ResultVar → Sem Value) (hg1 : ∀ t,g (.tmp t) = pure (a.tmps.getD t undef)) (hg2 : ∀ x t,g (.cell x t) = (do loadVar t (← asAddr (a.tmps.getD x undef)))) : ∀ (rs : List ResultVar) (K : List V → Prop),Zn2 tab t h rs K →
 ∃ xs vs,K xs ∧ (rs.mapM g).run P w = .ok vs w ∧ vs.length = xs.length ∧
  (∀ (i : Nat) (x : V) (v : Value),xs[i]? = some x → vs[i]? = some v → RepV (Ze F h ids) ids w x v) ∧ ∀ x ∈ xs,x.Below M:=by
 intro rs
 induction rs with
 | nil=>intro K h;exact ⟨[],[],h,rfl,rfl,by simp,by simp⟩
 | cons r rs ih=>
  intro K hk
  cases r with
  | tmp i=>
   obtain ⟨xs,vs,k1,k2,k3,k4,k5⟩:=ih _ hk
   refine ⟨t i :: xs,a.tmps.getD i undef :: vs,k1,by simp only [List.mapM_cons,hg1,Sem.run_bind,Sem.run_pure,Result.andThen_ok,k2],by simp [k3],?_,by simpa using ⟨hr.below i,k5⟩⟩
   intro j x v hx hv
   cases j with
   | zero=>simp at hx hv;subst hx;subst hv;have:=hr.tmps i;simpa [Array.getD_eq_getD_getElem?] using this
   | succ j=>simp at hx hv;exact k4 j x v hx hv
  | cell i T=>
   obtain ⟨x0,hx0,hk⟩:=hk
   obtain ⟨val,p1,p2,p3⟩:=ZdP (P:=P) ht hr.heap (hr.tmps i) hx0
   obtain ⟨xs,vs,k1,k2,k3,k4,k5⟩:=ih _ hk
   have hp : ∃ ad,a.tmps.getD i undef = .pointer (some ad):=by
    have:=hr.tmps i
    unfold ZdL at hx0
    rw [Option.bind_eq_some_iff] at hx0
    obtain ⟨τ,_,hx0⟩:=hx0
    generalize a.tmps.getD i undef = u at this
    generalize t i = ti at this hx0
    cases ti <;> simp at hx0 <;> cases this <;> exact ⟨_,rfl⟩
   obtain ⟨ad,had⟩:=hp
   rw [had] at p1
   simp only [Instr.loadAt,Instr.sureAddr,Sem.run_bind,Sem.run_pure,Result.andThen_ok] at p1
   have hasd : (asAddr (a.tmps.getD i undef)).run P w = .ok ad w:=by rw [had];rfl
   refine ⟨x0 :: xs,val :: vs,k1,by simp only [List.mapM_cons,hg2,Sem.run_bind,hasd,Sem.run_pure,Result.andThen_ok,p1,k2],by simp [k3],?_,by simpa using ⟨p3,k5⟩⟩
   intro j x v hx hv
   cases j with
   | zero=>simp at hx hv;subst hx;subst hv;exact p2
   | succ j=>simp at hx hv;exact k4 j x v hx hv
theorem Zas (ht : Zk P tab) {F : Nat → Prop} {ids : Nat → Nat × Nat} {w : World} {M : Nm} {t : Nat → V} {h : Hp} {n : Nat} {a : Act} (hr : RepT F ids w M t h n a) (fn : Func) (K : V → Prop)
 (hk : Zn2 tab t h fn.results.toList fun xs=>K (one xs)) : ∃ x v,K x ∧ (results fn a.tmps).run P w = .ok v w ∧ RepV (Ze F h ids) ids w x v ∧ x.Below M:=by
 obtain ⟨xs,vs,k1,k2,k3,k4,k5⟩:=Zki (P:=P) ht hr (fun r=>match r with | .tmp t=>pure (a.tmps.getD t undef) | .cell x t=>do loadVar t (← asAddr (a.tmps.getD x undef))) (fun _=>rfl) (fun _ _=>rfl) _ _ hk
 refine ⟨one xs,if hv : vs.toArray.size = 1 then vs.toArray[0]'(by omega) else .tuple vs.toArray,k1,?_,?_,?_⟩
 · have e : results fn a.tmps = (do let vs ← fn.results.mapM (fun r=>match r with | .tmp t=>pure (a.tmps.getD t undef) | .cell x t=>do loadVar t (← asAddr (a.tmps.getD x undef)));pure (if h : vs.size = 1 then vs[0] else .tuple vs)):=by
    unfold results
    congr 1
   rw [e]
   simp only [Sem.run_bind,Array.mapM_eq_mapM_toList,Sem.run_map]
   rw [k2]
   rfl
 · by_cases h1 : xs.length = 1
   · obtain ⟨x,rfl⟩:=List.length_eq_one_iff.1 h1
     obtain ⟨v,rfl⟩:=List.length_eq_one_iff.1 (k3.trans h1)
     simpa [one] using k4 0 x v rfl rfl
   · rw [dif_neg (by simpa [k3] using h1)]
     have : one xs = .tup xs:=by
      match xs,h1 with
      | [],_=>rfl
      | [x],h=>simp at h
      | x :: y :: l,_=>rfl
     rw [this]
     exact .tup _ _ (by simp [k3]) fun i x v hx hv=>k4 i x v hx (by simpa using hv)
 · by_cases h1 : xs.length = 1
   · obtain ⟨x,rfl⟩:=List.length_eq_one_iff.1 h1
     simpa [one] using k5
   · have : one xs = .tup xs:=by
      match xs,h1 with
      | [],_=>rfl
      | [x],h=>simp at h
      | x :: y :: l,_=>rfl
     rw [this]
     exact .tup _ k5
def PSpec (P : Program) (f : FuncId) (args : List V) (r : V) : Prop:=
 (∀ x ∈ args,x.Below fun _=>False) ∧ (r.Below fun _=>False) ∧
 ∀ (F : Nat → Prop) (ids : Nat → Nat × Nat) (w : World) (vals : Array Value),(∀ b,F b → b < w.heap.size) → vals.size = args.length →
  (∀ (i : Nat) (x : V) (v : Value),args[i]? = some x → vals[i]? = some v → RepV F ids w x v) →
  (callFunc f vals).run P w = .ok (.enter f vals) w ∧ Calls P f vals w fun e w'=>∃ v,e = .returned v ∧ RepV F ids w' r v ∧ Goes (fun _=>False) w w'
theorem PSpec.call {f : FuncId} {args : List V} {r : V} (hs : PSpec P f args r) {h : Hp} {M : Nm} {nm : Nat} {K : V → Hp → Prop} (hk : K r h) : ACall P f args h M nm K:=by
 intro F ids w vals hh hsz hv
 obtain ⟨ha,hr,hs⟩:=hs
 obtain ⟨h1,h2⟩:=hs (Ze F h ids) ids w vals (fun b hb=>hb.elim (hh.fsz b) fun hl=>hh.liveLt hl) hsz hv
 refine .inl ⟨h1,h2.mono ?_⟩
 rintro e w' ⟨v,rfl,hrv,hg⟩
 have hgl : Goes (Zbs h ids) w w':=hg.weaken fun _ _ x=>x.elim
 have hga : Goes (Ze F h ids) w w':=hg.weaken fun _ _ x=>x.elim
 have hh' : RepH F ids w' h M:=⟨hh.lt,fun n b hb=>(hh.blk n b hb).mono hga (fun _ _ x=>x) (fun _ _=>rfl) (hh.below n b hb) (fun hr=>hg.same _ ((hh.blk n b hb).lt hr) (fun x=>x)),hh.below,hh.inj,hh.out,fun b hb=>Nat.lt_of_lt_of_le (hh.fsz b hb) hg.size⟩
 refine ⟨v,r,h,ids,rfl,hk,⟨hh'.nx fun k hk=>.inl hk,hgl,fun _ _ x=>x,fun _ _=>rfl,fun k hk=>.inl hk⟩,hrv,hr.mono fun _ h=>h.elim⟩
inductive Lend (h : Hp) : V → V → Prop
 | same (x : V) (hb : x.Below fun _=>False) : Lend h x x
 | nil (sz : Nat) : Lend h (.lst sz [] false) (.c (.slice none 0 0))
 | clip (sz : Nat) (rows : List (List D)) (cl : Bool) : Lend h (.lst sz rows false) (.lst sz rows cl)
 | ac (n sz len : Nat) (r : List (List D)) (hn : h n = some (.dat sz r)) (hl : len = r.length) : Lend h (.lst sz r false) (.ac n sz len)
 | sd (n sz off len : Nat) (r rows : List (List D)) (hn : h n = some (.dat sz r)) (hl : off + len ≤ r.length) (hr : rows = (r.drop off).take len) : Lend h (.lst sz rows false) (.sl n sz off len)
 | p (n sz i j : Nat) (r : List (List V)) (row : List D) (hn : h n = some (.rows sz r)) (hr : r[i]? = some (row.map D.toV)) (hl : row.all D.leaf = true) : Lend h (.q row j) (.p n sz i j)
 | pd (n sz i j : Nat) (r : List (List D)) (row : List D) (hn : h n = some (.dat sz r)) (hr : r[i]? = some row) : Lend h (.q row j) (.p n sz i j)
 | fn (f : Fn) (xs xs' ys ys' : List V) (hl : xs.length = xs'.length) (hl' : ys.length = ys'.length) (hx : ∀ (i : Nat) (x y : V),xs[i]? = some x → xs'[i]? = some y → Lend h x y) (hy : ∀ (i : Nat) (x y : V),ys[i]? = some x → ys'[i]? = some y → Lend h x y) : Lend h (.fn f xs ys) (.fn f xs' ys')
 | agg (xs xs' : List V) (hl : xs.length = xs'.length) (hx : ∀ (i : Nat) (x y : V),xs[i]? = some x → xs'[i]? = some y → Lend h x y) : Lend h (.agg xs) (.agg xs')
theorem RepR.q {A A' : Nat → Prop} {ids : Nat → Nat × Nat} {w : World} (hA : ∀ b,A' b → A b) {p : Nat × Nat} {sz i j : Nat} {r : List (List V)} {row : List D} (h : RepR A ids w p sz r) (hr : r[i]? = some (row.map D.toV)) (hl : row.all D.leaf = true) (hp : ¬ A' p.1) :
 RepV A' ids w (.q row j) (.pointer (some ⟨p.1,p.2 + (i * sz + j),none⟩)):=by
 obtain ⟨arr,T,b1,b2,b3,b4⟩:=h
 have key : ∀ (k : Nat) (d : D),row[k]? = some d → ∃ u,arr[p.2 + (i * sz + k)]? = some u ∧ RepD A' w d u:=by
  intro k d hk
  obtain ⟨u,hu,hrep⟩:=b4 i (row.map D.toV) k d.toV hr (by simp [hk])
  exact ⟨u,hu,Zlb hA (List.all_eq_true.1 hl d (List.mem_of_getElem? hk)) hrep⟩
 have e : p.2 + (i * sz + j) = (p.2 + i * sz) + j:=by omega
 rw [e]
 refine .q row j p.1 (p.2 + i * sz) (fun k=>(arr[p.2 + (i * sz + k)]?).getD default) (Array.getElem?_eq_some_iff.1 b1).1 hp (fun k d hk=>?_) (fun k d hk=>?_)
 · obtain ⟨u,hu,_⟩:=key k d hk
   rw [Nat.add_assoc,ZbT b1,hu];rfl
 · obtain ⟨u,hu,hrep⟩:=key k d hk
   rw [hu];exact hrep
theorem Lend.sound {F : Nat → Prop} {ids : Nat → Nat × Nat} {w : World} {h : Hp} {M : Nm} (hh : RepH F ids w h M) {d x : V} (hl : Lend h d x) : ∀ {v : Value},RepV (Ze F h ids) ids w x v → RepV F ids w d v:=by
 induction hl with
 | same _ hb=>exact fun hv=>(Frz.same _ hb).sound hh _ hv
 | nil sz=>exact fun hv=>(Frz.d (.lst sz []) _ (.nil sz)).sound hh _ hv
 | clip sz rows cl=>exact fun hv=>(Frz.d (.lst sz rows) _ (.lst sz rows cl)).sound hh _ hv
 | ac n sz len r hn hl=>exact fun hv=>(Frz.d (.lst sz r) _ (.ac n sz len r hn hl)).sound hh _ hv
 | sd n sz off len r rows hn hl hr=>exact fun hv=>(Frz.d (.lst sz rows) _ (.sd n sz off len r rows hn hl hr)).sound hh _ hv
 | p n sz i j r row hn hr hl=>intro v hv;cases hv with | p=>exact RepR.q (fun _ x=>.inl x) (hh.blk n _ hn) hr hl (hh.out n _ hn rfl)
 | pd n sz i j r row hn hr=>
  intro v hv
  have hne : r ≠ []:=by rintro rfl;simp at hr
  cases hv with | p=>exact RepR.q (fun _ x=>.inl x) ((hh.blk n _ hn).1 hne) (by rw [Y7,hr];rfl) ((hh.blk n _ hn).2 row (List.mem_of_getElem? hr)) (ZhK hh hn hne)
 | fn f xs xs' ys ys' hl hl' hx hy ih ih'=>
  intro v hv
  cases hv with
  | fn _ _ _ ar br h1 h2 h3 h4=>
   refine .fn _ _ _ ar br (by rw [h1,hl]) (by rw [h2,hl']) (fun i x v hi hv=>?_) (fun i x v hi hv=>?_)
   · have hlt : i < xs'.length:=by rw [← hl];exact (List.getElem?_eq_some_iff.1 hi).1
     exact ih i x xs'[i] hi (by simp [hlt]) (h3 i _ v (by simp [hlt]) hv)
   · have hlt : i < ys'.length:=by rw [← hl'];exact (List.getElem?_eq_some_iff.1 hi).1
     exact ih' i x ys'[i] hi (by simp [hlt]) (h4 i _ v (by simp [hlt]) hv)
 | agg xs xs' hl hx ih=>
  intro v hv
  cases hv with
  | agg _ ar h1 h3=>
   refine .agg _ ar (by rw [h1,hl]) (fun i x v hi hv=>?_)
   have hlt : i < xs'.length:=by rw [← hl];exact (List.getElem?_eq_some_iff.1 hi).1
   exact ih i x xs'[i] hi (by simp [hlt]) (h3 i _ v (by simp [hlt]) hv)
def isC : V → Bool
 | .c _=>true
 | .un=>true
 | _=>false
def Zux : V → Bool
 | .tup xs=>xs.all isC
 | .agg xs=>xs.all isC
 | x=>isC x
theorem Zlp {A A' : Nat → Prop} {ids ids' : Nat → Nat × Nat} {w w' : World} {x : V} {v : Value} (hx : isC x = true) (h : RepV A ids w x v) : RepV A' ids' w' x v:=by
 cases h with
 | c=>exact .c _
 | un=>exact .un _
 | _=>cases hx
theorem ZnI {A A' : Nat → Prop} {ids ids' : Nat → Nat × Nat} {w w' : World} {x : V} {v : Value} (hx : Zux x = true) (h : RepV A ids w x v) : RepV A' ids' w' x v:=by
 cases h with
 | c=>exact .c _
 | un=>exact .un _
 | tup xs arr hs h=>exact .tup _ _ hs fun i x v h1 h2=>Zlp (List.all_eq_true.1 hx x (List.mem_of_getElem? h1)) (h i x v h1 h2)
 | agg xs arr hs h=>exact .agg _ _ hs fun i x v h1 h2=>Zlp (List.all_eq_true.1 hx x (List.mem_of_getElem? h1)) (h i x v h1 h2)
 | _=>cases hx
def PSpecN (P : Program) (f : FuncId) (args : List V) (r : V) : Prop:=
 (∀ x ∈ args,x.Below fun _=>False) ∧ (r.Below fun _=>False) ∧
 ∀ (F : Nat → Prop) (ids : Nat → Nat × Nat) (w : World) (vals : Array Value),(∀ b,F b → b < w.heap.size) → vals.size = args.length →
  (∀ (i : Nat) (x : V) (v : Value),args[i]? = some x → vals[i]? = some v → RepV F ids w x v) →
  (callFunc f vals).run P w = .ok (.enter f vals) w ∧ Calls P f vals w fun e w'=>∃ v,e = .returned v ∧ RepV (fun b=>b < w.heap.size) ids w' r v ∧ Goes (fun _=>False) w w'
theorem PSpec.new {f : FuncId} {args : List V} {r : V} (hs : PSpec P f args r) (hf : Zux r = true) : PSpecN P f args r:=by
 obtain ⟨h1,h2,h3⟩:=hs
 refine ⟨h1,h2,fun F ids w vals hF hsz hv=>?_⟩
 obtain ⟨g1,g2⟩:=h3 F ids w vals hF hsz hv
 exact ⟨g1,g2.mono fun e w' ⟨v,he,hrv,hg⟩=>⟨v,he,ZnI hf hrv,hg⟩⟩
theorem PSpecN.old {f : FuncId} {args : List V} {r : V} (hs : PSpecN P f args r) : PSpec P f args r:=by
 obtain ⟨h1,h2,h3⟩:=hs
 refine ⟨h1,h2,fun F ids w vals hF hsz hv=>?_⟩
 obtain ⟨g1,g2⟩:=h3 F ids w vals hF hsz hv
 refine ⟨g1,g2.mono fun e w' ⟨v,he,hrv,hg⟩=>⟨v,he,?_,hg⟩⟩
 exact hrv.mono (Goes.refl _ w') (fun b _ hb=>hF b hb) (fun _ _=>rfl) h2
def LendL (h : Hp) : List V → List V → Prop
 | [],[]=>True
 | d :: ds,x :: xs=>Lend h d x ∧ LendL h ds xs
 | _,_=>False
theorem LendL.length {h : Hp} : ∀ {ds xs : List V},LendL h ds xs → ds.length = xs.length
 | [],[],_=>rfl
 | _ :: _,_ :: _,hl=>by simp [LendL.length hl.2]
 | [],_ :: _,hl=>hl.elim
 | _ :: _,[],hl=>hl.elim
theorem LendL.at {h : Hp} : ∀ {ds xs : List V},LendL h ds xs → ∀ (i : Nat) (d x : V),ds[i]? = some d → xs[i]? = some x → Lend h d x
 | [],[],_,i,d,x,h1,_=>by simp at h1
 | _ :: _,_ :: _,hl,0,d,x,h1,h2=>by simp at h1 h2;rw [← h1,← h2];exact hl.1
 | _ :: _,_ :: _,hl,i + 1,d,x,h1,h2=>LendL.at hl.2 i d x (by simpa using h1) (by simpa using h2)
 | [],_ :: _,hl,_,_,_,_,_=>hl.elim
 | _ :: _,[],hl,_,_,_,_,_=>hl.elim
def PCall (P : Program) (f : FuncId) (args : List V) (h : Hp) (r : V) : Prop:=PSpec P f args r ∨ ∃ ds,LendL h ds args ∧ PSpecN P f ds r
theorem PCall.below {f : FuncId} {args : List V} {h : Hp} {r : V} (hs : PCall P f args h r) : r.Below fun _=>False:=by
 rcases hs with hs | ⟨ds,_,hs⟩ <;> exact hs.2.1
theorem PCall.run {f : FuncId} {args : List V} {r : V} {h : Hp} (hs : PCall P f args h r) {F : Nat → Prop} {ids : Nat → Nat × Nat} {w : World} {M : Nm} {vals : Array Value} (hh : RepH F ids w h M) (hsz : vals.size = args.length)
 (hv : ∀ (i : Nat) (x : V) (v : Value),args[i]? = some x → vals[i]? = some v → RepV (Ze F h ids) ids w x v) :
 (callFunc f vals).run P w = .ok (.enter f vals) w ∧ Calls P f vals w fun e w'=>∃ v,e = .returned v ∧ RepV (Ze F h ids) ids w' r v ∧ Goes (fun _=>False) w w':=by
 rcases hs with ⟨ha,hr,hs⟩ | ⟨ds,hl,⟨ha,hr,hs⟩⟩
 · exact hs (Ze F h ids) ids w vals (fun b hb=>hb.elim (hh.fsz b) fun hl=>hh.liveLt hl) hsz hv
 · obtain ⟨h1,h2⟩:=hs F ids w vals hh.fsz (hsz.trans hl.length.symm) fun i d v hd hvi=>by
    have hi : i < args.length:=by rw [← hl.length];exact (List.getElem?_eq_some_iff.1 hd).1
    exact (hl.at i d args[i] hd (by simp [hi])).sound hh (hv i args[i] v (by simp [hi]) hvi)
   exact ⟨h1,h2.mono fun e w' ⟨v,he,hrv,hg⟩=>⟨v,he,hrv.mono (Goes.refl _ w') (fun b _ hb=>hb.elim (hh.fsz b) fun hl=>hh.liveLt hl) (fun _ _=>rfl) hr,hg⟩⟩
theorem PCall.call {f : FuncId} {args : List V} {r : V} {h : Hp} (hs : PCall P f args h r) {M : Nm} {nm : Nat} {K : V → Hp → Prop} (hk : K r h) : ACall P f args h M nm K:=by
 intro F ids w vals hh hsz hv
 obtain ⟨h1,h2⟩:=hs.run hh hsz hv
 refine .inl ⟨h1,h2.mono ?_⟩
 rintro e w' ⟨v,rfl,hrv,hg⟩
 have hgl : Goes (Zbs h ids) w w':=hg.weaken fun _ _ x=>x.elim
 have hga : Goes (Ze F h ids) w w':=hg.weaken fun _ _ x=>x.elim
 have hh' : RepH F ids w' h M:=⟨hh.lt,fun n b hb=>(hh.blk n b hb).mono hga (fun _ _ x=>x) (fun _ _=>rfl) (hh.below n b hb) (fun hr=>hg.same _ ((hh.blk n b hb).lt hr) (fun x=>x)),hh.below,hh.inj,hh.out,fun b hb=>Nat.lt_of_lt_of_le (hh.fsz b hb) hg.size⟩
 refine ⟨v,r,h,ids,rfl,hk,⟨hh'.nx fun k hk=>.inl hk,hgl,fun _ _ x=>x,fun _ _=>rfl,fun k hk=>.inl hk⟩,hrv,hs.below.mono fun _ h=>h.elim⟩
theorem Marks.other {w : World} {r : Nat} {ds : List Deferred} (hm : Marks w ds) : (∀ d ∈ ds,d.target ≠ .collected r) → Marks (w.putObj r (.deferred none)) ds:=by
 induction hm with
 | nil=>exact fun _=>.nil
 | cons q ds h1 h2 h3 ih=>
  intro hn
  refine .cons q ds ?_ h2 (ih fun d hd=>hn d (List.mem_cons_of_mem _ hd))
  rw [World.putObj_heap_other fun e=>hn { target:=.collected q,args:=#[] } (List.mem_cons_self) (by rw [e])]
  exact h1
theorem Zc4 {dep : Nat} {fn : Func} {tmps : Array Value} {R : Ending → World → Prop} : ∀ (ds : List Deferred) (w : World),Marks w ds →
 (∀ w',Aside w w' → (∀ b,(∀ d ∈ ds,d.target ≠ .collected b) → w'.heap[b]? = w.heap[b]?) → LeavesInM (Fw none) dep P fn tmps R [] .returning w') → LeavesInM (Fw none) dep P fn tmps R ds .returning w
 | [],w,_,h=>h w (Aside.refl w) fun _ _=>rfl
 | _ :: _,w,.cons r ds h1 hn hr,h=>by
  have ha : Aside w (w.putObj r (.deferred none)):=Aside.put h1 (fun x=>x) (fun x=>x)
  refine ⟨by simp,.inl ⟨r,_,rfl,run_takeDeferred h1,?_⟩⟩
  refine Zc4 ds _ (hr.other hn) fun w' k1 k2=>h w' (ha.trans k1) fun b hb=>?_
  rw [k2 b fun d hd=>hb d (by simp [hd])]
  exact World.putObj_heap_other fun e=>hb { target:=.collected r,args:=#[] } (List.mem_cons_self) (by rw [e])
theorem ZaS {f : FuncId} {fn : Func} {body : Code} (hf : P.funcs[f]? = some fn) (hbody : fn.body = some body) {vals : Array Value} {M0 : Nm} {Q : Ex → St → Prop} {s : St} {F : Nat → Prop} {ids : Nat → Nat × Nat} {w : World} {R : Ending → World → Prop}
 (h : AWP P M0 body Q s) (hrep : Rep F ids w s { tmps:=vals ++ Array.replicate (fn.ntmps - vals.size) undef,defers:=[] }) (hx : ∀ k s',¬ Q (.exit k) s')
 (hq : ∀ x s' ids' w' a',Q x s' → Rep F ids' w' s' a' → Keep M0 ids w s.h ids' w' s'.h → ∃ v,(results fn a'.tmps).run P w' = .ok v w' ∧ R (.returned v) w') : Calls P f vals w R:=by
 refine CallsIn.calls (F:=Fw none) (n:=0) (callsIn_of_wp_marks hf hbody trivial ?_) fun k=>Fw.room k
 refine wpIn_mono (h none (fun _ e=>nomatch e) 0 F ids w _ hrep) ?_
 rintro e a' w' ⟨x,s',ids',hxe,hQ,hr',hk⟩
 have key : LeavesInM (Fw none) 0 P fn a'.tmps R a'.defers .returning w':=by
  refine Zc4 a'.defers w' hr'.defers fun w2 k1 k2=>?_
  have hr2:=hr'.aside k1 (ds:=[]) .nil
  obtain ⟨ms,e1,e2⟩:=hk.news
  have e1 : a'.defers = ms:=by simpa using e1
  refine hq x s' ids' w2 { a' with defers:=[] } hQ hr2 ⟨⟨Nat.le_trans hk.goes.size k1.size,fun b hb hl=>?_,fun b arr T fz hb=>?_,fun b es k hb=>?_,⟨k1.env.1.trans hk.goes.env.1,k1.env.2.trans hk.goes.env.2⟩,fun a=>(k1.frz a).trans (hk.goes.frz a)⟩,hk.live,hk.ids⟩
  · rw [k2 b fun d hd he=>?_]
    · exact hk.goes.same b hb hl
    · obtain ⟨r,hr,hle⟩:=e2 d (by rw [← e1];exact hd)
      rw [hr] at he;cases he;omega
  · obtain ⟨arr',h1,h2⟩:=hk.goes.shape b arr T fz hb
    exact ⟨arr',k1.keep _ (.cells _ _ _) trivial h1,h2⟩
  · obtain ⟨es',k',h1⟩:=hk.goes.mapx b es k hb
    exact ⟨es',k',k1.keep _ (.map _ _) trivial h1⟩
 cases e with
 | normal=>exact key
 | ret=>exact key
 | exit k=>
  cases x with
  | exit j=>exact (hx _ _ hQ).elim
  | normal=>exact False.elim hxe
  | ret=>exact False.elim hxe
 | _=>cases x <;> cases hxe
theorem PSpec.of_body (ht : Zk P tab) {f : FuncId} {fn : Func} {body : Code} (hf : P.funcs[f]? = some fn) (hbody : fn.body = some body) (hname : (fn.name == "runtime.NumGoroutine") = false)
 {args : List V} {r : V} (ha : ∀ x ∈ args,x.Below fun _=>False) (hr : r.Below fun _=>False) (hlen : args.length ≤ fn.ntmps)
 (h : AWP P (fun _=>False) body (fun x s=>(match x with | .exit _=>False | _=>True) ∧ Zn2 tab s.t s.h fn.results.toList fun xs=>Frz s.h r (one xs)) ⟨fun i=>args.getD i .un,fun _=>none,0,fn.ntmps⟩) : PSpec P f args r:=by
 refine ⟨ha,hr,fun F ids w vals hF hsz hv=>⟨?_,?_⟩⟩
 · simp only [callFunc,Sem.run_bind,run_program,Result.andThen_ok,hf,hname,Bool.false_eq_true,if_false,hbody,Option.isNone_some,Sem.run_pure]
 · have hbody':=hbody
   have hh : RepH F ids w (fun _=>none) (Lt 0):=⟨by simp,by simp,by simp,by simp,by simp,hF⟩
   have hget : ∀ i,args.length ≤ i → args.getD i .un = .un:=fun i hi=>by simp [List.getD_eq_getElem?_getD,hi]
   have hrep : Rep F ids w ⟨fun i=>args.getD i .un,fun _=>none,0,fn.ntmps⟩ { tmps:=vals ++ Array.replicate (fn.ntmps - vals.size) undef,defers:=[] }:=by
    refine ⟨hh,fun i=>?_,by simp;omega,fun i hi=>hget i (Nat.le_trans hlen hi),fun i=>?_,.nil⟩
    · show RepV _ _ _ (args.getD i .un) _
      by_cases hi : i < args.length
      · have hx : args[i]? = some args[i]:=by simp [hi]
        have hvi : vals[i]? = some (vals[i]'(by omega)):=by simp [hsz,hi]
        have:=hv i args[i] _ hx hvi
        simp only [List.getD_eq_getElem?_getD,hx,Option.getD_some,Array.getD_eq_getD_getElem?,Array.getElem?_append_left (show i < vals.size by omega),hvi]
        refine this.mono (Goes.refl F w) (fun b _ hb=>?_) (fun n hn=>hn.elim) (ha _ (List.getElem_mem hi))
        rcases hb with hb | ⟨n,x,hx,_⟩
        · exact hb
        · cases hx
      · rw [hget i (by omega)];exact .un _
    · show V.Below _ (args.getD i .un)
      by_cases hi : i < args.length
      · have hx : args[i]? = some args[i]:=by simp [hi]
        simp only [List.getD_eq_getElem?_getD,hx,Option.getD_some]
        exact (ha _ (List.getElem_mem hi)).mono fun _ h=>h.elim
      · rw [hget i (by omega)];exact .un
   refine ZaS hf hbody' h hrep (fun k s' hq=>False.elim hq.1) ?_
   rintro x s' ids' w' a' ⟨hx',hq⟩ hr' hk
   obtain ⟨y,v,k1,k2,k3,k4⟩:=Zas (P:=P) ht hr' fn _ hq
   have hg : Goes (fun _=>False) w w':=hk.goes.weaken fun b _ hb=>by obtain ⟨n,z,hz,_⟩:=hb;cases hz
   have hend : ∃ v,(results fn a'.tmps).run P w' = .ok v w' ∧ ∃ v',Ending.returned v = .returned v' ∧ RepV F ids w' r v' ∧ Goes (fun _=>False) w w':=
    ⟨v,k2,v,rfl,k1.sound hr'.heap v k3,hg⟩
   exact hend
end
set_option linter.unusedVariables false
set_option linter.unusedSimpArgs false
section
variable {P : Program} {tab : Tab} {M0 : Nm}
structure Dyn where
 hr : List Nat
 hw : List Nat
 nw : List Nat
 x : Bool
mutual
def Zc : V → List Nat
 | .p n _ _ _=>[n]
 | .sl n _ _ _=>[n]
 | .ac n _ _=>[n]
 | .sx n _ _ _ _=>[n]
 | .mp n=>[n]
 | .agg xs=>Zp xs
 | .tup xs=>Zp xs
 | .fn _ xs ys=>Zp xs ++ Zp ys
 | .ifc _ x=>Zc x
 | .un=>[]
 | .c _=>[]
 | .lst _ _ _=>[]
 | .q _ _=>[]
def Zp : List V → List Nat
 | []=>[]
 | x :: xs=>Zc x ++ Zp xs
end
theorem ZG {n : Nat} : ∀ {xs : List V},n ∈ Zp xs ↔ ∃ x ∈ xs,n ∈ Zc x
 | []=>by simp [Zp]
 | x :: xs=>by simp [Zp,ZG]
def ZcD : V → List Nat
 | .sl n _ _ _=>[n]
 | .ac n _ _=>[n]
 | _=>[]
def Zs8 : Op → Bool
 | .alloc _ | .box _ _ | .buildSlice _ _ _=>true
 | .call ⟨.builtin .append,_,_⟩=>true
 | _=>false
def YS (nm : Nat) (e : Operand → V) : Op → Dyn
 | .load _ a=>⟨Zc (e a),[],[],false⟩
 | .store _ a _=>⟨[],Zc (e a),[],false⟩
 | .alloc _ | .box _ _ | .buildSlice _ _ _=>⟨[],[],[nm],false⟩
 | .call ⟨.builtin .append,args,_⟩=>match args.toList with
  | [s,x]=>⟨Zc (e x),ZcD (e s),[nm],false⟩
  | _=>⟨[],[],[],true⟩
 | .call ⟨.builtin .len,args,_⟩=>match args.toList with
  | [s]=>⟨Zc (e s),[],[],false⟩
  | _=>⟨[],[],[],true⟩
 | .call ⟨.builtin _,_,_⟩=>⟨[],[],[],false⟩
 | _=>⟨[],[],[],false⟩
def Q1 (h : Hp) : List (Nat × Option B) → Hp
 | []=>h
 | p :: u=>Q1 (upd h p.1 p.2) u
def Zw (u : List (Nat × Option B)) : List Nat:=u.map Prod.fst
theorem Yo : ∀ {u : List (Nat × Option B)} {h : Hp} {n : Nat},¬ n ∈ Zw u → Q1 h u n = h n
 | [],_,_,_=>rfl
 | p :: u,h,n,hn=>by
  simp only [Zw,List.map_cons,List.mem_cons,not_or] at hn
  rw [Q1,Yo (u:=u) hn.2,Zi _ _ _ _ hn.1]
theorem ZcR : ∀ {u : List (Nat × Option B)} {h h2 : Hp} {n : Nat},(¬ n ∈ Zw u → h2 n = h n) → Q1 h2 u n = Q1 h u n
 | [],_,_,_,e=>e (by simp [Zw])
 | p :: u,h,h2,n,e=>by
  simp only [Q1]
  refine ZcR fun hn=>?_
  by_cases hp : n = p.1
  · rw [hp,Zb,Zb]
  · rw [Zi _ _ _ _ hp,Zi _ _ _ _ hp]
    exact e (by simp only [Zw,List.map_cons,List.mem_cons,not_or];exact ⟨hp,hn⟩)
theorem ZmR {h : Hp} {u v : List (Nat × Option B)} (hd : ∀ n,n ∈ Zw u → n ∈ Zw v → False) : Q1 (Q1 h u) v = Q1 (Q1 h v) u:=by
 funext n
 by_cases hu : n ∈ Zw u
 · have hv : ¬ n ∈ Zw v:=fun hv=>hd n hu hv
   rw [Yo hv]
   exact (ZcR fun hn=>absurd hu hn).symm
 · rw [Yo hu]
   exact ZcR fun _=>Yo hu
structure LCall (P : Program) (f : FuncId) (xs : List V) (d : Dyn) (nm : Nat) (u : List (Nat × Option B)) (v : V) (h : Hp) : Prop where
 names : ∀ n ∈ Zw u,n ∈ d.hw ∨ n ∈ d.nw
 news : ∀ n ∈ d.nw,nm ≤ n ∧ n < nm + 64
 run : ∀ h2 : Hp,(∀ n,n ∈ d.hr ∨ n ∈ d.hw → h2 n = h n) → ∀ M : Nm,(∀ k,nm ≤ k → k < nm + 64 → ¬ M k) → (∀ x ∈ xs,x.Below M) → ACall P f xs h2 M nm fun r h'=>r = v ∧ h' = Q1 h2 u
structure LOp (P : Program) (op : Op) (e : Operand → V) (d : Dyn) (nm : Nat) (u : List (Nat × Option B)) (v : V) (h : Hp) : Prop where
 names : ∀ n ∈ Zw u,n ∈ d.hw ∨ n ∈ d.nw
 news : ∀ n ∈ d.nw,nm ≤ n ∧ n < nm + 64
 run : ∀ h2 : Hp,(∀ n,n ∈ d.hr ∨ n ∈ d.hw → h2 n = h n) → ∀ M : Nm,(∀ k,nm ≤ k → k < nm + 64 → ¬ M k) → (∀ x ∈ op.operands.toList,(e x).Below M) → AOp P op e h2 M nm fun r h'=>r = v ∧ h' = Q1 h2 u
def ZoM (P : Program) (tab : Tab) (nm : Nat) (op : Op) (e : Operand → V) (d : Dyn) (h : Hp) (v : V) (u : List (Nat × Option B)) : Prop:=
 match op with
 | .pick c x y=>(∃ z,e c = .c (.bool z) ∧ v = (if z = true then e x else e y)) ∧ u = [] ∧ d = ⟨[],[],[],false⟩
 | .call ⟨.value f,args,_⟩=>∃ g first cap,e f = .fn (.func g) first cap ∧ d.x = false ∧ LCall P g (first ++ (args.toList.map e ++ cap)) d nm u v h
 | op=>d = YS nm e op ∧ d.x = false ∧ (∀ n ∈ Zw u,n ∈ d.hw ∨ n ∈ d.nw) ∧ ∀ h2 : Hp,(∀ n,n ∈ d.hr ∨ n ∈ d.hw → h2 n = h n) → sop tab nm e h2 op = some (v,Q1 h2 u)
def DOp (P : Program) (tab : Tab) (nm : Nat) (op : Op) (e : Operand → V) (d : Dyn) (h : Hp) (v : V) (u : List (Nat × Option B)) : Prop:=ZoM P tab nm op e d h v u ∨ (d.x = false ∧ LOp P op e d nm u v h)
theorem Zc3 {h h2 : Hp} {n : Nat} (e : h2 n = h n) (sz : Nat) : ZbB h2 n sz = ZbB h n sz:=by simp [ZbB,e]
theorem Zax {h h2 : Hp} {n : Nat} (e : h2 n = h n) (sz : Nat) : Zbt h2 n sz = Zbt h n sz:=by simp [Zbt,e]
theorem Zj9 {h h2 : Hp} {d x : V} (hl : Lend h d x) : (∀ n ∈ Zc x,h2 n = h n) → Lend h2 d x:=by
 induction hl with
 | same _ hb=>exact fun _=>.same _ hb
 | nil sz=>exact fun _=>.nil sz
 | clip sz rows cl=>exact fun _=>.clip sz rows cl
 | ac n sz len r hn hl=>exact fun e=>.ac n sz len r (by rw [e n (by simp [Zc])];exact hn) hl
 | sd n sz off len r rows hn hl hr=>exact fun e=>.sd n sz off len r rows (by rw [e n (by simp [Zc])];exact hn) hl hr
 | p n sz i j r row hn hr hl=>exact fun e=>.p n sz i j r row (by rw [e n (by simp [Zc])];exact hn) hr hl
 | pd n sz i j r row hn hr=>exact fun e=>.pd n sz i j r row (by rw [e n (by simp [Zc])];exact hn) hr
 | fn f xs xs' ys ys' hl hl' hx hy ih ih'=>
  intro e
  refine .fn _ _ _ _ _ hl hl' (fun i x y h1 h2=>ih i x y h1 h2 fun n hn=>e n ?_) (fun i x y h1 h2=>ih' i x y h1 h2 fun n hn=>e n ?_)
  · simp only [Zc,List.mem_append];exact .inl (ZG.2 ⟨y,List.mem_of_getElem? h2,hn⟩)
  · simp only [Zc,List.mem_append];exact .inr (ZG.2 ⟨y,List.mem_of_getElem? h2,hn⟩)
 | agg xs xs' hl hx ih=>
  intro e
  refine .agg _ _ hl (fun i x y h1 h2=>ih i x y h1 h2 fun n hn=>e n ?_)
  simp only [Zc];exact ZG.2 ⟨y,List.mem_of_getElem? h2,hn⟩
theorem ZdT {h h2 : Hp} : ∀ {ds xs : List V},(∀ n ∈ Zp xs,h2 n = h n) → LendL h ds xs → LendL h2 ds xs
 | [],[],_,_=>trivial
 | _ :: _,x :: xs,e,hl=>⟨Zj9 hl.1 (fun n hn=>e n (by simp [Zp,hn])),ZdT (fun n hn=>e n (by simp [Zp,hn])) hl.2⟩
 | [],_ :: _,_,hl=>hl.elim
 | _ :: _,[],_,hl=>hl.elim
theorem ZhH {h h2 : Hp} {f : FuncId} {xs : List V} {r : V} (e : ∀ n ∈ Zp xs,h2 n = h n) (hc : PCall P f xs h r) : PCall P f xs h2 r:=by
 rcases hc with hc | ⟨ds,h1,h2⟩
 · exact .inl hc
 · exact .inr ⟨ds,ZdT e h1,h2⟩
theorem PCall.lcall {f : FuncId} {xs : List V} {h : Hp} {r : V} (hc : PCall P f xs h r) (nm : Nat) : LCall P f xs ⟨Zp xs,[],[],false⟩ nm [] r h:=
 ⟨by simp [Zw],by simp,fun h2 he _ _ _=>(ZhH (fun n hn=>he n (.inl hn)) hc).call ⟨rfl,rfl⟩⟩
theorem ZeH {h h2 : Hp} {x : V} (e : ∀ n ∈ Zc x,h2 n = h n) : YO h2 x = YO h x:=by
 cases x with
 | sl n sz off len=>simp only [YO];rw [Zc3 (e n (by simp [Zc]))]
 | _=>rfl
theorem Zek {h h2 : Hp} {x : V} (sz : Nat) (e : ∀ n ∈ Zc x,h2 n = h n) : Q9 h2 sz x = Q9 h sz x:=by
 cases x with
 | sl n sz off len=>simp only [Q9];rw [Zax (e n (by simp [Zc]))]
 | ac n sz len=>simp only [Q9];rw [Zax (e n (by simp [Zc]))]
 | c v=>cases v <;> first | rfl | (next a l c=>cases a <;> cases l <;> cases c <;> rfl)
 | _=>rfl
theorem ZhB {h h2 : Hp} {t : TypeId} {a : V} (e : ∀ n ∈ Zc a,h2 n = h n) : ZdL tab h2 t a = ZdL tab h t a:=by
 cases a with
 | p n sz i j=>simp only [ZdL];rw [e n (by simp [Zc])]
 | _=>rfl
theorem ZjJ {h h2 : Hp} {k : TK} {a : V} (e : ∀ n ∈ Zc a,h2 n = h n) : Znz h2 k a = Znz h k a:=by
 cases a with
 | mp n=>unfold Znz;cases k <;> simp [e n (by simp [Zc])]
 | _=>rfl
theorem Zkm {h h' : Hp} {t : TypeId} {a x : V} (hs : ZaN tab h t a x = some h') : ∃ n b,Zc a = [n] ∧ h' = upd h n (some b) ∧ ∀ h2 : Hp,h2 n = h n → ZaN tab h2 t a x = some (upd h2 n (some b)):=by
 have hs0:=hs
 unfold ZaN at hs
 rw [Option.bind_eq_some_iff] at hs
 obtain ⟨τ,hτ,hs⟩:=hs
 cases a with
 | p n sz i j=>
  dsimp only at hs
  split at hs
  · next sz' r hr=>
    split at hs
    case isFalse=>cases hs
    next hsz=>
    simp only [Option.bind_eq_some_iff] at hs
    obtain ⟨row,hi,xs,hxs,hs⟩:=hs
    split at hs
    · next hc=>
      cases hs
      refine ⟨n,_,rfl,rfl,fun h2 e=>?_⟩
      simp only [ZaN,hτ,Option.bind_some,e,hr,hsz,if_true,hi,hxs]
      rw [if_pos hc]
    · cases hs
  · next sz' r hr=>
    split at hs
    case isFalse=>cases hs
    next hsz=>
    simp only [Option.bind_eq_some_iff] at hs
    obtain ⟨row,hi,xs,hxs,ds,hds,hs⟩:=hs
    split at hs
    · next hc=>
      cases hs
      refine ⟨n,_,rfl,rfl,fun h2 e=>?_⟩
      simp only [ZaN,hτ,Option.bind_some,e,hr,hsz,if_true,hi,hxs,hds]
      rw [if_pos hc]
    · cases hs
  · cases hs
 | _=>simp at hs
theorem Zh1 {nm : Nat} {t : TypeId} {s x v : V} {h h' : Hp} (hs : YI tab nm h t s x = some (v,h')) :
 ∃ u : List (Nat × Option B),h' = Q1 h u ∧ (∀ n ∈ Zw u,n ∈ ZcD s ∨ n ∈ [nm]) ∧ ∀ h2 : Hp,(∀ n,n ∈ Zc x ∨ n ∈ ZcD s → h2 n = h n) → YI tab nm h2 t s x = some (v,Q1 h2 u):=by
 unfold YI at hs
 rw [Option.bind_eq_some_iff] at hs
 obtain ⟨ε,hε,hs⟩:=hs
 split at hs
 case isFalse=>cases hs
 next hby=>
 split at hs
 · next src hsrc=>
   have hsrc2 : ∀ h2 : Hp,(∀ n,n ∈ Zc x ∨ n ∈ ZcD s → h2 n = h n) → Q9 h2 ε.size x = some src:=fun h2 he=>by rw [Zek _ fun n hn=>he n (.inl hn)];exact hsrc
   split at hs
   · split at hs
     case isFalse=>cases hs
     next hc=>
     simp only [Option.some.injEq,Prod.mk.injEq] at hs
     obtain ⟨rfl,rfl⟩:=hs
     refine ⟨[(nm,_)],rfl,by simp [Zw],fun h2 he=>?_⟩
     unfold YI;rw [hε,Option.bind_some,if_pos hby,hsrc2 h2 he];dsimp only;rw [if_pos hc];rfl
   · split at hs
     case isFalse=>cases hs
     next hc=>
     simp only [Option.some.injEq,Prod.mk.injEq] at hs
     obtain ⟨rfl,rfl⟩:=hs
     refine ⟨[(nm,_)],rfl,by simp [Zw],fun h2 he=>?_⟩
     unfold YI;rw [hε,Option.bind_some,if_pos hby,hsrc2 h2 he];dsimp only;rw [if_pos hc];rfl
   · next n sz len=>
     rw [Option.bind_eq_some_iff] at hs
     obtain ⟨r,hr,hs⟩:=hs
     split at hs
     case isFalse=>cases hs
     next hc=>
     simp only [Option.some.injEq,Prod.mk.injEq] at hs
     obtain ⟨rfl,rfl⟩:=hs
     refine ⟨[(n,none),(nm,_)],rfl,by simp [Zw,ZcD],fun h2 he=>?_⟩
     unfold YI;rw [hε,Option.bind_some,if_pos hby,hsrc2 h2 he];dsimp only
     rw [Zax (he n (.inr (by simp [ZcD]))),hr,Option.bind_some,if_pos hc];rfl
   · next n sz off len=>
     rw [Option.bind_eq_some_iff] at hs
     obtain ⟨r,hr,hs⟩:=hs
     split at hs
     case isFalse=>cases hs
     next hc=>
     simp only [Option.some.injEq,Prod.mk.injEq] at hs
     obtain ⟨rfl,rfl⟩:=hs
     refine ⟨[(n,none),(nm,_)],rfl,by simp [Zw,ZcD],fun h2 he=>?_⟩
     unfold YI;rw [hε,Option.bind_some,if_pos hby,hsrc2 h2 he];dsimp only
     rw [Zax (he n (.inr (by simp [ZcD]))),hr,Option.bind_some,if_pos hc];rfl
   · cases hs
 · next hd=>
   rw [Option.bind_eq_some_iff] at hs
   obtain ⟨src,hsrc,hs⟩:=hs
   split at hs
   case isFalse=>cases hs
   next hall=>
   have hd2 : ∀ h2 : Hp,(∀ n,n ∈ Zc x ∨ n ∈ ZcD s → h2 n = h n) → Q9 h2 ε.size x = none:=fun h2 he=>by rw [Zek _ fun n hn=>he n (.inl hn)];exact hd
   have hsrc2 : ∀ h2 : Hp,(∀ n,n ∈ Zc x ∨ n ∈ ZcD s → h2 n = h n) → YO h2 x = some src:=fun h2 he=>by rw [ZeH fun n hn=>he n (.inl hn)];exact hsrc
   split at hs
   · split at hs
     case isFalse=>cases hs
     next hc=>
     simp only [Option.some.injEq,Prod.mk.injEq] at hs
     obtain ⟨rfl,rfl⟩:=hs
     refine ⟨[(nm,_)],rfl,by simp [Zw],fun h2 he=>?_⟩
     unfold YI;rw [hε,Option.bind_some,if_pos hby,hd2 h2 he];dsimp only;rw [hsrc2 h2 he,Option.bind_some,if_pos hall,if_pos hc];rfl
   · next n sz off len=>
     rw [Option.bind_eq_some_iff] at hs
     obtain ⟨r,hr,hs⟩:=hs
     split at hs
     case isFalse=>cases hs
     next hc=>
     simp only [Option.some.injEq,Prod.mk.injEq] at hs
     obtain ⟨rfl,rfl⟩:=hs
     refine ⟨[(n,none),(nm,_)],rfl,by simp [Zw,ZcD],fun h2 he=>?_⟩
     unfold YI;rw [hε,Option.bind_some,if_pos hby,hd2 h2 he];dsimp only;rw [hsrc2 h2 he,Option.bind_some,if_pos hall]
     rw [Zc3 (he n (.inr (by simp [ZcD]))),hr,Option.bind_some,if_pos hc];rfl
   · cases hs
theorem ZpW {nm : Nat} {e : Operand → V} {h h' : Hp} {op : Op} {v : V} (hs : sop tab nm e h op = some (v,h')) (hx : (YS nm e op).x = false) :
 ∃ u : List (Nat × Option B),h' = Q1 h u ∧ (∀ n ∈ Zw u,n ∈ (YS nm e op).hw ∨ n ∈ (YS nm e op).nw) ∧
  ∀ h2 : Hp,(∀ n,n ∈ (YS nm e op).hr ∨ n ∈ (YS nm e op).hw → h2 n = h n) → sop tab nm e h2 op = some (v,Q1 h2 u):=by
 have still : ∀ o : Option V,(∀ h2,sop tab nm e h2 op = o.map fun v=>(v,h2)) → ∃ u : List (Nat × Option B),h' = Q1 h u ∧ (∀ n ∈ Zw u,n ∈ (YS nm e op).hw ∨ n ∈ (YS nm e op).nw) ∧
  ∀ h2 : Hp,(∀ n,n ∈ (YS nm e op).hr ∨ n ∈ (YS nm e op).hw → h2 n = h n) → sop tab nm e h2 op = some (v,Q1 h2 u):=by
  intro o ho
  rw [ho,Option.map_eq_some_iff] at hs
  obtain ⟨u,rfl,he⟩:=hs
  simp only [Prod.mk.injEq] at he
  obtain ⟨rfl,rfl⟩:=he
  exact ⟨[],rfl,by simp [Zw],fun h2 _=>by rw [ho];rfl⟩
 cases op with
 | move x=>exact still (some (e x)) fun _=>rfl
 | assign x=>exact still (some (e x)) fun _=>rfl
 | alloc t=>
  rw [ZbZ,Option.map_eq_some_iff] at hs
  obtain ⟨τ,hτ,he⟩:=hs
  simp only [Prod.mk.injEq] at he
  obtain ⟨rfl,rfl⟩:=he
  exact ⟨[(nm,_)],rfl,by simp [Zw,YS],fun h2 _=>by rw [ZbZ,hτ];rfl⟩
 | box t x=>
  rw [ZcO,Option.map_eq_some_iff] at hs
  obtain ⟨xs,hxs,he⟩:=hs
  simp only [Prod.mk.injEq] at he
  obtain ⟨rfl,rfl⟩:=he
  exact ⟨[(nm,_)],rfl,by simp [Zw,YS],fun h2 _=>by rw [ZcO,hxs];rfl⟩
 | build t ps=>exact still _ fun _=>rfl
 | buildSlice t len ps=>
  rw [ZW] at hs
  unfold Yh at hs
  rw [Option.bind_eq_some_iff] at hs
  obtain ⟨ε,hε,hs⟩:=hs
  split at hs
  · next hc=>
    rw [Option.bind_eq_some_iff] at hs
    obtain ⟨cs,hcs,he⟩:=hs
    split at he
    · next ds hds=>
      simp only [Option.some.injEq,Prod.mk.injEq] at he
      obtain ⟨rfl,rfl⟩:=he
      refine ⟨[],rfl,by simp [Zw],fun h2 _=>?_⟩
      rw [ZW];unfold Yh;rw [hε,Option.bind_some,if_pos hc,hcs,Option.bind_some,hds];rfl
    · next hds=>
      simp only [Option.some.injEq,Prod.mk.injEq] at he
      obtain ⟨rfl,rfl⟩:=he
      refine ⟨[(nm,_)],rfl,by simp [Zw,YS],fun h2 _=>?_⟩
      rw [ZW];unfold Yh;rw [hε,Option.bind_some,if_pos hc,hcs,Option.bind_some,hds];rfl
  · cases hs
 | load t a=>
  rw [Zbh,Option.map_eq_some_iff] at hs
  obtain ⟨u,hu,he⟩:=hs
  simp only [Prod.mk.injEq] at he
  obtain ⟨rfl,rfl⟩:=he
  exact ⟨[],rfl,by simp [Zw],fun h2 h2e=>by rw [Zbh,ZhB (fun n hn=>h2e n (.inl hn)),hu];rfl⟩
 | store t a x=>
  rw [Zae,Option.map_eq_some_iff] at hs
  obtain ⟨h3,hu,he⟩:=hs
  simp only [Prod.mk.injEq] at he
  obtain ⟨rfl,rfl⟩:=he
  obtain ⟨n,b,hn,rfl,hall⟩:=Zkm hu
  refine ⟨[(n,some b)],rfl,fun m hm=>?_,fun h2 h2e=>?_⟩
  · simp only [Zw,List.map_cons,List.map_nil,List.mem_singleton] at hm
    left;show m ∈ Zc (e a);rw [hn,hm];simp
  · rw [Zae,hall h2 (h2e n (.inr (by show n ∈ Zc (e a);rw [hn];simp)))];rfl
 | nilCheck x=>
  refine still ((Zad (e x) h).map Prod.fst) fun h2=>?_
  rw [Qg];unfold Zad;split <;> rfl
 | binOp op t x y t'=>
  refine still ((Zbv tab op t y (e x) (e y) h).map Prod.fst) fun h2=>?_
  rw [ZaZ];unfold Zbv;split <;> simp [Function.comp_def]
 | unOp op t x=>exact still _ fun _=>rfl
 | convert s d x=>
  refine still (if (tab s).isSome = true then ZhY tab d (e x) else none) fun h2=>?_
  rw [QG];split <;> rfl
 | makeInterface t x=>
  refine still ((Zfh tab t (e x) h).map Prod.fst) fun h2=>?_
  rw [Z2];unfold Zfh;split <;> rfl
 | makeFunc f a c=>exact still (some _) fun _=>rfl
 | slice t x l hi m=>exact still _ fun _=>rfl
 | fieldAddr s x f=>exact still _ fun _=>rfl
 | field s x f=>exact still _ fun _=>rfl
 | indexAddr t x i=>exact still _ fun _=>rfl
 | index t x i=>exact still _ fun _=>rfl
 | extract x i=>
  refine still ((Zbi (e x) i h).map Prod.fst) fun h2=>?_
  rw [QH];unfold Zbi;split <;> simp [Function.comp_def]
 | call c=>
  obtain ⟨callee,args,tys⟩:=c
  rw [Qt] at hs
  unfold Zdg at hs
  dsimp only at hs
  split at hs
  · split at hs
    · next x t hx ht'=>
      have hd : (YS nm e (.call ⟨.builtin .len,args,tys⟩)).hr = Zc (e x):=by simp [YS,hx]
      rw [Option.map_eq_some_iff] at hs
      obtain ⟨n,hn,he⟩:=hs
      simp only [Prod.mk.injEq] at he
      obtain ⟨rfl,rfl⟩:=he
      refine ⟨[],rfl,by simp [Zw],fun h2 h2e=>?_⟩
      rw [Qt];unfold Zdg;dsimp only;rw [hx,ht']
      dsimp only
      have : ((tab t).bind fun τ=>Znz h2 τ.kind (e x)) = (tab t).bind fun τ=>Znz h τ.kind (e x):=by
       congr 1;funext τ;exact ZjJ fun n hn=>h2e n (.inl (by rw [hd];exact hn))
      rw [this,hn];rfl
    · cases hs
  · split at hs
    · next s x t t' hxx ht'=>
      have hd : YS nm e (.call ⟨.builtin .append,args,tys⟩) = ⟨Zc (e x),ZcD (e s),[nm],false⟩:=by simp [YS,hxx]
      rw [hd]
      split at hs
      case isFalse=>cases hs
      next hsl=>
      obtain ⟨u,h1,h2,h3⟩:=Zh1 hs
      refine ⟨u,h1,h2,fun h4 he=>?_⟩
      rw [Qt];unfold Zdg;dsimp only;rw [hxx,ht'];dsimp only;rw [if_pos hsl,h3 h4 he]
    · cases hs
  · split at hs
    · next x y hxx=>
      rw [Option.map_eq_some_iff] at hs
      obtain ⟨n,hn,he⟩:=hs
      simp only [Prod.mk.injEq] at he
      obtain ⟨rfl,rfl⟩:=he
      refine ⟨[],rfl,by simp [Zw],fun h2 _=>?_⟩
      rw [Qt];unfold Zdg;dsimp only;rw [hxx];dsimp only;rw [hn];rfl
    · cases hs
  · split at hs
    · next x y hxx=>
      rw [Option.map_eq_some_iff] at hs
      obtain ⟨n,hn,he⟩:=hs
      simp only [Prod.mk.injEq] at he
      obtain ⟨rfl,rfl⟩:=he
      refine ⟨[],rfl,by simp [Zw],fun h2 _=>?_⟩
      rw [Qt];unfold Zdg;dsimp only;rw [hxx];dsimp only;rw [hn];rfl
    · cases hs
  · cases hs
 | _=>exact absurd hs (by intro hs;cases hs)
theorem Zp3 {nm : Nat} {e : Operand → V} {h h' : Hp} {op : Op} {v : V} (hs : sop tab nm e h op = some (v,h')) (hx : (YS nm e op).x = false) : ∃ u,h' = Q1 h u ∧ DOp P tab nm op e (YS nm e op) h v u:=by
 obtain ⟨u,h1,h2,h3⟩:=ZpW hs hx
 refine ⟨u,h1,.inl ?_⟩
 unfold ZoM
 split
 · cases hs
 · cases hs
 · exact ⟨rfl,hx,h2,h3⟩
end
set_option linter.unusedVariables false
set_option linter.unusedSimpArgs false
section
variable {P : Program} {tab : Tab}
def ZpL : Operand → Option Nat
 | .tmp i=>some i
 | _=>none
def ZdI (op : Op) : List Nat:=op.operands.toList.filterMap ZpL
theorem ZlT {t t2 : Nat → V} {x : Operand} (h : ∀ i,ZpL x = some i → t2 i = t i) : evS t2 x = evS t x:=by
 cases x with
 | tmp i=>exact h i rfl
 | _=>rfl
theorem ZlE {t t2 : Nat → V} {op : Op} (h : ∀ i ∈ ZdI op,t2 i = t i) : ∀ x ∈ op.operands.toList,evS t2 x = evS t x:=by
 intro x hx
 exact ZlT fun i hi=>h i (List.mem_filterMap.2 ⟨x,hx,hi⟩)
theorem Zlc {e e2 : Operand → V} {l : List Operand} (h : ∀ x ∈ l,e2 x = e x) : l.map e2 = l.map e:=List.map_congr_left h
theorem Znb {e e2 : Operand → V} {l : List (Nat × Operand)} (h : ∀ x ∈ l.map (·.2),e2 x = e x) : (l.map fun p=>(p.1,e2 p.2)) = l.map fun p=>(p.1,e p.2):=
 List.map_congr_left fun p hp=>by rw [h p.2 (List.mem_map_of_mem hp)]
theorem ZlL {nm : Nat} {e e2 : Operand → V} {h : Hp} {op : Op} (he : ∀ x ∈ op.operands.toList,e2 x = e x) : sop tab nm e2 h op = sop tab nm e h op ∧ YS nm e2 op = YS nm e op:=by
 cases op with
 | move x=>have:=he x (by simp [Op.operands]);exact ⟨by rw [Zf0,Zf0,this],rfl⟩
 | assign x=>have:=he x (by simp [Op.operands]);exact ⟨by rw [ZcP,ZcP,this],rfl⟩
 | alloc t=>exact ⟨rfl,rfl⟩
 | box t x=>have:=he x (by simp [Op.operands]);exact ⟨by rw [ZcO,ZcO,this],rfl⟩
 | build t ps=>exact ⟨by rw [Zb1,Zb1,Znb (by simpa [Op.operands] using he)],rfl⟩
 | buildSlice t n ps=>exact ⟨by rw [ZW,ZW,Znb (by simpa [Op.operands] using he)],rfl⟩
 | load t a=>have:=he a (by simp [Op.operands]);exact ⟨by rw [Zbh,Zbh,this],by simp only [YS,this]⟩
 | store t a x=>
  have h1:=he a (by simp [Op.operands])
  have h2:=he x (by simp [Op.operands])
  exact ⟨by rw [Zae,Zae,h1,h2],by simp only [YS,h1]⟩
 | nilCheck x=>have:=he x (by simp [Op.operands]);exact ⟨by rw [Qg,Qg,this],rfl⟩
 | binOp op t x y t'=>
  have h1:=he x (by simp [Op.operands])
  have h2:=he y (by simp [Op.operands])
  exact ⟨by rw [ZaZ,ZaZ,h1,h2],rfl⟩
 | unOp op t x=>have:=he x (by simp [Op.operands]);exact ⟨by rw [Zdk,Zdk,this],rfl⟩
 | convert s d x=>have:=he x (by simp [Op.operands]);exact ⟨by rw [QG,QG,this],rfl⟩
 | makeInterface t x=>have:=he x (by simp [Op.operands]);exact ⟨by rw [Z2,Z2,this],rfl⟩
 | makeFunc f a c=>exact ⟨by rw [ZaT,ZaT,Zlc (fun x hx=>he x (by simp only [Op.operands,Array.toList_append,List.mem_append];exact .inl hx)),Zlc (fun x hx=>he x (by simp only [Op.operands,Array.toList_append,List.mem_append];exact .inr hx))],rfl⟩
 | slice t x l hi m=>
  have h1:=he x (by simp [Op.operands])
  have h2 : l.map e2 = l.map e:=by cases l with | none=>rfl | some y=>simp [he y (by simp [Op.operands])]
  have h3 : hi.map e2 = hi.map e:=by cases hi with | none=>rfl | some y=>simp [he y (by simp [Op.operands])]
  have h4 : m.map e2 = m.map e:=by cases m with | none=>rfl | some y=>simp [he y (by simp [Op.operands])]
  exact ⟨by rw [Zcp,Zcp,h1,h2,h3,h4],rfl⟩
 | fieldAddr s x f=>have:=he x (by simp [Op.operands]);exact ⟨by rw [Qu,Qu,this],rfl⟩
 | field s x f=>have:=he x (by simp [Op.operands]);exact ⟨by rw [Zce,Zce,this],rfl⟩
 | indexAddr t x i=>
  have h1:=he x (by simp [Op.operands])
  have h2:=he i (by simp [Op.operands])
  exact ⟨by rw [Qs,Qs,h1,h2],rfl⟩
 | index t x i=>
  have h1:=he x (by simp [Op.operands])
  have h2:=he i (by simp [Op.operands])
  exact ⟨by rw [Zch,Zch,h1,h2],rfl⟩
 | extract x i=>have:=he x (by simp [Op.operands]);exact ⟨by rw [QH,QH,this],rfl⟩
 | call c=>
  obtain ⟨callee,args,tys⟩:=c
  have ha : ∀ x ∈ args.toList,e2 x = e x:=fun x hx=>he x (by simp only [Op.operands,Call.operands,Array.toList_append,List.mem_append];exact .inr hx)
  rw [Qt,Qt]
  cases callee with
  | builtin bi=>
   generalize hl : args.toList = l at ha
   refine ⟨?_,?_⟩
   · unfold Zdg
     dsimp only
     rw [hl]
     generalize tys.toList = ts
     cases bi <;> (try rfl)
     all_goals
      match l,ha with
      | [],_=>rfl
      | [x],ha=>
       have h1:=ha x (by simp)
       rcases ts with _ | ⟨t,_ | ⟨t',_ | ⟨t'',ts⟩⟩⟩ <;> simp only [h1]
      | [x,y],ha=>
       have h1:=ha x (by simp)
       have h2:=ha y (by simp)
       rcases ts with _ | ⟨t,_ | ⟨t',_ | ⟨t'',ts⟩⟩⟩ <;> simp only [h1,h2]
      | x :: y :: z :: l,_=>rfl
   · cases bi <;> (try rfl)
     all_goals
      simp only [YS,hl]
      match l,ha with
      | [],_=>rfl
      | [x],ha=>simp only [ha x (by simp)]
      | [x,y],ha=>simp only [ha x (by simp),ha y (by simp)]
      | x :: y :: z :: l,_=>rfl
  | value f=>exact ⟨rfl,rfl⟩
  | invoke r m=>exact ⟨rfl,rfl⟩
 | _=>exact ⟨rfl,rfl⟩
theorem ZiR {nm : Nat} {e e2 : Operand → V} {h : Hp} {op : Op} {d : Dyn} {v : V} {u : List (Nat × Option B)} (he : ∀ x ∈ op.operands.toList,e2 x = e x) (hd : DOp P tab nm op e d h v u) : DOp P tab nm op e2 d h v u:=by
 rcases hd with hd | ⟨hx,hl⟩
 case inr=>exact .inr ⟨hx,hl.names,hl.news,fun h2 hh M hf hb=>(hl.run h2 hh M hf (fun x hx=>by rw [← he x hx];exact hb x hx)).ev he⟩
 refine .inl ?_
 unfold ZoM at hd ⊢
 split at hd
 · next c x y=>
   obtain ⟨⟨z,h1,h2⟩,h3⟩:=hd
   refine ⟨⟨z,by rw [he c (by simp [Op.operands])];exact h1,?_⟩,h3⟩
   rw [he x (by simp [Op.operands]),he y (by simp [Op.operands])];exact h2
 · next f args tys=>
   obtain ⟨g,first,cap,h1,hx,h2⟩:=hd
   refine ⟨g,first,cap,by rw [he f (by simp [Op.operands,Call.operands])];exact h1,hx,?_⟩
   rw [Zlc (e:=e) fun x hx=>he x (by simp only [Op.operands,Call.operands,Array.toList_append,List.mem_append];exact .inr hx)];exact h2
 · obtain ⟨h1,h2,h3,h4⟩:=hd
   exact ⟨by rw [h1,(ZlL (tab:=tab) (nm:=nm) (h:=fun _=>none) he).2],h2,h3,fun h2 hh=>by rw [(ZlL he).1];exact h4 h2 hh⟩
theorem Zma {nm : Nat} {e : Operand → V} {h : Hp} {op : Op} {d : Dyn} {v : V} {u : List (Nat × Option B)} (hd : DOp P tab nm op e d h v u) :
 d.x = false ∧ (∀ n ∈ Zw u,n ∈ d.hw ∨ n ∈ d.nw) ∧ ∀ h2 : Hp,(∀ n,n ∈ d.hr ∨ n ∈ d.hw → h2 n = h n) → DOp P tab nm op e d h2 v u:=by
 rcases hd with hd | ⟨hx,hl⟩
 case inr=>exact ⟨hx,hl.names,fun h3 he=>.inr ⟨hx,hl.names,hl.news,fun h4 he4=>hl.run h4 fun n hn=>(he4 n hn).trans (he n hn)⟩⟩
 unfold ZoM at hd
 split at hd
 · next c x y=>
   obtain ⟨h1,rfl,rfl⟩:=hd
   exact ⟨rfl,by simp [Zw],fun h3 _=>.inl ⟨h1,rfl,rfl⟩⟩
 · next f args tys=>
   obtain ⟨g,first,cap,h1,hx,h2⟩:=hd
   exact ⟨hx,h2.names,fun h3 he=>.inl ⟨g,first,cap,h1,hx,h2.names,h2.news,fun h4 he4=>h2.run h4 fun n hn=>(he4 n hn).trans (he n hn)⟩⟩
 · next hne1 hne2=>
   obtain ⟨h1,h2,h3,h4⟩:=hd
   refine ⟨h2,h3,fun h5 he=>.inl ?_⟩
   unfold ZoM
   split
   · next c x y=>exact absurd rfl (hne1 c x y)
   · next f args tys=>exact absurd rfl (hne2 f args tys)
   · exact ⟨h1,h2,h3,fun h6 he6=>h4 h6 fun n hn=>(he6 n hn).trans (he n hn)⟩
def ZjD (ops : Array Oper) (o : Oper) : List Nat:=
 match o.guard with
 | some (j,_)=>((ops[j]?).bind (·.dst)).toList
 | none=>[]
def Zk2 : V → Option (Option Bool)
 | .c (.bool x)=>some (some x)
 | .c (.tuple _)=>some none
 | _=>none
def QK (ops : Array Oper) (o : Oper) (t : Nat → V) : Option Bool:=
 match o.guard with
 | none=>some true
 | some (j,want)=>((ops[j]?).bind (·.dst)).bind fun d=>(Zk2 (t d)).map (· == some want)
def putT (dst : Option Nat) (v : V) (t : Nat → V) : Nat → V:=
 match dst with
 | none=>t
 | some d=>upd t d v
def DStep (P : Program) (tab : Tab) (ops : Array Oper) (n b i : Nat) (d : Dyn) (t : Nat → V) (h : Hp) (t' : Nat → V) (h' : Hp) : Prop:=
 ∃ o,ops[i]? = some o ∧ (∀ d',o.dst = some d' → d' < n) ∧
  ((QK ops o t = some true ∧ ∃ v u,DOp P tab (b + 64 * i) o.op (evS t) d h v u ∧ h' = Q1 h u ∧ t' = putT o.dst v t) ∨
   (QK ops o t = some false ∧ h' = h ∧ t' = putT o.dst V.no t))
def dis (a b : List Nat) : Bool:=a.all fun x=>!b.contains x
theorem Zc0 {a b : List Nat} (h : dis a b = true) {x : Nat} (hx : x ∈ a) (hy : x ∈ b) : False:=by
 have:=List.all_eq_true.1 h x hx
 simp at this;exact this hy
def Zrl (ops : Array Oper) (i : Nat) (di : Dyn) (j : Nat) (dj : Dyn) : Bool:=
 match ops[i]?,ops[j]? with
 | some o,some p=>
  let ri:=ZdI o.op ++ ZjD ops o
  let rj:=ZdI p.op ++ ZjD ops p
  let ui:=di.hw ++ di.nw
  let uj:=dj.hw ++ dj.nw
  dis o.dst.toList rj && dis p.dst.toList ri && dis o.dst.toList p.dst.toList && dis ui (dj.hr ++ dj.hw ++ uj) && dis uj (di.hr ++ di.hw)
 | _,_=>false
theorem Zfb {dst : Option Nat} {v : V} {t : Nat → V} {i : Nat} (h : ¬ i ∈ dst.toList) : putT dst v t i = t i:=by
 cases dst with
 | none=>rfl
 | some d=>exact Zi _ _ _ _ (by simpa using h)
theorem Zci {d e : Option Nat} {v u : V} {t : Nat → V} (h : dis d.toList e.toList = true) : putT d v (putT e u t) = putT e u (putT d v t):=by
 cases d with
 | none=>rfl
 | some d=>cases e with
  | none=>rfl
  | some e=>exact Zpb _ (fun x=>Zc0 h (x:=d) (by simp) (by simp [x])) _ _
theorem Zdd {ops : Array Oper} {o : Oper} {t t2 : Nat → V} (h : ∀ i ∈ ZjD ops o,t2 i = t i) : QK ops o t2 = QK ops o t:=by
 unfold QK
 unfold ZjD at h
 split
 · rfl
 · next j want hg=>
   rw [hg] at h
   dsimp only at h
   cases hd : (ops[j]?).bind (·.dst) with
   | none=>rfl
   | some d=>rw [hd] at h;simp [h d (by simp)]
theorem DStep.swap {ops : Array Oper} {n b i j : Nat} {di dj : Dyn} {t t1 t2 : Nat → V} {h h1 h2 : Hp} (hin : Zrl ops i di j dj = true) (s1 : DStep P tab ops n b i di t h t1 h1) (s2 : DStep P tab ops n b j dj t1 h1 t2 h2) :
 ∃ t1' h1',DStep P tab ops n b j dj t h t1' h1' ∧ DStep P tab ops n b i di t1' h1' t2 h2:=by
 obtain ⟨o,ho,hbo,s1⟩:=s1
 obtain ⟨p,hp,hbp,s2⟩:=s2
 unfold Zrl at hin
 rw [ho,hp] at hin
 simp only [Bool.and_eq_true] at hin
 obtain ⟨⟨⟨⟨c1,c2⟩,c3⟩,c4⟩,c5⟩:=hin
 have sj : ∀ v i',i' ∈ ZdI p.op ++ ZjD ops p → putT o.dst v t i' = t i':=fun v i' hi=>Zfb fun hx=>Zc0 c1 hx hi
 have si : ∀ v (s : Nat → V) i',i' ∈ ZdI o.op ++ ZjD ops o → putT p.dst v s i' = s i':=fun v s i' hi=>Zfb fun hx=>Zc0 c2 hx hi
 have ej : ∀ v,∀ x ∈ p.op.operands.toList,evS t x = evS (putT o.dst v t) x:=fun v=>ZlE fun i' hi=>(sj v i' (by simp [hi])).symm
 have ei : ∀ v,∀ x ∈ o.op.operands.toList,evS (putT p.dst v t) x = evS t x:=fun v=>ZlE fun i' hi=>si v t i' (by simp [hi])
 have gj : ∀ v,QK ops p t = QK ops p (putT o.dst v t):=fun v=>Zdd fun i' hi=>(sj v i' (by simp [hi])).symm
 have gi : ∀ v,QK ops o (putT p.dst v t) = QK ops o t:=fun v=>Zdd fun i' hi=>si v t i' (by simp [hi])
 rcases s1 with ⟨g1,v1,u1,d1,rfl,rfl⟩ | ⟨g1,rfl,rfl⟩
 · rcases s2 with ⟨g2,v2,u2,d2,rfl,rfl⟩ | ⟨g2,rfl,rfl⟩
   · obtain ⟨x1,n1,l1⟩:=Zma d1
     have d2':=ZiR (ej v1) d2
     obtain ⟨x2,n2,l2⟩:=Zma d2'
     have nu1 : ∀ m,m ∈ Zw u1 → m ∈ di.hw ++ di.nw:=fun m hm=>List.mem_append.2 (n1 m hm)
     have nu2 : ∀ m,m ∈ Zw u2 → m ∈ dj.hw ++ dj.nw:=fun m hm=>List.mem_append.2 (n2 m hm)
     have hcomm : ∀ m,m ∈ Zw u1 → m ∈ Zw u2 → False:=fun m h1 h2=>Zc0 c4 (nu1 m h1) (by simp only [List.mem_append];exact .inr (List.mem_append.1 (nu2 m h2)))
     have a2:=l2 h (fun m hm=>(Yo (fun hk=>Zc0 c4 (nu1 m hk) (by simp only [List.mem_append];rcases hm with hm | hm;exact .inl (.inl hm);exact .inl (.inr hm)))).symm)
     have a1:=l1 (Q1 h u2) (fun m hm=>Yo fun hk=>Zc0 c5 (nu2 m hk) (by simp only [List.mem_append];exact hm))
     refine ⟨putT p.dst v2 t,Q1 h u2,⟨p,hp,hbp,.inl ⟨by rw [gj v1];exact g2,v2,u2,a2,rfl,rfl⟩⟩,⟨o,ho,hbo,.inl ⟨by rw [gi v2];exact g1,v1,u1,ZiR (ei v2) a1,ZmR hcomm,(Zci c3).symm⟩⟩⟩
   · exact ⟨putT p.dst V.no t,h,⟨p,hp,hbp,.inr ⟨by rw [gj v1];exact g2,rfl,rfl⟩⟩,⟨o,ho,hbo,.inl ⟨by rw [gi V.no];exact g1,v1,u1,ZiR (ei V.no) d1,rfl,(Zci c3).symm⟩⟩⟩
 · rcases s2 with ⟨g2,v2,u2,d2,rfl,rfl⟩ | ⟨g2,rfl,rfl⟩
   · exact ⟨putT p.dst v2 t,_,⟨p,hp,hbp,.inl ⟨by rw [gj V.no];exact g2,v2,u2,ZiR (ej V.no) d2,rfl,rfl⟩⟩,⟨o,ho,hbo,.inr ⟨by rw [gi v2];exact g1,rfl,(Zci c3).symm⟩⟩⟩
   · exact ⟨putT p.dst V.no t,_,⟨p,hp,hbp,.inr ⟨by rw [gj V.no];exact g2,rfl,rfl⟩⟩,⟨o,ho,hbo,.inr ⟨by rw [gi V.no];exact g1,rfl,(Zci c3).symm⟩⟩⟩
end
set_option linter.unusedVariables false
set_option linter.unusedSimpArgs false
section
variable {σ : Type} {R : Nat → σ → σ → Prop}
inductive Chain (R : Nat → σ → σ → Prop) : List Nat → σ → σ → Prop
 | nil (s : σ) : Chain R [] s s
 | cons {i : Nat} {l : List Nat} {s s1 s2 : σ} : R i s s1 → Chain R l s1 s2 → Chain R (i :: l) s s2
def Sw (R : Nat → σ → σ → Prop) (i j : Nat) : Prop:=∀ s s1 s2,R i s s1 → R j s1 s2 → ∃ s1',R j s s1' ∧ R i s1' s2
theorem Chain.front {x : Nat} {q : List Nat} : ∀ (p : List Nat) (s s' : σ),Chain R (p ++ x :: q) s s' → (∀ y ∈ p,Sw R y x) → Chain R (x :: (p ++ q)) s s':=by
 intro p
 induction p with
 | nil=>intro s s' h _;exact h
 | cons y p ih=>
  intro s s' h hs
  cases h with
  | cons h1 h2=>
   have:=ih _ _ h2 (fun z hz=>hs z (by simp [hz]))
   cases this with
   | cons g1 g2=>
    obtain ⟨s1',k1,k2⟩:=hs y (by simp) _ _ _ h1 g1
    exact .cons k1 (.cons k2 g2)
theorem Chain.perm : ∀ (l' l : List Nat) (s s' : σ),l'.Perm l → l.Nodup → (∀ i j,[i,j].Sublist l → [j,i].Sublist l' → Sw R i j) → Chain R l s s' → Chain R l' s s':=by
 intro l'
 induction l' with
 | nil=>intro l s s' hp _ _ h;have:=hp.symm.eq_nil;subst this;exact h
 | cons x l'' ih=>
  intro l s s' hp hnd hsw h
  have hx : x ∈ l:=hp.subset (by simp)
  obtain ⟨p,q,rfl⟩:=List.append_of_mem hx
  have hp2 : l''.Perm (p ++ q):=(hp.trans List.perm_middle).cons_inv
  have hnd2 : (x :: (p ++ q)).Nodup:=(List.perm_middle.nodup_iff).1 hnd
  have hfront:=Chain.front p s s' h (fun y hy=>hsw y x
   ((List.singleton_sublist.2 hy).append (List.singleton_sublist.2 (by simp)))
   (List.Sublist.cons_cons x (List.singleton_sublist.2 (hp2.symm.subset (by simp [hy])))))
  cases hfront with
  | cons g1 g2=>
   refine .cons g1 (ih _ _ _ hp2 (List.nodup_cons.1 hnd2).2 (fun i j h1 h2=>hsw i j (h1.trans ?_) (h2.cons x)) g2)
   exact List.Sublist.append (List.Sublist.refl p) (List.sublist_cons_self x q)
end
def ZaL (e : Edge) : Bool:=Region.binds .any e
structure Topo (ops : Array Oper) (l : List Nat) : Prop where
 lt : ∀ i ∈ l,i < ops.size
 nodup : l.Nodup
 dep : ∀ (pre : List Nat) (x : Nat) (post : List Nat) (o : Oper),l = pre ++ x :: post → ops[x]? = some o → ∀ e ∈ o.after.toList,ZaL e = true → e.on ∈ pre
inductive Bef (ops : Array Oper) : Nat → Nat → Prop
 | edge {j : Nat} {o : Oper} {e : Edge} (ho : ops[j]? = some o) (he : e ∈ o.after.toList) (hb : ZaL e = true) : Bef ops e.on j
 | trans {i j : Nat} {o : Oper} {e : Edge} (ho : ops[j]? = some o) (he : e ∈ o.after.toList) (hb : ZaL e = true) (h : Bef ops i e.on) : Bef ops i j
theorem Topo.bef {ops : Array Oper} {l : List Nat} (ht : Topo ops l) {i j : Nat} (h : Bef ops i j) : ∀ (pre post : List Nat),l = pre ++ j :: post → i ∈ pre:=by
 induction h with
 | edge ho he hb=>intro pre post hl;exact ht.dep pre _ post _ hl ho _ he hb
 | @trans i j o e ho he hb h ih=>
  intro pre post hl
  have hm:=ht.dep pre _ post _ hl ho _ he hb
  obtain ⟨p1,p2,rfl⟩:=List.append_of_mem hm
  exact List.mem_append_left _ (ih p1 (p2 ++ j :: post) (by rw [hl];simp))
theorem Topo.notBefore {ops : Array Oper} {l : List Nat} (ht : Topo ops l) {i j : Nat} (h : Bef ops i j) (hs : [j,i].Sublist l) : False:=by
 have hj : j ∈ l:=hs.subset (by simp)
 obtain ⟨pre,post,hl⟩:=List.append_of_mem hj
 have hi:=ht.bef h pre post hl
 have hnd:=ht.nodup
 rw [hl] at hs hnd
 have hcount : (pre ++ j :: post).count i ≤ 1:=List.nodup_iff_count.1 hnd i
 have hjp : j ∉ pre:=fun hx=>by
  have:=List.nodup_append.1 hnd
  exact this.2.2 j hx j (by simp) rfl
 have hs2 : [j,i].Sublist (j :: post):=by
  clear hl hi hcount hnd hj
  induction pre with
  | nil=>exact hs
  | cons a pre ih=>
   have : j ≠ a:=fun e=>hjp (by simp [e])
   cases hs with
   | cons _ h=>exact ih h (fun hx=>hjp (by simp [hx]))
   | cons_cons=>exact absurd rfl this
 have hip : i ∈ post:=by
  cases hs2 with
  | cons _ h=>exact h.subset (by simp)
  | cons_cons _ h=>exact List.singleton_sublist.1 h
 exact (List.nodup_append.1 hnd).2.2 i hi i (by simp [hip]) rfl
theorem Zhq : ∀ (l m : List Nat),l.Nodup → (∀ x ∈ l,x ∈ m) → l.length ≤ m.length:=by
 intro l
 induction l with
 | nil=>intro m _ _;exact Nat.zero_le _
 | cons x l ih=>
  intro m hn hs
  have hx:=hs x (by simp)
  have h1:=ih (m.erase x) (List.nodup_cons.1 hn).2 fun y hy=>(List.mem_erase_of_ne (show y ≠ x from fun e=>(List.nodup_cons.1 hn).1 (by rw [← e];exact hy))).2 (hs y (by simp [hy]))
  rw [List.length_erase_of_mem hx] at h1
  have:=List.length_pos_of_mem hx
  simp;omega
def Zcr (ops : Array Oper) : Bool:=
 (List.range ops.size).all fun j=>match ops[j]? with
  | some o=>o.after.toList.all fun e=>!ZaL e || decide (e.on < j)
  | none=>true
theorem ZfC {ops : Array Oper} (h : Zcr ops = true) {j : Nat} {o : Oper} (ho : ops[j]? = some o) {e : Edge} (he : e ∈ o.after.toList) (hb : ZaL e = true) : e.on < j:=by
 have hj : j < ops.size:=(Array.getElem?_eq_some_iff.1 ho).1
 have:=List.all_eq_true.1 h j (List.mem_range.2 hj)
 simp only [ho] at this
 have:=List.all_eq_true.1 this e he
 simpa [hb] using this
theorem ZgE {ops : Array Oper} (hd : Zcr ops = true) : ∀ (fuel t : Nat) (listed : Array Bool) (acc : List Nat),listed.size = ops.size → (∀ i,listed.getD i false = true ↔ i ∈ acc) → Topo ops acc.reverse → fuel + acc.length = ops.size →
 Topo ops (Region.linearise.go .any ops fuel t listed acc) ∧ (Region.linearise.go .any ops fuel t listed acc).length = ops.size:=by
 intro fuel
 induction fuel with
 | zero=>
  intro t listed acc hs hl ht hf
  rw [Region.linearise.go]
  exact ⟨ht,by simpa using hf⟩
 | succ fuel ih=>
  intro t listed acc hs hl ht hf
  rw [Region.linearise.go]
  generalize hrs : ((List.range ops.size).filter fun i=>!listed.getD i true && ((ops[i]?).map (·.after.all fun e=>!Region.binds .any e || listed.getD e.on false)).getD false) = rs
  have hmem : ∀ x,x ∈ rs ↔ x < ops.size ∧ x ∉ acc ∧ ∃ o,ops[x]? = some o ∧ ∀ e ∈ o.after.toList,ZaL e = true → e.on ∈ acc:=by
   intro x
   rw [← hrs,List.mem_filter,List.mem_range]
   constructor
   · rintro ⟨h1,h2⟩
     simp only [Bool.and_eq_true] at h2
     have ho : ops[x]? = some ops[x]:=by simp [h1]
     refine ⟨h1,?_,ops[x],ho,?_⟩
     · intro hx
       have:=(hl x).2 hx
       have h3 : listed.getD x true = true:=by
        rw [Array.getD_eq_getD_getElem?] at this ⊢
        have : x < listed.size:=by omega
        simp_all
       simp [h3] at h2
     · intro e he hb
       rw [ho] at h2
       simp only [Option.map_some,Option.getD_some] at h2
       have:=Array.all_eq_true'.1 h2.2 e (by simpa using he)
       simp only [Bool.or_eq_true,Bool.not_eq_true'] at this
       rcases this with h4 | h4
       · unfold ZaL at hb;rw [hb] at h4;cases h4
       · exact (hl _).1 h4
   · rintro ⟨h1,h2,o,ho,h3⟩
     refine ⟨h1,?_⟩
     simp only [Bool.and_eq_true,ho,Option.map_some,Option.getD_some]
     refine ⟨?_,?_⟩
     · have : ¬ listed.getD x false = true:=fun h=>h2 ((hl x).1 h)
       rw [Array.getD_eq_getD_getElem?] at this ⊢
       have hx : x < listed.size:=by omega
       simp_all
     · refine Array.all_eq_true'.2 fun e he=>?_
       simp only [Bool.or_eq_true,Bool.not_eq_true']
       by_cases hb : ZaL e = true
       · exact .inr ((hl _).2 (h3 e (by simpa using he) hb))
       · left;unfold ZaL at hb;simpa using hb
  have hne : rs ≠ []:=by
   have hex : ∃ x,x < ops.size ∧ x ∉ acc:=by
    apply Classical.byContradiction
    intro hno
    have hall : ∀ x,x < ops.size → x ∈ acc:=fun x hx=>Classical.byContradiction fun hn=>hno ⟨x,hx,hn⟩
    have:=Zhq (List.range ops.size) acc List.nodup_range fun x hx=>hall x (List.mem_range.1 hx)
    simp at this
    omega
   obtain ⟨x,⟨hx1,hx2⟩,hmin⟩:=Zos hex
   intro hnil
   have : x ∈ rs:=(hmem x).2 ⟨hx1,hx2,ops[x],by simp [hx1],fun e he hb=>by
    have hlt:=ZfC hd (j:=x) (o:=ops[x]) (by simp [hx1]) he hb
    apply Classical.byContradiction
    intro hna
    have:=hmin e.on ⟨by omega,hna⟩
    omega⟩
   rw [hnil] at this;cases this
  have hpos : 0 < rs.length:=List.length_pos_iff.2 hne
  have hget : rs[t % rs.length]? = some (rs[t % rs.length]'(Nat.mod_lt _ hpos)):=by simp [Nat.mod_lt _ hpos]
  rw [hget]
  dsimp only
  generalize hxx : rs[t % rs.length]'(Nat.mod_lt _ hpos) = x
  have hxr : x ∈ rs:=by rw [← hxx];exact List.getElem_mem _
  obtain ⟨h1,h2,o,ho,h3⟩:=(hmem x).1 hxr
  refine ih _ _ _ (by simp [hs]) (fun i=>?_) ?_ (by simp;omega)
  · rw [Array.getD_eq_getD_getElem?,Array.getElem?_setIfInBounds]
    by_cases e : x = i
    · subst e;simp [hs,h1]
    · rw [if_neg e,← Array.getD_eq_getD_getElem?,hl i];simp [Ne.symm e]
  · rw [List.reverse_cons]
    refine ⟨fun i hi=>?_,?_,?_⟩
    · simp only [List.mem_append,List.mem_singleton] at hi
      rcases hi with hi | rfl
      · exact ht.lt i hi
      · exact h1
    · rw [List.nodup_append]
      refine ⟨ht.nodup,by simp,fun a ha b hb=>?_⟩
      simp at ha hb
      subst hb
      exact fun e=>h2 (e ▸ ha)
    · intro pre y post p hl' hp e he hb
      rcases List.eq_nil_or_concat post with rfl | ⟨post',z,rfl⟩
      · have:=List.append_inj' hl' rfl
        obtain ⟨rfl,hy⟩:=this
        simp at hy
        subst hy
        rw [ho] at hp;cases hp
        simpa using h3 e he hb
      · have : acc.reverse ++ [x] = (pre ++ y :: post') ++ [z]:=by rw [hl'];simp
        have:=List.append_inj' this rfl
        exact ht.dep pre y post' p this.1 hp e he hb
theorem ZeK {ops : Array Oper} (hd : Zcr ops = true) (t : Nat) : Topo ops (Region.linearise .any ops t) ∧ (Region.linearise .any ops t).length = ops.size:=by
 unfold Region.linearise
 refine ZgE hd _ _ _ _ (by simp) (fun i=>?_) ⟨by simp,by simp,?_⟩ (by simp)
 · rw [Array.getD_eq_getD_getElem?,Array.getElem?_replicate];split <;> simp
 · intro pre x post o hl;simp at hl
theorem Topo.perm {ops : Array Oper} {l : List Nat} (ht : Topo ops l) (hl : l.length = ops.size) : l.Perm (List.range ops.size):=by
 rw [List.perm_iff_count]
 intro a
 have hm : a ∈ l ↔ a ∈ List.range ops.size:=by
  refine ⟨fun h=>List.mem_range.2 (ht.lt a h),fun h=>Classical.byContradiction fun hn=>?_⟩
  have:=Zhq (a :: l) (List.range ops.size) (List.nodup_cons.2 ⟨hn,ht.nodup⟩) (fun x hx=>by
   rcases List.mem_cons.1 hx with rfl | hx
   · exact h
   · exact List.mem_range.2 (ht.lt x hx))
  simp at this;omega
 rw [ht.nodup.count,List.nodup_range.count]
 simp only [hm]
def Zit : List Oper → List Nat → List Nat
 | [],acc=>acc
 | o :: os,acc=>Zit os (acc ++ [o.after.toList.foldl (fun m e=>if ZaL e then m ||| (acc.getD e.on 0 ||| (1 <<< e.on)) else m) 0])
def Zse (ops : Array Oper) : List Nat:=Zit ops.toList []
theorem ZoI (acc : List Nat) (i : Nat) : ∀ (l : List Edge) (m : Nat),(l.foldl (fun m e=>if ZaL e then m ||| (acc.getD e.on 0 ||| (1 <<< e.on)) else m) m).testBit i = true →
 m.testBit i = true ∨ ∃ e ∈ l,ZaL e = true ∧ ((acc.getD e.on 0).testBit i = true ∨ e.on = i):=by
 intro l
 induction l with
 | nil=>intro m h;exact .inl h
 | cons e l ih=>
  intro m h
  rw [List.foldl_cons] at h
  rcases ih _ h with h | ⟨e',he',hb,hx⟩
  · split at h
    · next hb=>
      rw [Nat.testBit_or,Nat.testBit_or,Bool.or_eq_true,Bool.or_eq_true] at h
      rcases h with h | h | h
      · exact .inl h
      · exact .inr ⟨e,by simp,hb,.inl h⟩
      · refine .inr ⟨e,by simp,hb,.inr ?_⟩
        rw [Nat.one_shiftLeft,Nat.testBit_two_pow] at h
        simpa using h
    · exact .inl h
  · exact .inr ⟨e',by simp [he'],hb,hx⟩
theorem Zge (ops : Array Oper) : ∀ (os : List Oper) (acc : List Nat),(∀ k,os[k]? = ops[acc.length + k]?) → (∀ j i,(acc.getD j 0).testBit i = true → Bef ops i j) → ∀ j i,((Zit os acc).getD j 0).testBit i = true → Bef ops i j:=by
 intro os
 induction os with
 | nil=>intro acc _ h;exact h
 | cons o os ih=>
  intro acc hos h
  refine ih _ (fun k=>by have:=hos (k + 1);rw [List.getElem?_cons_succ] at this;rw [this];congr 1;simp;omega) fun j i hji=>?_
  by_cases hj : j < acc.length
  · refine h j i ?_
    rw [List.getD_eq_getElem?_getD,List.getElem?_append_left hj,← List.getD_eq_getElem?_getD] at hji
    exact hji
  · by_cases hj2 : j = acc.length
    · subst hj2
      have ho : ops[acc.length]? = some o:=by have:=hos 0;simpa using this.symm
      rw [List.getD_eq_getElem?_getD,List.getElem?_append_right (Nat.le_refl _),Nat.sub_self] at hji
      simp only [List.getElem?_cons_zero,Option.getD_some] at hji
      rcases ZoI acc i _ _ hji with hz | ⟨e,he,hb,hx⟩
      · simp at hz
      · rcases hx with hx | rfl
        · exact .trans ho he hb (h _ _ hx)
        · exact .edge ho he hb
    · rw [List.getD_eq_getElem?_getD,List.getElem?_eq_none (by simp;omega)] at hji
      simp at hji
theorem ZhS (ops : Array Oper) {j i : Nat} (h : ((Zse ops).getD j 0).testBit i = true) : Bef ops i j:=
 Zge ops ops.toList [] (fun k=>by simp) (fun j i h=>by simp at h) j i h
def okD (ops : Array Oper) (ds : List Dyn) : Bool:=
 Zcr ops && ((List.range ops.size).all fun j=>(List.range j).all fun i=>((Zse ops).getD j 0).testBit i || Zrl ops i (ds.getD i ⟨[],[],[],true⟩) j (ds.getD j ⟨[],[],[],true⟩))
set_option linter.unusedVariables false
set_option linter.unusedSimpArgs false
section
variable {P : Program} {tab : Tab} {M0 : Nm}
theorem Zct {F : Nat → Prop} {ids : Nat → Nat × Nat} {w : World} {M : Nm} {t : Nat → V} {h : Hp} {n : Nat} {a : Act} (hr : RepT F ids w M t h n a) (ops : Array Oper) (o : Oper) {x : Bool} (hg : QK ops o t = some x) :
 Region.wanted o (yielded ops a.tmps) = x:=by
 unfold QK at hg
 unfold Region.wanted
 split at hg
 · next hgd=>rw [hgd];simpa using hg
 · next j want hgd=>
   rw [hgd]
   rw [Option.bind_eq_some_iff] at hg
   obtain ⟨d,hd,hg⟩:=hg
   rw [Option.map_eq_some_iff] at hg
   obtain ⟨y,hy,rfl⟩:=hg
   unfold Zk2 at hy
   split at hy
   · next y' hx=>
     cases hy
     have hv:=hr.tmps d
     rw [hx] at hv
     have hval : a.tmps[d]? = some (.bool y'):=by
      rw [Array.getD_eq_getD_getElem?] at hv
      cases hq : a.tmps[d]? with
      | none=>rw [hq] at hv;simp only [Option.getD_none] at hv;cases hv
      | some u=>rw [hq] at hv;simp only [Option.getD_some] at hv;cases hv;rfl
     have hyl : yielded ops a.tmps j = some y':=by unfold yielded;rw [hd];simp [hval]
     simp [hyl]
   · next q hx=>
     cases hy
     have hv:=hr.tmps d
     rw [hx] at hv
     have hval : a.tmps.getD d undef = .tuple q:=by
      generalize a.tmps.getD d undef = u at hv
      cases hv;rfl
     have hyl : yielded ops a.tmps j = none:=by
      unfold yielded
      rw [hd]
      rw [Array.getD_eq_getD_getElem?] at hval
      cases hq : a.tmps[d]? with
      | none=>simp [hq]
      | some u=>rw [hq] at hval;simp only [Option.getD_some] at hval;subst hval;simp [hq]
     simp [hyl]
   · cases hy
theorem RepT.putT {F : Nat → Prop} {ids ids' : Nat → Nat × Nat} {w w' : World} {M M' : Nm} {t : Nat → V} {h h' : Hp} {n : Nat} {a : Act} (hr : RepT F ids w M t h n a) (hc : Chg F ids w h M ids' w' h' M') {v : V} {val : Value}
 (hv : RepV (Ze F h' ids') ids' w' v val) (hb : v.Below M') {dst : Option Nat} (hd : ∀ d,dst = some d → d < n) : RepT F ids' w' M' (Abs.putT dst v t) h' n (a.put dst val):=by
 cases dst with
 | none=>exact hr.chg hc
 | some d=>exact hr.put hc hv hb (hd d rfl)
theorem Znv (ht : Zk P tab) {F : Nat → Prop} {ids : Nat → Nat × Nat} {w : World} {M : Nm} {t : Nat → V} {h : Hp} {n nm : Nat} {a : Act} (hr : RepT F ids w M t h n a) (hfresh : ∀ k,nm ≤ k → k < nm + 64 → ¬ M k) (o : Oper) {d : Dyn} {v : V} {u : List (Nat × Option B)} (hd : DOp P tab nm o.op (evS t) d h v u)
 (next : Act → World → Prop) (Q : Exit → Act → World → Prop) (hnext : ∀ ids' w' val,Chg F ids w h M ids' w' (Q1 h u) (M.call nm) → RepV (Ze F (Q1 h u) ids') ids' w' v val → v.Below (M.call nm) → next (a.put o.dst val) w') : o.wp P a w next Q:=by
 have hup : M.le (M.call nm):=fun _ x=>.inl x
 rcases hd with hd | ⟨_,hl⟩
 case inr=>
  refine hl.run h (fun _ _=>rfl) M hfresh (fun x _=>Yg hr.below x) F ids w a o rfl hr.heap (fun x _=>Yr hr x) (fun x _=>Yg hr.below x) next Q ?_
  rintro v' h' ids' w' val ⟨rfl,rfl⟩ hc hv hb
  exact hnext ids' w' val hc hv hb
 unfold ZoM at hd
 unfold Oper.wp
 split at hd
 · next c x y ho=>
   obtain ⟨⟨z,hz,rfl⟩,rfl,rfl⟩:=hd
   have hc:=Yr hr c
   rw [hz] at hc
   have hv : a.eval c = .bool z:=by cases hq : a.eval c <;> rw [hq] at hc <;> cases hc <;> rfl
   have hex : (execOp a.eval o).run P w = .ok (.value (if z = true then a.eval x else a.eval y)) w:=by
    simp only [execOp,ho,hv,asBool,Sem.run_bind,Sem.run_pure,Result.andThen_ok]
   rw [hex]
   refine hnext ids w _ (Chg.skip hr.heap hup) ?_ ?_
   · split
     · exact Yr hr x
     · exact Yr hr y
   · split
     · exact (Yg hr.below x).mono hup
     · exact (Yg hr.below y).mono hup
 · next f args tys ho=>
   obtain ⟨g,first,cap,hf,_,hl⟩:=hd
   have hfr:=Yr hr f
   have hfb:=Yg hr.below f
   rw [hf] at hfr hfb
   obtain ⟨ar,br,hfv,s1,s2,h3,h4⟩ : ∃ ar br,a.eval f = .func (.func g) ar br ∧ ar.size = first.length ∧ br.size = cap.length ∧ (∀ (i : Nat) (x : V) (v : Value),first[i]? = some x → ar[i]? = some v → RepV (Ze F h ids) ids w x v) ∧ (∀ (i : Nat) (x : V) (v : Value),cap[i]? = some x → br[i]? = some v → RepV (Ze F h ids) ids w x v):=by
    generalize a.eval f = q at hfr
    cases hfr with | fn _ _ _ ar br h1 h2 h3 h4=>exact ⟨ar,br,rfl,h1,h2,h3,h4⟩
   obtain ⟨b1,b2⟩ : (∀ x ∈ first,x.Below M) ∧ ∀ x ∈ cap,x.Below M:=by cases hfb with | fn _ _ _ b1 b2=>exact ⟨b1,b2⟩
   have hbel : ∀ x ∈ first ++ (args.toList.map (evS t) ++ cap),x.Below M:=by
    intro x hx
    simp only [List.mem_append,List.mem_map] at hx
    rcases hx with hx | ⟨y,_,rfl⟩ | hx
    · exact b1 x hx
    · exact Yg hr.below y
    · exact b2 x hx
   have hac:=hl.run h (fun _ _=>rfl) M hfresh hbel
   have hvals : ∀ (i : Nat) (x : V) (v : Value),(first ++ (args.toList.map (evS t) ++ cap))[i]? = some x → (ar ++ args.map a.eval ++ br)[i]? = some v → RepV (Ze F h ids) ids w x v:=by
    intro i x v hx hv
    rw [Array.append_assoc] at hv
    by_cases h1 : i < first.length
    · rw [List.getElem?_append_left h1] at hx
      rw [Array.getElem?_append_left (by omega)] at hv
      exact h3 i x v hx hv
    · rw [List.getElem?_append_right (by omega)] at hx
      rw [Array.getElem?_append_right (by omega),s1] at hv
      by_cases h2 : i - first.length < args.size
      · rw [List.getElem?_append_left (by simpa using h2)] at hx
        rw [Array.getElem?_append_left (by simpa using h2)] at hv
        rw [List.getElem?_map,Option.map_eq_some_iff] at hx
        obtain ⟨y,hy,rfl⟩:=hx
        rw [Array.getElem?_toList] at hy
        rw [Array.getElem?_map,hy] at hv
        cases hv
        exact Yr hr y
      · rw [List.getElem?_append_right (by simpa using h2)] at hx
        rw [Array.getElem?_append_right (by simpa using h2)] at hv
        simp only [List.length_map,Array.length_toList,Array.size_map] at hx hv
        exact h4 _ x v hx hv
   rcases hac F ids w (ar ++ args.map a.eval ++ br) hr.heap (by simp [s1,s2,Nat.add_assoc]) hvals with ⟨c1,c2⟩ | ⟨val,r,h',ids',w',c1,⟨rfl,rfl⟩,hc,hrv,hrb⟩
   case inr=>
    have hex : (execOp a.eval o).run P w = .ok (.value val) w':=by
     simp only [execOp,ho,resolve,hfv,Deferred.ofValue,Sem.run_bind,Sem.run_pure,Result.andThen_ok,invoke]
     simpa [Array.append_assoc] using c1
    rw [hex]
    exact hnext ids' w' val hc hrv hrb
   have hex : (execOp a.eval o).run P w = .ok (.enter g (ar ++ args.map a.eval ++ br)) w:=by
    simp only [execOp,ho,resolve,hfv,Deferred.ofValue,Sem.run_bind,Sem.run_pure,Result.andThen_ok,invoke]
    simpa [Array.append_assoc] using c1
   rw [hex,Oper.upon_enter]
   refine c2.mono ?_
   rintro e w' ⟨val,r,h',ids',rfl,⟨rfl,rfl⟩,hc,hrv,hrb⟩
   exact hnext ids' w' val hc hrv hrb
 · obtain ⟨_,_,_,h4⟩:=hd
   have hnm : ¬ M nm:=hfresh nm (Nat.le_refl _) (by omega)
   obtain ⟨val,w',ids',hrun,hc,hv,hbv⟩:=ZdY ht hr.heap hnm (evS t) a.eval (Yr hr) (Yg hr.below) (fun _=>rfl) o (h4 h fun _ _=>rfl)
   have hadd : (M.add nm).le (M.call nm):=by rintro k (hk | rfl);exact .inl hk;exact .inr ⟨Nat.le_refl _,by omega⟩
   have:=hnext ids' w' val (hc.trans (Chg.skip hc.heap hadd)) hv (hbv.mono hadd)
   rcases hrun with hrun | ⟨hrun,rfl⟩
   · rw [hrun];exact this
   · rw [hrun];exact this
def MD (b : Nat) (D : List Nat) : Nm:=fun k=>k < b ∨ ∃ i ∈ D,b + 64 * i ≤ k ∧ k < b + 64 * i + 64
theorem Zkt {rd : Option Nat} {dep : Nat} (ht : Zk P tab) (ops : Array Oper) (hno : ∀ o ∈ ops,∀ c,o.op ≠ .defer c) {n b : Nat} {ds : Nat → Dyn} {Q : Exit → Act → World → Prop} {F : Nat → Prop} (hb0 : M0.le (Lt b)) {ids0 : Nat → Nat × Nat} {w0 : World} {h0 : Hp} {a0 : Act} :
 ∀ (l D : List Nat) (s s' : (Nat → V) × Hp) (ids : Nat → Nat × Nat) (w : World) (a : Act),Chain (fun i s s1=>DStep P tab ops n b i (ds i) s.1 s.2 s1.1 s1.2) l s s' → l.Nodup → (∀ i ∈ l,i ∉ D) →
  RepT F ids w (MD b D) s.1 s.2 n a → KeepA M0 ids0 w0 h0 a0 ids w s.2 a →
  (∀ ids' w' a' D',(∀ i ∈ D',i ∈ D ∨ i ∈ l) → RepT F ids' w' (MD b D') s'.1 s'.2 n a' → KeepA M0 ids0 w0 h0 a0 ids' w' s'.2 a' → Q .normal a' w') → wpOpsIn (Fw rd) dep P ops Q l a w:=by
 intro l
 induction l with
 | nil=>
  intro D s s' ids w a hc _ _ hr hk hQ
  cases hc
  exact hQ ids w a D (fun i hi=>.inl hi) hr hk
 | cons i l ih=>
  intro D s s' ids w a hc hnd hdis hr hk hQ
  cases hc with
  | @cons _ _ _ s1 _ h1 h2=>
   obtain ⟨o,ho,hdst,hstep⟩:=h1
   have hiD:=hdis i (by simp)
   have hM0 : M0.le (MD b D):=fun k hk=>.inl (hb0 k hk)
   have hadd : ((MD b D).call (b + 64 * i)).le (MD b (i :: D)):=by
    rintro k ((hk | ⟨j,hj,hk⟩) | hk)
    · exact .inl hk
    · exact .inr ⟨j,by simp [hj],hk⟩
    · exact .inr ⟨i,by simp,hk⟩
   have hrec : ∀ ids' w' a',RepT F ids' w' (MD b (i :: D)) s1.1 s1.2 n a' → KeepA M0 ids0 w0 h0 a0 ids' w' s1.2 a' → wpOpsIn (Fw rd) dep P ops Q l a' w':=by
    intro ids' w' a' hr' hk'
    refine ih (i :: D) s1 s' ids' w' a' h2 (List.nodup_cons.1 hnd).2 (fun j hj hx=>?_) hr' hk' (fun ids2 w2 a2 D2 hD2=>hQ ids2 w2 a2 D2 fun j hj=>?_)
    · rcases List.mem_cons.1 hx with rfl | hx
      · exact (List.nodup_cons.1 hnd).1 hj
      · exact hdis j (by simp [hj]) hx
    · rcases hD2 j hj with hj | hj
      · rcases List.mem_cons.1 hj with rfl | hj
        · exact .inr (by simp)
        · exact .inl hj
      · exact .inr (by simp [hj])
   simp only [wpOpsIn,ho]
   rcases hstep with ⟨hg,v,u,hd,e2,e1⟩ | ⟨hg,e2,e1⟩
   · rw [if_pos (Zct hr ops o hg)]
     refine ZlI ?_ (hno o (Array.mem_of_getElem? ho))
     have hfresh : ∀ k,b + 64 * i ≤ k → k < b + 64 * i + 64 → ¬ MD b D k:=by
      rintro k k1 k2 (hk | ⟨j,hj,hk⟩)
      · omega
      · have : i = j:=by omega
        subst this;exact hiD hj
     refine Znv ht hr hfresh o hd _ _ ?_
     intro ids' w' val hc hv hbv
     rw [← e2] at hc hv
     have hr':=hr.putT hc hv hbv hdst
     rw [← e1] at hr'
     exact hrec ids' w' _ (hr'.up hadd) (hk.step (hc.keep hM0) (Zbq _ _ _))
   · rw [if_neg (by rw [Zct hr ops o hg];simp)]
     have hr':=hr.putT (Chg.refl hr.heap) (v:=V.no) (.c undef) (.c _) hdst
     rw [← e1,← e2] at hr'
     refine ⟨fun _ _=>trivial,hrec ids w _ (hr'.up ?_) (by rw [e2];exact hk.step Keep.refl (Zbq _ _ _))⟩
     rintro k (hk | ⟨j,hj,hk⟩)
     · exact .inl hk
     · exact .inr ⟨j,by simp [hj],hk⟩
abbrev Zuz : Dyn:=⟨[],[],[],true⟩
theorem ZjK (ht : Zk P tab) (hmix : P.follows .mixedOrders = true) {id : Nat} {ops : Array Oper} {Q : Ex → St → Prop} {s : St} (hm : M0.le (Lt s.b)) (hno : ZdV ops.toList = true) {ds : List Dyn} (hok : okD ops ds = true) {t' : Nat → V} {h' : Hp}
 (hc : Chain (fun i s1 s2=>DStep P tab ops s.n s.b i (ds.getD i Zuz) s1.1 s1.2 s2.1 s2.2) (List.range ops.size) (s.t,s.h) (t',h')) (hq : Q .normal ⟨t',h',s.b + 64 * ops.size,s.n⟩) : AWP P M0 (.region id ops true) Q s:=by
 intro rd hrd dep F ids w a hr
 refine wpIn_region_draw fun tp=>?_
 rw [hmix]
 simp only [okD,Bool.and_eq_true] at hok
 obtain ⟨k1,k3⟩:=hok
 obtain ⟨ht1,ht2⟩:=ZeK k1 tp
 have hsch : Region.schedule true ops tp = Region.linearise .any ops tp:=rfl
 rw [hsch]
 generalize Region.linearise .any ops tp = l at ht1 ht2
 have hchain:=Chain.perm l (List.range ops.size) _ _ (ht1.perm ht2) List.nodup_range (fun i j h1 h2=>by
  have hij : i < j:=by
   have:=(List.pairwise_lt_range (n:=ops.size)).sublist h1
   simpa using this
  have hj : j < ops.size:=List.mem_range.1 (h1.subset (by simp))
  have:=List.all_eq_true.1 (List.all_eq_true.1 k3 j (List.mem_range.2 hj)) i (List.mem_range.2 hij)
  rw [Bool.or_eq_true] at this
  rcases this with hb | hin
  · exact (ht1.notBefore (ZhS ops hb) h2).elim
  · intro s0 s1 s2 g1 g2
    obtain ⟨t1,h1',q1,q2⟩:=DStep.swap hin g1 g2
    exact ⟨(t1,h1'),q1,q2⟩) hc
 have hdr:=Chg.drew hr.heap
 show wpOpsIn (Fw rd) dep P ops _ l a w.drew
 refine Zkt (F:=F) (M0:=M0) ht ops (fun o ho=>Zff hno o (by simpa using ho)) hm (ids0:=ids) (w0:=w) (h0:=s.h) (a0:=a) l [] (s.t,s.h) (t',h') ids w.drew a hchain ht1.nodup (by simp) ?_ ?_ ?_
 · exact (hr.chg hdr).up fun k hk=>.inl hk
 · exact KeepA.refl.step (hdr.keep hm) rfl
 · intro ids' w' a' D' hD hr' hk
   refine ⟨.normal,⟨t',h',s.b + 64 * ops.size,s.n⟩,ids',trivial,hq,hr'.up ?_,hk⟩
   rintro k (hk | ⟨i,hi,k1,k2⟩)
   · exact Nat.lt_of_lt_of_le hk (Nat.le_add_right _ _)
   · have : i < ops.size:=by
      rcases hD i hi with h | h
      · cases h
      · exact ht1.lt i h
     show k < s.b + 64 * ops.size
     omega
def ZgL (P : Program) (tab : Tab) (ops : Array Oper) (n b : Nat) : Nat → List Oper → (Nat → V) → Hp → List Dyn → (List Dyn → (Nat → V) → Hp → Prop) → Prop
 | _,[],t,h,acc,K=>K acc t h
 | i,o :: os,t,h,acc,K=>∃ x,QK ops o t = some x ∧ (∀ d,o.dst = some d → d < n) ∧
  (x = true → ∃ d v u,DOp P tab (b + 64 * i) o.op (evS t) d h v u ∧ ZgL P tab ops n b (i + 1) os (putT o.dst v t) (Q1 h u) (acc ++ [d]) K) ∧
  (x = false → ZgL P tab ops n b (i + 1) os (putT o.dst V.no t) h (acc ++ [⟨[],[],[],false⟩]) K)
theorem Ziy (ops : Array Oper) {n b : Nat} {K : List Dyn → (Nat → V) → Hp → Prop} : ∀ (os : List Oper) (i : Nat) (t : Nat → V) (h : Hp) (acc : List Dyn),acc.length = i → (∀ k,os[k]? = ops[i + k]?) → ZgL P tab ops n b i os t h acc K →
 ∃ ds t' h',ds.length = os.length ∧ K (acc ++ ds) t' h' ∧ (∀ f : Nat → Dyn,(∀ (j : Nat) (d : Dyn),ds[j]? = some d → f (i + j) = d) →
  Chain (fun i s1 s2=>DStep P tab ops n b i (f i) s1.1 s1.2 s2.1 s2.2) (List.range' i os.length) (t,h) (t',h')):=by
 intro os
 induction os with
 | nil=>intro i t h acc _ _ hk;exact ⟨[],t,h,rfl,by simpa [ZgL] using hk,fun f _=>.nil _⟩
 | cons o os ih=>
  intro i t h acc hacc hos hk
  have ho : ops[i]? = some o:=by have:=hos 0;simpa using this.symm
  have hos' : ∀ k,(os[k]?) = ops[i + 1 + k]?:=by
   intro k
   have:=hos (k + 1)
   rw [List.getElem?_cons_succ] at this
   rw [this];congr 1;omega
  obtain ⟨x,hg,hdst,h1,h2⟩:=hk
  cases x with
  | true=>
   obtain ⟨d,v,u,hd,hk⟩:=h1 rfl
   obtain ⟨ds,t',h2',e1,e2,e3⟩:=ih (i + 1) _ _ _ (by simp [hacc]) hos' hk
   refine ⟨d :: ds,t',h2',by simp [e1],by simpa using e2,fun f hf=>?_⟩
   rw [List.length_cons,List.range'_succ]
   have h0:=hf 0 d rfl
   rw [Nat.add_zero] at h0
   refine .cons (s1:=(putT o.dst v t,Q1 h u)) ⟨o,ho,hdst,.inl ⟨hg,v,u,by rw [h0];exact hd,rfl,rfl⟩⟩ (e3 f fun j d hj=>?_)
   rw [← hf (j + 1) d (by simpa using hj)];congr 1;omega
  | false=>
   have hk:=h2 rfl
   obtain ⟨ds,t',h2',e1,e2,e3⟩:=ih (i + 1) _ _ _ (by simp [hacc]) hos' hk
   refine ⟨⟨[],[],[],false⟩ :: ds,t',h2',by simp [e1],by simpa using e2,fun f hf=>?_⟩
   rw [List.length_cons,List.range'_succ]
   refine .cons (s1:=(putT o.dst V.no t,h)) ⟨o,ho,hdst,.inr ⟨hg,rfl,rfl⟩⟩ (e3 f fun j d hj=>?_)
   rw [← hf (j + 1) d (by simpa using hj)];congr 1;omega
theorem Zoh (ht : Zk P tab) (hmix : P.follows .mixedOrders = true) {id : Nat} {ops : Array Oper} {Q : Ex → St → Prop} {s : St} (hm : M0.le (Lt s.b)) (hno : ZdV ops.toList = true)
 (h : ZgL P tab ops s.n s.b 0 ops.toList s.t s.h [] fun ds t' h'=>okD ops ds = true ∧ Q .normal ⟨t',h',s.b + 64 * ops.size,s.n⟩) : AWP P M0 (.region id ops true) Q s:=by
 obtain ⟨ds,t',h',e1,⟨e2,e3⟩,e4⟩:=Ziy ops ops.toList 0 s.t s.h [] rfl (fun k=>by simp) h
 rw [List.nil_append] at e2
 have hc:=e4 (fun i=>ds.getD i Zuz) (fun j d hj=>by simp [List.getD_eq_getElem?_getD,hj])
 refine ZjK ht hmix hm hno e2 ?_ e3
 simpa [List.range_eq_range'] using hc
end
end Go.Proofs.YtdjnjchpgccbiaaGreat.Abs
