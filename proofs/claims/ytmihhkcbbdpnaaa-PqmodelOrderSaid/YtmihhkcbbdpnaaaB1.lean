/- The abstract machine, part 13: contracts of functions, and what a piece of code does, in meaning. -/
import Derived.Test.YtmihhkcbbdpnaaaA12
namespace Go.Proofs.Ytmihhkcbbdpnaaa.Abs
set_option linter.unusedVariables false
section
variable {P : Program}

/-- how a piece of code is left -/
inductive Ex where
  | normal | exit (id : Nat) | ret
def Ex.is : Ex → Exit → Prop
  | .normal, .normal => True
  | .exit i, .exit j => i = j
  | .ret, .ret => True
  | _, _ => False

/-- the function f called with args in the heap h: it returns, and K holds of what it returns and of the heap behind it; new names are taken from nm on -/
def ACall (P : Program) (f : FuncId) (args : List V) (h : Hp) (M : Nm) (nm : Nat) (K : V → Hp → Prop) : Prop :=
  ∀ (F : Nat → Prop) (ids : Nat → Nat × Nat) (w : World) (vals : Array Value), RepH F ids w h M → vals.size = args.length →
    (∀ (i : Nat) (x : V) (v : Value), args[i]? = some x → vals[i]? = some v → RepV (Avoid F h ids) ids w x v) →
    ((callFunc f vals).run P w = .ok (.enter f vals) w ∧
    Calls P f vals w fun e w' => ∃ v r h' ids', e = .returned v ∧ K r h' ∧ Chg F ids w h M ids' w' h' (fun k => M k ∨ (nm ≤ k ∧ k < nm + 64)) ∧ RepV (Avoid F h' ids') ids' w' r v ∧ r.Below (fun k => M k ∨ (nm ≤ k ∧ k < nm + 64))) ∨
    ∃ v r h' ids' w', (callFunc f vals).run P w = .ok (.value v) w' ∧ K r h' ∧ Chg F ids w h M ids' w' h' (fun k => M k ∨ (nm ≤ k ∧ k < nm + 64)) ∧ RepV (Avoid F h' ids') ids' w' r v ∧ r.Below (fun k => M k ∨ (nm ≤ k ∧ k < nm + 64))

theorem ACall.mono {f : FuncId} {args : List V} {h : Hp} {M : Nm} {nm : Nat} {K K' : V → Hp → Prop} (hc : ACall P f args h M nm K) (hk : ∀ r h', K r h' → K' r h') : ACall P f args h M nm K' := by
  intro F ids w vals hh hs hv
  rcases hc F ids w vals hh hs hv with ⟨h1, h2⟩ | ⟨v, r, h', ids', w', h1, hK, hrest⟩
  · exact .inl ⟨h1, h2.mono fun e w' ⟨v, r, h', ids', he, hK, hrest⟩ => ⟨v, r, h', ids', he, hk r h' hK, hrest⟩⟩
  · exact .inr ⟨v, r, h', ids', w', h1, hk r h' hK, hrest⟩

/-- the names M, and those that a call from nm on may take -/
def Nm.call (M : Nm) (nm : Nat) : Nm := fun k => M k ∨ (nm ≤ k ∧ k < nm + 64)
/-- the operation op, its operands standing for e, in the heap h: shown apart -/
def AOp (P : Program) (op : Op) (e : Operand → V) (h : Hp) (M : Nm) (nm : Nat) (K : V → Hp → Prop) : Prop :=
  ∀ (F : Nat → Prop) (ids : Nat → Nat × Nat) (w : World) (a : Act) (o : Oper), o.op = op → RepH F ids w h M → (∀ x ∈ op.operands.toList, RepV (Avoid F h ids) ids w (e x) (a.eval x)) → (∀ x ∈ op.operands.toList, (e x).Below M) →
    ∀ (next : Act → World → Prop) (Q : Exit → Act → World → Prop),
      (∀ (v : V) (h' : Hp) (ids' : Nat → Nat × Nat) (w' : World) (val : Value), K v h' → Chg F ids w h M ids' w' h' (M.call nm) → RepV (Avoid F h' ids') ids' w' v val → v.Below (M.call nm) → next (a.put o.dst val) w') → o.wp P a w next Q
theorem AOp.mono {op : Op} {e : Operand → V} {h : Hp} {M : Nm} {nm : Nat} {K K' : V → Hp → Prop} (hc : AOp P op e h M nm K) (hk : ∀ r h', K r h' → K' r h') : AOp P op e h M nm K' :=
  fun F ids w a o ho hh h1 h2 next Q hn => hc F ids w a o ho hh h1 h2 next Q fun v h' ids' w' val hK => hn v h' ids' w' val (hk v h' hK)
theorem AOp.ev {op : Op} {e e2 : Operand → V} {h : Hp} {M : Nm} {nm : Nat} {K : V → Hp → Prop} (he : ∀ x ∈ op.operands.toList, e2 x = e x) (hc : AOp P op e h M nm K) : AOp P op e2 h M nm K :=
  fun F ids w a o ho hh h1 h2 next Q hn => hc F ids w a o ho hh (fun x hx => by rw [← he x hx]; exact h1 x hx) (fun x hx => by rw [← he x hx]; exact h2 x hx) next Q hn

/-- what a piece of code keeps: blocks without a name, and what the names of M0 stand for -/
structure Keep (M0 : Nm) (ids : Nat → Nat × Nat) (w : World) (h : Hp) (ids' : Nat → Nat × Nat) (w' : World) (h' : Hp) : Prop where
  goes : Goes (Live h ids) w w'
  live : ∀ b, b < w.heap.size → Live h' ids' b → Live h ids b
  ids : ∀ n, M0 n → ids' n = ids n
theorem Keep.refl {M0 : Nm} {ids : Nat → Nat × Nat} {w : World} {h : Hp} : Keep M0 ids w h ids w h := ⟨Goes.refl _ _, fun _ _ x => x, fun _ _ => rfl⟩
theorem Keep.trans {M0 : Nm} {ids ids1 ids2 : Nat → Nat × Nat} {w w1 w2 : World} {h h1 h2 : Hp} (c : Keep M0 ids w h ids1 w1 h1) (c' : Keep M0 ids1 w1 h1 ids2 w2 h2) : Keep M0 ids w h ids2 w2 h2 :=
  ⟨c.goes.trans c'.goes c.live, fun b hb x => c.live b hb (c'.live b (Nat.lt_of_lt_of_le hb c.goes.size) x), fun n hn => (c'.ids n hn).trans (c.ids n hn)⟩
theorem Chg.keep {F : Nat → Prop} {M0 : Nm} {ids ids' : Nat → Nat × Nat} {w w' : World} {h h' : Hp} {M M' : Nm} (c : Chg F ids w h M ids' w' h' M') (hm : M0.le M) : Keep M0 ids w h ids' w' h' :=
  ⟨c.goes, c.live, fun n hn => c.ids n (hm n hn)⟩

/-- a piece of code, begun in the state s, is left in a state of which Q holds -/
def AWP (P : Program) (M0 : Nm) (c : Code) (Q : Ex → St → Prop) (s : St) : Prop :=
  ∀ (F : Nat → Prop) (ids : Nat → Nat × Nat) (w : World) (a : Act), Rep F ids w s a →
    c.wp P (fun e a' w' => ∃ x s' ids', x.is e ∧ Q x s' ∧ Rep F ids' w' s' a' ∧ Keep M0 ids w s.h ids' w' s'.h) a w

variable {M0 : Nm}
theorem AWP.mono {c : Code} {Q Q' : Ex → St → Prop} {s : St} (h : AWP P M0 c Q s) (hq : ∀ x s', Q x s' → Q' x s') : AWP P M0 c Q' s :=
  fun F ids w a hr => wp_mono (h F ids w a hr) fun e a' w' ⟨x, s', ids', h1, h2, h3⟩ => ⟨x, s', ids', h1, hq x s' h2, h3⟩

theorem awp_skip {Q : Ex → St → Prop} {s : St} (h : Q .normal s) : AWP P M0 .skip Q s :=
  fun F ids w a hr => wp_skip ⟨.normal, s, ids, trivial, h, hr, Keep.refl⟩
theorem awp_label {l : Nat} {Q : Ex → St → Prop} {s : St} (h : Q .normal s) : AWP P M0 (.label l) Q s :=
  fun F ids w a hr => wp_label ⟨.normal, s, ids, trivial, h, hr, Keep.refl⟩
theorem awp_exit {i : Nat} {Q : Ex → St → Prop} {s : St} (h : Q (.exit i) s) : AWP P M0 (.exit i) Q s :=
  fun F ids w a hr => wp_exit ⟨.exit i, s, ids, rfl, h, hr, Keep.refl⟩
theorem awp_ret {Q : Ex → St → Prop} {s : St} (h : Q .ret s) : AWP P M0 .ret Q s :=
  fun F ids w a hr => wp_ret ⟨.ret, s, ids, trivial, h, hr, Keep.refl⟩

def thenB (K : St → Prop) (Q : Ex → St → Prop) : Ex → St → Prop
  | .normal, s => K s
  | x, s => Q x s
def blockB (id : Nat) (Q : Ex → St → Prop) : Ex → St → Prop
  | .exit k, s => if k = id then Q .normal s else Q (.exit k) s
  | x, s => Q x s

theorem awp_seq {c d : Code} {Q : Ex → St → Prop} {s : St} (h : AWP P M0 c (thenB (AWP P M0 d Q) Q) s) : AWP P M0 (.seq c d) Q s := by
  intro F ids w a hr
  refine wp_seq (wp_mono (h F ids w a hr) ?_)
  rintro e a' w' ⟨x, s', ids', hx, hq, hr', hc⟩
  cases e with
  | normal =>
    cases x with
    | normal => exact wp_mono (hq F ids' w' a' hr') fun e2 a2 w2 ⟨x2, s2, ids2, g1, g2, g3, g4⟩ => ⟨x2, s2, ids2, g1, g2, g3, hc.trans g4⟩
    | _ => cases hx
  | exit k => cases x <;> first | exact ⟨_, s', ids', hx, hq, hr', hc⟩ | exact absurd hx (by intro h; exact h)
  | ret => cases x <;> first | exact ⟨_, s', ids', hx, hq, hr', hc⟩ | exact absurd hx (by intro h; exact h)
  | _ => cases x <;> cases hx

theorem awp_block {id : Nat} {c : Code} {Q : Ex → St → Prop} {s : St} (h : AWP P M0 c (blockB id Q) s) : AWP P M0 (.block id c) Q s := by
  intro F ids w a hr
  refine wp_block (wp_mono (h F ids w a hr) ?_)
  rintro e a' w' ⟨x, s', ids', hx, hq, hr', hc⟩
  cases e with
  | normal =>
    cases x with
    | normal => exact ⟨.normal, s', ids', trivial, hq, hr', hc⟩
    | _ => cases hx
  | exit k =>
    cases x with
    | exit j =>
      cases hx
      simp only [Exit.inBlock]
      simp only [blockB] at hq
      split
      · next e => rw [if_pos e] at hq; exact ⟨.normal, s', ids', trivial, hq, hr', hc⟩
      · next e => rw [if_neg e] at hq; exact ⟨.exit k, s', ids', rfl, hq, hr', hc⟩
    | _ => cases hx
  | ret =>
    cases x with
    | ret => exact ⟨.ret, s', ids', trivial, hq, hr', hc⟩
    | _ => cases hx
  | _ => cases x <;> cases hx

theorem awp_cond {c : Operand} {d e : Code} {Q : Ex → St → Prop} {s : St} {b : Bool} (hc : evS s.t c = .c (.bool b)) (ht : b = true → AWP P M0 d Q s) (hf : b = false → AWP P M0 e Q s) : AWP P M0 (.cond c d e) Q s := by
  intro F ids w a hr
  have hv := evS_rep hr c
  rw [hc] at hv
  have hv : a.eval c = .bool b := by cases hq : a.eval c <;> rw [hq] at hv <;> cases hv <;> rfl
  exact wp_cond_split hv (fun h => ht h F ids w a hr) (fun h => hf h F ids w a hr)

/-- the state s' says no more than s does -/
def Sub (M0 : Nm) (s s' : St) : Prop :=
  ∀ (F : Nat → Prop) (ids : Nat → Nat × Nat) (w : World) (a : Act), Rep F ids w s a → ∃ ids', Rep F ids' w s' a ∧ Keep M0 ids w s.h ids' w s'.h
theorem Sub.refl {s : St} : Sub M0 s s := fun F ids w a hr => ⟨ids, hr, Keep.refl⟩
theorem AWP.sub {c : Code} {Q : Ex → St → Prop} {s s' : St} (hs : Sub M0 s s') (h : AWP P M0 c Q s') : AWP P M0 c Q s := by
  intro F ids w a hr
  obtain ⟨ids', hr', hk⟩ := hs F ids w a hr
  exact wp_mono (h F ids' w a hr') fun e a' w' ⟨x, s2, ids2, h1, h2, h3, h4⟩ => ⟨x, s2, ids2, h1, h2, h3, hk.trans h4⟩

theorem least {p : Nat → Prop} (h : ∃ n, p n) : ∃ m, p m ∧ ∀ k, p k → m ≤ k := by
  obtain ⟨n, hn⟩ := h
  induction n using Nat.strongRecOn with
  | _ n ih =>
    by_cases hx : ∃ k, k < n ∧ p k
    · obtain ⟨k, hk, hp⟩ := hx; exact ih k hk hp
    · exact ⟨n, hn, fun k hk => Nat.le_of_not_lt fun hlt => hx ⟨k, hlt, hk⟩⟩

/-- a loop whose rounds lower a measure of what they go on with -/
theorem awp_loop {α : Type} {c : Code} {Q : Ex → St → Prop} (S : α → St) (I : α → Prop) (μ : α → Nat) (round : ∀ x, I x → AWP P M0 c (thenB (fun s' => ∃ y, I y ∧ μ y < μ x ∧ Sub M0 s' (S y)) Q) (S x)) {x : α} (h0 : I x) :
    AWP P M0 (.loop c) Q (S x) := by
  classical
  intro F ids0 w0 a0 hr0
  let Good : Nat → Act → World → Prop := fun n a w => ∃ y ids, I y ∧ Rep F ids w (S y) a ∧ Keep M0 ids0 w0 (S x).h ids w (S y).h ∧ μ y = n
  let μ' : Act → World → Nat := fun a w => if h : ∃ n, Good n a w then Classical.choose (least h) else 0
  have hμ : ∀ a w n, Good n a w → ∃ m, Good m a w ∧ μ' a w = m ∧ m ≤ n := by
    intro a w n hg
    have hex : ∃ n, Good n a w := ⟨n, hg⟩
    have hs := Classical.choose_spec (least hex)
    exact ⟨Classical.choose (least hex), hs.1, by simp only [μ']; rw [dif_pos hex], hs.2 n hg⟩
  refine wp_loop (fun a w => ∃ n, Good n a w) μ' ⟨μ x, x, ids0, h0, hr0, Keep.refl, rfl⟩ ?_
  rintro a w ⟨n, hg⟩
  obtain ⟨m, ⟨y, ids, hy, hry, hky, hm⟩, hmu, _⟩ := hμ a w n hg
  refine wp_mono (round y hy F ids w a hry) ?_
  rintro e a' w' ⟨x', s', ids', hx, hq, hr', hk'⟩
  cases e with
  | normal =>
    cases x' with
    | normal =>
      obtain ⟨z, hz, hlt, hsub⟩ := hq
      obtain ⟨ids2, hr2, hk2⟩ := hsub F ids' w' a' hr'
      have hg' : Good (μ z) a' w' := ⟨z, ids2, hz, hr2, (hky.trans hk').trans hk2, rfl⟩
      refine ⟨⟨_, hg'⟩, ?_⟩
      obtain ⟨m', _, e1, e2⟩ := hμ a' w' _ hg'
      rw [e1, hmu]; omega
    | _ => cases hx
  | exit k => cases x' <;> first | exact ⟨_, s', ids', hx, hq, hr', hky.trans hk'⟩ | exact absurd hx (by intro h; exact h)
  | ret => cases x' <;> first | exact ⟨_, s', ids', hx, hq, hr', hky.trans hk'⟩ | exact absurd hx (by intro h; exact h)
  | _ => cases x' <;> cases hx
end
end Go.Proofs.Ytmihhkcbbdpnaaa.Abs
