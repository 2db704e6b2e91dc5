/- The abstract machine, part 32: calls, loops and returns that do not look into the blocks that they are told to leave shut. -/
import Derived.Test.YtcffiehcdadimaaGreatC16
namespace Go.Proofs.YtcffiehcdadimaaGreat.Abs
set_option linter.unusedVariables false
set_option linter.unusedSimpArgs false
section
variable {P : Program} {tab : Tab}
/-! ### states with blocks that are not looked into -/
/-- the block that o is stands for x with other names -/
inductive BO (ρ : Nat → Nat) (b : Nat) (x : B) (o : Option B) (K : Prop) : Prop
  | mk (x' : B) (ho : o = some x') (h : x' = renB ρ x) (hb : x.Below (Lt b)) (k : K)
  | no (h : x.real = false) (hb : x.Below (Lt b)) (k : K)
noncomputable def subHOCons (O : List Nat) (ρ : Nat → Nat) (fr : Nat → Bool) (b : Nat) (h : List (Nat × B)) (p : Nat × B) (H : List (Nat × B)) (ih : Prop → Prop) : Prop → Prop := fun K =>
  match O.contains p.1 with
  | true => okK (Nat.blt p.1 b) (BO ρ b p.2 (hAt h (ρ p.1)) (ih K))
  | false => subHCons ρ fr b h p H ih K
noncomputable def subHO (O : List Nat) (ρ : Nat → Nat) (fr : Nat → Bool) (b : Nat) (H h : List (Nat × B)) : Prop → Prop := List.rec (motive := fun _ => Prop → Prop) subHNil (subHOCons O ρ fr b h) H
theorem subHO_of {O : List Nat} {ρ : Nat → Nat} {fr : Nat → Bool} {b : Nat} : ∀ {H h : List (Nat × B)} {K : Prop}, subHO O ρ fr b H h K → K ∧ ∀ p ∈ H, p.1 < b ∧ p.2.Below (Lt b) ∧ ((∃ b', hAt h (ρ p.1) = some b' ∧ WeakB fr h ρ p.2 b') ∨ p.2.real = false)
  | [], h, K, hk => ⟨hk, by simp⟩
  | p :: H, h, K, hk => by
    have hk : (match O.contains p.1 with
      | true => okK (Nat.blt p.1 b) (BO ρ b p.2 (hAt h (ρ p.1)) (subHO O ρ fr b H h K))
      | false => subH ρ fr b [p] h (subHO O ρ fr b H h K)) := hk
    split at hk
    · obtain ⟨e1, hk⟩ := okK_of hk
      have e1 : p.1 < b := by simpa [Nat.blt_eq] using e1
      cases hk with
      | mk x' ho h1 hb k =>
        obtain ⟨g1, g2⟩ := subHO_of k
        refine ⟨g1, fun q hq => ?_⟩
        rcases List.mem_cons.1 hq with rfl | hq
        · exact ⟨e1, hb, .inl ⟨x', ho, fun _ _ => by rw [h1]; exact WkB.ren ρ _⟩⟩
        · exact g2 q hq
      | no h1 hb k =>
        obtain ⟨g1, g2⟩ := subHO_of k
        refine ⟨g1, fun q hq => ?_⟩
        rcases List.mem_cons.1 hq with rfl | hq
        · exact ⟨e1, hb, .inr h1⟩
        · exact g2 q hq
    · obtain ⟨k, h1⟩ := subH_of hk
      obtain ⟨g1, g2⟩ := subHO_of k
      refine ⟨g1, fun q hq => ?_⟩
      rcases List.mem_cons.1 hq with rfl | hq
      · exact h1 q (by simp)
      · exact g2 q hq
noncomputable def subKO (O : List Nat) (ρ : List (Nat × Nat)) (N b : Nat) (T : List V) (H : List (Nat × B)) (t : List V) (h : List (Nat × B)) : Prop :=
  okK (ρ.all fun p => Nat.ble N p.1) (okK (noTwice (H.map fun p => ren1 ρ p.1)) (subT (ren1 ρ) (frOf (ren1 ρ) H) h b T t (subHO O (ren1 ρ) (frOf (ren1 ρ) H) b H h True)))
theorem subKO_of {O : List Nat} {ρ : List (Nat × Nat)} {N b b' : Nat} {T t : List V} {H h : List (Nat × B)} (hk : subKO O ρ N b T H t h) : Sub (Lt N) ⟨tAt t, hAt h, b', t.length⟩ ⟨tAt T, hAt H, b, T.length⟩ ∧ T.length = t.length := by
  obtain ⟨e1, hk⟩ := okK_of hk
  obtain ⟨e2, hk⟩ := okK_of hk
  obtain ⟨hk, hlen, hT⟩ := subT_of hk
  obtain ⟨_, hH⟩ := subHO_of hk
  refine ⟨?_, hlen⟩
  have hren : Ren (ren1 ρ) (hAt h) (hAt H) (Lt b) := subH_ren (noTwice_nodup e2) hH
  intro F ids w a hr
  refine ⟨fun n => ids (ren1 ρ n), ⟨hren.heap hr.heap, fun i => ?_, by rw [hlen]; exact hr.size, fun i hi => ?_, fun i => (hT i).1, hr.defers⟩, ⟨Goes.refl _ _, fun b _ x => ?_, fun n hn => by rw [ren1_id e1 hn]⟩⟩
  · exact (hT i).2.rep hren hr.heap (hr.tmps i)
  · show tAt T i = .un
    rw [tAt_get, List.getElem?_eq_none hi]; rfl
  · obtain ⟨n, c, hn, hcr, hb⟩ := x
    obtain ⟨b', h1, h2, _⟩ := hren.real hn hcr
    exact ⟨ren1 ρ n, _, h1, h2, hb⟩
/-- the round is done: the next one begins in the state of y -/
inductive NextO {α : Type} (O : List Nat) (I : α → Prop) (μ : α → Nat) (x : α) (N b : Nat) (T : α → List V) (H : α → List (Nat × B)) (t : List V) (h : List (Nat × B)) : Prop
  | mk (ρ : List (Nat × Nat)) (y : α) (hI : I y) (hμ : μ y < μ x) (hs : subKO O ρ N b (T y) (H y) t h) : NextO O I μ x N b T H t h
noncomputable def roundO {α : Type} (O : List Nat) (P : Program) (tab : Tab) (N : Nat) (c : Code) (b : Nat) (K : Ex → List V → List (Nat × B) → Nat → Prop) (I : α → Prop) (μ : α → Nat) (T : α → List V) (H : α → List (Nat × B)) (x : α) : Prop :=
  headsK (T x) fun t => listK (H x) fun h => codeK P tab N c t h b fun e t' h' b' => match e with
    | .normal => NextO O I μ x N b T H t' h'
    | .exit i => K (.exit i) t' h' b'
    | .ret => K .ret t' h' b'
/-- a loop: the slots ks and the blocks kh are kept, those of ch and hc change; the blocks of O are not looked into -/
theorem loopO (ht : TabOk P tab) (hmix : P.follows .mixedOrders = true) {α : Type} {N : Nat} {c : Code} {t : List V} {h : List (Nat × B)} {b : Nat} {K : Ex → List V → List (Nat × B) → Nat → Prop}
    (O : List Nat) (ks : List Nat) (kh : List Nat) (ch : α → List (Nat × V)) (hc : α → List (Nat × B)) (I : α → Prop) (μ : α → Nat) (ρ : List (Nat × Nat)) (x : α) (hb : Nat.ble N b = true) (h0 : I x)
    (hs : subKO O ρ N b (putsT (ch x) (keepT 0 ks t)) (hc x ++ keepH kh h) t h)
    (round : ∀ x, I x → roundO O P tab N c b K I μ (fun x => putsT (ch x) (keepT 0 ks t)) (fun x => hc x ++ keepH kh h) x) : LoopB P tab N c t h b K := by
  have hb := Nat.le_of_ble_eq_true hb
  refine ⟨hb, ?_⟩
  obtain ⟨hs, hs2⟩ := subKO_of (b' := b) hs
  refine AWP.sub hs ?_
  refine awp_loop (fun x => ⟨tAt (putsT (ch x) (keepT 0 ks t)), hAt (hc x ++ keepH kh h), b, (putsT (ch x) (keepT 0 ks t)).length⟩) I μ (fun x hx => ?_) h0
  have hr := listK_of (headsK_of (round x hx))
  refine AWP.mono (codeK_of ht hmix c _ _ b _ hb hr) ?_
  rintro e s ⟨t', h', b', rfl, e1, hb', hk⟩
  cases e with
  | normal =>
    obtain ⟨ρ, y, hI, hμ, hs⟩ := hk
    exact ⟨y, hI, hμ, (subKO_of hs).1⟩
  | exit i => exact ⟨t', h', b', rfl, by rw [e1, putsT_len, keepT_len], hb', hk⟩
  | ret => exact ⟨t', h', b', rfl, by rw [e1, putsT_len, keepT_len], hb', hk⟩
/-! ### choices that are joined -/
end
end Go.Proofs.YtcffiehcdadimaaGreat.Abs
