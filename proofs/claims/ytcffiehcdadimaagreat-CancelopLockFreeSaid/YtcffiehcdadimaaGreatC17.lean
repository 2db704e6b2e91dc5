/- The abstract machine, part 32: calls, loops and returns that do not look into the blocks that they are told to leave shut. -/
import Derived.Test.YtcffiehcdadimaaGreatC16
namespace Go.Proofs.YtcffiehcdadimaaGreat.Abs
set_option linter.unusedVariables false
set_option linter.unusedSimpArgs false
section
variable {P : Program} {tab : Tab}
/-! ### states with blocks that are not looked into -/
/-- the block that o is stands for x with other names -/
inductive BO (ρ : Nat → Nat) (b : Nat) (x : B) (o : Option B) (K : Prop) : Prop
  | mk (x' : B) (ho : o = some x') (h : x' = renB ρ x) (hb : x.Below (Lt b)) (k : K)
  | no (h : x.real = false) (hb : x.Below (Lt b)) (k : K)
noncomputable def subHOCons (O : List Nat) (ρ : Nat → Nat) (fr : Nat → Bool) (b : Nat) (h : List (Nat × B)) (p : Nat × B) (H : List (Nat × B)) (ih : Prop → Prop) : Prop → Prop := fun K =>
  match O.contains p.1 with
  | true => okK (Nat.blt p.1 b) (BO ρ b p.2 (hAt h (ρ p.1)) (ih K))
  | false => subHCons ρ fr b h p H ih K
noncomputable def subHO (O : List Nat) (ρ : Nat → Nat) (fr : Nat → Bool) (b : Nat) (H h : List (Nat × B)) : Prop → Prop := List.rec (motive := fun _ => Prop → Prop) subHNil (subHOCons O ρ fr b h) H
theorem subHO_of {O : List Nat} {ρ : Nat → Nat} {fr : Nat → Bool} {b : Nat} : ∀ {H h : List (Nat × B)} {K : Prop}, subHO O ρ fr b H h K → K ∧ ∀ p ∈ H, p.1 < b ∧ p.2.Below (Lt b) ∧ ((∃ b', hAt h (ρ p.1) = some b' ∧ WeakB fr h ρ p.2 b') ∨ p.2.real = false)
  | [], h, K, hk => ⟨hk, by simp⟩
  | p :: H, h, K, hk => by
    have hk : (match O.contains p.1 with
      | true => okK (Nat.blt p.1 b) (BO ρ b p.2 (hAt h (ρ p.1)) (subHO O ρ fr b H h K))
      | false => subH ρ fr b [p] h (subHO O ρ fr b H h K)) := hk
    split at hk
    · obtain ⟨e1, hk⟩ := okK_of hk
      have e1 : p.1 < b := by simpa [Nat.blt_eq] using e1
      cases hk with
      | mk x' ho h1 hb k =>
        obtain ⟨g1, g2⟩ := subHO_of k
        refine ⟨g1, fun q hq => ?_⟩
        rcases List.mem_cons.1 hq with rfl | hq
        · exact ⟨e1, hb, .inl ⟨x', ho, fun _ _ => by rw [h1]; exact WkB.ren ρ _⟩⟩
        · exact g2 q hq
      | no h1 hb k =>
        obtain ⟨g1, g2⟩ := subHO_of k
        refine ⟨g1, fun q hq => ?_⟩
        rcases List.mem_cons.1 hq with rfl | hq
        · exact ⟨e1, hb, .inr h1⟩
        · exact g2 q hq
    · obtain ⟨k, h1⟩ := subH_of hk
      obtain ⟨g1, g2⟩ := subHO_of k
      refine ⟨g1, fun q hq => ?_⟩
      rcases List.mem_cons.1 hq with rfl | hq
      · exact h1 q (by simp)
      · exact g2 q hq
noncomputable def subKO (O : List Nat) (ρ : List (Nat × Nat)) (N b : Nat) (T : List V) (H : List (Nat × B)) (t : List V) (h : List (Nat × B)) : Prop :=
  okK (ρ.all fun p => Nat.ble N p.1) (okK (noTwice (H.map fun p => ren1 ρ p.1)) (subT (ren1 ρ) (frOf (ren1 ρ) H) h b T t (subHO O (ren1 ρ) (frOf (ren1 ρ) H) b H h True)))
theorem subKO_of {O : List Nat} {ρ : List (Nat × Nat)} {N b b' : Nat} {T t : List V} {H h : List (Nat × B)} (hk : subKO O ρ N b T H t h) : Sub (Lt N) ⟨tAt t, hAt h, b', t.length⟩ ⟨tAt T, hAt H, b, T.length⟩ ∧ T.length = t.length := by
  obtain ⟨e1, hk⟩ := okK_of hk
  obtain ⟨e2, hk⟩ := okK_of hk
  obtain ⟨hk, hlen, hT⟩ := subT_of hk
  obtain ⟨_, hH⟩ := subHO_of hk
  refine ⟨?_, hlen⟩
  have hren : Ren (ren1 ρ) (hAt h) (hAt H) (Lt b) := subH_ren (noTwice_nodup e2) hH
  intro F ids w a hr
  refine ⟨fun n => ids (ren1 ρ n), ⟨hren.heap hr.heap, fun i => ?_, by rw [hlen]; exact hr.size, fun i hi => ?_, fun i => (hT i).1, hr.defers⟩, ⟨Goes.refl _ _, fun b _ x => ?_, fun n hn => by rw [ren1_id e1 hn]⟩⟩
  · exact (hT i).2.rep hren hr.heap (hr.tmps i)
  · show tAt T i = .un
    rw [tAt_get, List.getElem?_eq_none hi]; rfl
  · obtain ⟨n, c, hn, hcr, hb⟩ := x
    obtain ⟨b', h1, h2, _⟩ := hren.real hn hcr
    exact ⟨ren1 ρ n, _, h1, h2, hb⟩
/-! ### choices that are joined -/
end
end Go.Proofs.YtcffiehcdadimaaGreat.Abs
