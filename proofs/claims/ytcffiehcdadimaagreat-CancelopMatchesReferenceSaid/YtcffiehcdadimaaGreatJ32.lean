/- Laws of cancellations: four threads that cancel, beside the reference: states. -/
import Derived.Test.YtcffiehcdadimaaGreatJC
import Derived.Test.YtcffiehcdadimaaGreatC17
namespace Go.Proofs.YtcffiehcdadimaaGreat.Abs
open Go.Proofs
set_option maxRecDepth 10000
set_option linter.unusedSimpArgs false
set_option linter.unusedVariables false
/-- a thread's call, and the word that the reference keeps for it -/
abbrev Slo := Option (COp × Int)
def oblB (o : Slo) (a : Nat) : B :=
  match o with
  | none => .dat 10 []
  | some p => copR p.1 a
def roblB (o : Slo) (a : Nat) : B :=
  match o with
  | none => .dat 15 []
  | some p => rcopR p.1 p.2 a
def ptrO (o : Slo) (n z : Nat) : V :=
  match o with
  | none => .c (.pointer none)
  | some _ => .p n z 0 0
theorem renV_int (ρ : Nat → Nat) (n : Int) : renV ρ (V.int n) = V.int n := by rw [renV]
theorem renV_bool (ρ : Nat → Nat) (n : Bool) : renV ρ (V.bool n) = V.bool n := by rw [renV]
theorem copR_ren {ρ : Nat → Nat} {a : Nat} (h : ρ a = a) (c : COp) : renB ρ (copR c a) = copR c a := by
  unfold copR
  simp only [renB, List.map_cons, List.map_nil, renVs, renV, h]
theorem rcR_ren {ρ : Nat → Nat} {a : Nat} (h : ρ a = a) (th hd : Int) (sw : Bool) (rw' : Int) (dn pt wt : Bool) : renB ρ (rcR a th hd sw rw' dn pt wt) = rcR a th hd sw rw' dn pt wt := by
  unfold rcR
  simp only [renB, List.map_cons, List.map_nil, renVs, renV, h]
theorem copR_below {a b : Nat} (h : a < b) (c : COp) : (copR c a).Below (Lt b) := by
  intro row hr x hx
  rw [List.mem_singleton] at hr
  subst hr
  simp only [List.mem_cons, List.not_mem_nil, or_false] at hx
  rcases hx with rfl | rfl | rfl | rfl | rfl | rfl | rfl | rfl | rfl | rfl <;> first | exact .p _ _ _ _ h | exact .c _
theorem rcR_below {a b : Nat} (h : a < b) (th hd : Int) (sw : Bool) (rw' : Int) (dn pt wt : Bool) : (rcR a th hd sw rw' dn pt wt).Below (Lt b) := by
  intro row hr x hx
  rw [List.mem_singleton] at hr
  subst hr
  simp only [List.mem_cons, List.not_mem_nil, or_false] at hx
  rcases hx with rfl | rfl | rfl | rfl | rfl | rfl | rfl | rfl | rfl | rfl | rfl | rfl | rfl | rfl | rfl <;> first | exact .p _ _ _ _ h | exact .c _
section
variable {ρ : Nat → Nat} {b : Nat} {K : Prop}
/-- a call that goes on as it is -/
theorem boOp {o : Slo} {a : Nat} {B' : Option B} (k : K) (hB : B' = some (oblB o a) := by rfl) (h : ρ a = a := by rfl) (hb : a < b := by decide) : BO ρ b (oblB o a) B' K := by
  cases o with
  | none => exact .no rfl trivial k
  | some p => exact .mk _ hB (copR_ren h p.1).symm (copR_below hb p.1) k
theorem boRop {o : Slo} {a : Nat} {B' : Option B} (k : K) (hB : B' = some (roblB o a) := by rfl) (h : ρ a = a := by rfl) (hb : a < b := by decide) : BO ρ b (roblB o a) B' K := by
  cases o with
  | none => exact .no rfl trivial k
  | some p => exact .mk _ hB (rcR_ren h _ _ _ _ _ _ _).symm (rcR_below hb _ _ _ _ _ _ _) k
/-- no call -/
theorem boNo {x : B} {B' : Option B} (k : K) (h : x.real = false := by rfl) (hx : x.Below (Lt b) := by trivial) : BO ρ b x B' K := .no h hx k
theorem ptrO_ren (o : Slo) (n z : Nat) : renV ρ (ptrO o n z) = ptrO o (ρ n) z := by
  cases o <;> (unfold ptrO; rw [renV])
theorem ptrO_below {o : Slo} {n z : Nat} (h : n < b) : (ptrO o n z).Below (Lt b) := by
  cases o
  · exact .c _
  · exact .p _ _ _ _ h
/-- the array of the calls -/
theorem boArr {o0 o1 o2 o3 : Slo} {n0 n1 n2 n3 z : Nat} {v0 v1 v2 v3 : V} {B' : Option B} (k : K) (hB : B' = some (.rows 4 [[v0, v1, v2, v3]]) := by rfl) (h0 : v0 = ptrO o0 (ρ n0) z := by rfl) (h1 : v1 = ptrO o1 (ρ n1) z := by rfl) (h2 : v2 = ptrO o2 (ρ n2) z := by rfl)
    (h3 : v3 = ptrO o3 (ρ n3) z := by rfl) (hb : n0 < b ∧ n1 < b ∧ n2 < b ∧ n3 < b := by decide) : BO ρ b (.rows 4 [[ptrO o0 n0 z, ptrO o1 n1 z, ptrO o2 n2 z, ptrO o3 n3 z]]) B' K := by
  refine .mk _ hB ?_ ?_ k
  · simp only [renB, List.map_cons, List.map_nil, renVs, ptrO_ren, h0, h1, h2, h3]
  · intro row hr x hx
    rw [List.mem_singleton] at hr
    subst hr
    simp only [List.mem_cons, List.not_mem_nil, or_false] at hx
    rcases hx with rfl | rfl | rfl | rfl
    · exact ptrO_below hb.1
    · exact ptrO_below hb.2.1
    · exact ptrO_below hb.2.2.1
    · exact ptrO_below hb.2.2.2
end
/-- rounds, handles used, the store, the four threads' calls -/
structure Mrs where
  i : Nat
  nx : Nat
  s : Sto
  o0 : Slo
  o1 : Slo
  o2 : Slo
  o3 : Slo
/-- a call is in order beside the store s -/
def SloOk (s : Sto) (o : Slo) : Prop := ∀ p, o = some p → COk p.1 967 ∧ p.1.ph ≠ 2 ∧ (p.1.ph = 1 → p.1.has s ∧ p.2 = p.1.seen)
theorem SloOk.none {s : Sto} : SloOk s none := fun p h => by cases h
theorem SloOk.mono {s t : Sto} {o : Slo} (h : SloOk s o) (ht : t.slots = s.slots) : SloOk t o := fun p hp => by
  obtain ⟨a, b, c⟩ := h p hp
  refine ⟨a, b, fun e => ?_⟩
  unfold COp.has
  rw [ht]; exact c e
/-- a thread's call behind a step -/
def sloN (c : COp) (rw' : Int) (s : Sto) : Slo := if (cStep c s).1.ph = 2 then none else some ((cStep c s).1, rwN c s rw')
theorem cStep_ph1 {c : COp} {s : Sto} (h : (cStep c s).1.ph = 1) (h2 : c.ph ≠ 2) : c.has s ∧ c.ph ≠ 1 ∧ (cStep c s).1.seen = s.m.word (c.sl + 1) := by
  by_cases hh : c.has s
  · by_cases hp : c.ph = 1
    · rw [cStep_swap hh hp] at h
      unfold COp.swap at h
      split at h <;> cases h
    · refine ⟨hh, hp, ?_⟩
      rw [cStep_load hh hp]
      unfold COp.load
      split
      · rfl
      · split <;> rfl
  · rw [cStep_none hh] at h
    cases h
theorem SloOk.step {s : Sto} {c : COp} {rw' : Int} (hw : Wds s 967) (h : SloOk s (some (c, rw'))) : SloOk (cStep c s).2 (sloN c rw' s) := by
  obtain ⟨a, b, d⟩ := h _ rfl
  intro p hp
  unfold sloN at hp
  split at hp
  · cases hp
  · next e =>
    cases hp
    refine ⟨COk.step hw a b, e, fun e1 => ?_⟩
    obtain ⟨g1, g2, g3⟩ := cStep_ph1 e1 b
    obtain ⟨d1, d2, d3, _⟩ := cStep_same c s
    refine ⟨?_, ?_⟩
    · unfold COp.has at g1 ⊢
      rw [d2, d3]; exact g1
    · show rwN c s rw' = _
      unfold rwN
      rw [if_pos ⟨g1, g2, e1⟩, g3]
structure MrOk (n L H : Nat) (S : List Item) (y : Mrs) : Prop where
  i : y.i ≤ L
  nx : y.nx ≤ H
  wds : Wds y.s 967
  len : y.s.slots.length = n
  log : y.s.m.log.length ≤ 2420 + y.i
  shown : Shown y.s S
  idle : y.s.idle.length < 1000000
  k0 : SloOk y.s y.o0
  k1 : SloOk y.s y.o1
  k2 : SloOk y.s y.o2
  k3 : SloOk y.s y.o3
/-- a slot's word changed from outside -/
theorem MrOk.set {n L H : Nat} {S : List Item} {y : Mrs} (h : MrOk n L H S y) (hL : L ≤ 200) (hi : y.i < L) {k : Nat} (hk : k < n) :
    MrOk n L H S { y with i := y.i + 1, s := { y.s with m := y.s.m.put 9 4 (k + 1) (4 * (y.s.m.word (k + 1) / 4) + (y.s.m.word (k + 1) % 4 + 1) % 4) true } } := by
  have hl := h.len
  have hg := h.log
  have hwk := h.wds.wd k (by omega)
  have hw := h.wds.put 9 4 k (4 * (y.s.m.word (k + 1) / 4) + (y.s.m.word (k + 1) % 4 + 1) % 4) true (by omega) (by omega) (by omega)
  exact ⟨hi, h.nx, hw, hl, by show (y.s.m.log ++ [_]).length ≤ _; rw [List.length_append, List.length_singleton]; show _ ≤ 2420 + (y.i + 1); omega, h.shown.of hw rfl, h.idle, h.k0.mono rfl, h.k1.mono rfl, h.k2.mono rfl, h.k3.mono rfl⟩
/-- one that is made -/
theorem SloOk.new {s : Sto} (t h : Int) : SloOk s (some (⟨t, h, 0, 0, false, false⟩, 0)) := fun p hp => by
  cases hp
  exact ⟨⟨fun e => (by cases e), fun e => (by cases e)⟩, (by show (0 : Int) ≠ 2; decide), fun e => (by cases e)⟩
/-- what a step needs of the store, and leaves -/
theorem mr_step {n L H : Nat} {S : List Item} {y : Mrs} (h : MrOk n L H S y) (hL : L ≤ 200) (hi : y.i < L) {c : COp} {rw' : Int} (hc : SloOk y.s (some (c, rw'))) :
    Wds (cStep c y.s).2 967 ∧ (cStep c y.s).2.slots = y.s.slots ∧ (cStep c y.s).2.m.log.length ≤ 2420 + (y.i + 1) ∧ Shown (cStep c y.s).2 S ∧ (cStep c y.s).2.idle = y.s.idle ∧ SloOk (cStep c y.s).2 (sloN c rw' y.s) := by
  obtain ⟨a, b, d⟩ := hc _ rfl
  have hg := h.log
  obtain ⟨d1, d2, d3, d4, _, d6, _, _, _, _, d7⟩ := cStep_same c y.s
  have hw := h.wds.step a (by decide) (by omega)
  exact ⟨hw, d3, by omega, h.shown.of hw d6, d4, hc.step h.wds⟩
end Go.Proofs.YtcffiehcdadimaaGreat.Abs
