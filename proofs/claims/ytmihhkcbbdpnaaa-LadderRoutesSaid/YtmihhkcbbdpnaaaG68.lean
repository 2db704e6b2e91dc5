/- Laws of ladders as contracts: how much they move. -/
import Derived.Test.YtmihhkcbbdpnaaaG65
namespace Go.Proofs.Ytmihhkcbbdpnaaa.Abs
open Go.Proofs
set_option maxRecDepth 10000
set_option linter.unusedSimpArgs false
set_option linter.unusedVariables false
theorem pot_le : ∀ (rs : List Rng) (k : Nat), pot k rs ≤ 4 * (rs.map Rng.items).flatten.length
  | [], k => by simp [pot]
  | r :: rs, k => by
    have ih := pot_le rs (k + 1)
    rw [pot, List.map_cons, List.flatten_cons, List.length_append]
    have : (4 - k) * r.items.length ≤ 4 * r.items.length := Nat.mul_le_mul_right _ (by omega)
    omega
theorem lpot_le (l : Lad) : l.pot ≤ 5 * l.items.length := by
  have := pot_le l.rungs 0
  unfold Lad.pot Lad.items Lad.rest
  simp only [List.length_append]
  omega
/-- the queue, the number of insertions and the last popped time -/
structure St9 where
  l : Lad
  n : Nat
  last : Int
def it9 (s : St9) (i : Nat) (o : Op8) : Item := ⟨timeO o s.last, i, 0⟩
def step9 (s : St9) (i : Nat) (o : Op8) : St9 :=
  if o.pop = true then ⟨(popG s.l).1, s.n, if (popG s.l).2.2 = true then (popG s.l).2.1.time else s.last⟩
  else ⟨insLad s.l (it9 s i o), s.n + 1, s.last⟩
def s9At (ops : List Op8) : Nat → St9
  | 0 => ⟨⟨0, [], [], [], 0, 0⟩, 0, 0⟩
  | i + 1 => match ops[i]? with
    | some o => step9 (s9At ops i) i o
    | none => s9At ops i
theorem s9At_next {ops : List Op8} {i : Nat} {o : Op8} (h : ops[i]? = some o) : s9At ops (i + 1) = step9 (s9At ops i) i o := by rw [s9At, h]
structure Inv9 (s : St9) (i : Nat) (S : List Item) : Prop where
  inv : InvL s.l S i s.n
  n : s.n ≤ i
  last : 0 ≤ s.last ∧ s.last ≤ 1152921504606846976
theorem inv9_step {s : St9} {i : Nat} {S : List Item} (h : Inv9 s i S) (hi : i ≤ 1000) {o : Op8} (ho : o.Ok) :
    (o.pop = false ∧ step9 s i o = ⟨insLad s.l (it9 s i o), s.n + 1, s.last⟩ ∧ Inv9 (step9 s i o) (i + 1) (insI S (it9 s i o))) ∨
    (o.pop = true ∧ S = [] ∧ (popG s.l).2.2 = false ∧ step9 s i o = ⟨(popG s.l).1, s.n, s.last⟩ ∧ Inv9 (step9 s i o) (i + 1) []) ∨
    ∃ x T, o.pop = true ∧ S = x :: T ∧ popG s.l = ((popG s.l).1, x, true) ∧ step9 s i o = ⟨(popG s.l).1, s.n, x.time⟩ ∧ Inv9 (step9 s i o) (i + 1) T := by
  have hn := h.n
  cases hp : o.pop with
  | false =>
    have e : step9 s i o = ⟨insLad s.l (it9 s i o), s.n + 1, s.last⟩ := by unfold step9; rw [hp, if_neg (by simp)]
    refine .inl ⟨rfl, e, ?_⟩
    rw [e]
    exact ⟨(h.inv.ins (it := it9 s i o) (timeO_ok ho h.last) (Int.natCast_nonneg i) (Int.le_refl _)).mono (by show (i : Int) + 1 ≤ ((i + 1 : Nat) : Int); omega), by dsimp only; omega, h.last⟩
  | true =>
    rcases h.inv.pop (by omega) with ⟨rfl, e1, e3⟩ | ⟨x, T, rfl, e1, e3⟩
    · have e2 : (popG s.l).2.2 = false := by rw [e1]
      have e : step9 s i o = ⟨(popG s.l).1, s.n, s.last⟩ := by unfold step9; rw [hp, if_pos rfl, e2]; simp
      refine .inr (.inl ⟨rfl, rfl, e2, e, ?_⟩)
      rw [e]
      exact ⟨e3.mono (by show (i : Int) ≤ ((i + 1 : Nat) : Int); omega), by dsimp only; omega, h.last⟩
    · have e2 : (popG s.l).2 = (x, true) := by rw [e1]
      have e : step9 s i o = ⟨(popG s.l).1, s.n, x.time⟩ := by unfold step9; rw [hp, if_pos rfl, e2]; simp
      refine .inr (.inr ⟨x, T, rfl, rfl, e1, e, ?_⟩)
      rw [e]
      exact ⟨e3.mono (by show (i : Int) ≤ ((i + 1 : Nat) : Int); omega), by dsimp only; omega, good_time h.inv.rel.good (h.inv.rel.perm.mem_iff.1 List.mem_cons_self)⟩
theorem inv9_all {ops : List Op8} (ho : ∀ o ∈ ops, o.Ok) : ∀ i, i ≤ ops.length → i ≤ 1000 → ∃ S, Inv9 (s9At ops i) i S
  | 0, _, _ => ⟨[], invL_zero, Nat.le_refl 0, (show (0 : Int) ≤ 0 ∧ (0 : Int) ≤ 1152921504606846976 by decide)⟩
  | i + 1, hi, hm => by
    obtain ⟨S, h⟩ := inv9_all ho i (by omega) (by omega)
    obtain ⟨o, hx⟩ := get_lt (show i < ops.length by omega)
    rw [s9At_next hx]
    rcases inv9_step h (by omega) (ho o (List.mem_of_getElem? hx)) with ⟨_, _, h⟩ | ⟨_, _, _, _, h⟩ | ⟨_, T, _, _, _, _, h⟩
    · exact ⟨_, h⟩
    · exact ⟨_, h⟩
    · exact ⟨_, h⟩
set_option maxHeartbeats 4000000 in
theorem lMoves (ops : List Op8) (ho : ∀ o ∈ ops, o.Ok) : PSpec Try.prog 18 [ops8V ops] (V.bool true) := by
  have h0 : s9At ops 0 = ⟨⟨0, [], [], [], 0, 0⟩, 0, 0⟩ := rfl
  refine pspec tab_ok mix Try.func18 (by kernel_rfl) rfl rfl ?_
  ((conv => whnf); (repeat (first | ((first | refine z1 ?_ | refine z2 ?_ | refine z3 ?_ | refine idxB_at (by decide) rfl ?_ | refine atB_at (by decide) (by decide) ?_ | refine getB_lit _ rfl ?_ | refine z7 ?_); conv => whnf) | exact True.intro)))
  refine callB headC8 ?_
  ((conv => whnf); (repeat (first | ((first | refine z1 ?_ | refine z2 ?_ | refine z3 ?_ | refine idxB_at (by decide) rfl ?_ | refine atB_at (by decide) (by decide) ?_ | refine getB_lit _ rfl ?_ | refine z7 ?_); conv => whnf) | exact True.intro)))
  refine br_dec (fun g => ?_) (fun g => ?_) <;> ((conv => whnf); (repeat (first | ((first | refine z1 ?_ | refine z2 ?_ | refine z3 ?_ | refine idxB_at (by decide) rfl ?_ | refine atB_at (by decide) (by decide) ?_ | refine getB_lit _ rfl ?_ | refine z7 ?_); conv => whnf) | exact True.intro)))
  · exact .same rfl
  have hl : ops.length ≤ 150 := by simp at g; omega
  refine callB newLadC ?_
  ((conv => whnf); (repeat (first | ((first | refine z1 ?_ | refine z2 ?_ | refine z3 ?_ | refine idxB_at (by decide) rfl ?_ | refine atB_at (by decide) (by decide) ?_ | refine getB_lit _ rfl ?_ | refine z7 ?_); conv => whnf) | exact True.intro)))
  refine loopB tab_ok mix [0, 3] [] (fun i : Nat => [(4, .p 1 6 0 0), (5, V.int (s9At ops i).n), (6, V.int (s9At ops i).last), (7, V.int i)]) (fun i => [(1, ladB (s9At ops i).l)]) (fun i => i ≤ ops.length) (fun i => ops.length - i) [(1, 448)] 0 rfl (by omega) (by rw [h0]; ((conv => whnf); (repeat (first | ((first | refine z1 ?_ | refine z2 ?_ | refine z3 ?_ | refine idxB_at (by decide) rfl ?_ | refine atB_at (by decide) (by decide) ?_ | refine getB_lit _ rfl ?_ | refine z7 ?_); conv => whnf) | exact True.intro)))) ?_
  rintro i hi
  obtain ⟨S, hI⟩ := inv9_all ho i hi (by omega)
  have hL := hI.inv
  have hn := hI.n
  ((conv => whnf); (repeat (first | ((first | refine z1 ?_ | refine z2 ?_ | refine z3 ?_ | refine idxB_at (by decide) rfl ?_ | refine atB_at (by decide) (by decide) ?_ | refine getB_lit _ rfl ?_ | refine z7 ?_); conv => whnf) | exact True.intro)))
  refine br_dec (fun u => ?_) (fun u => ?_) <;> ((conv => whnf); (repeat (first | ((first | refine z1 ?_ | refine z2 ?_ | refine z3 ?_ | refine idxB_at (by decide) rfl ?_ | refine atB_at (by decide) (by decide) ?_ | refine getB_lit _ rfl ?_ | refine z7 ?_); conv => whnf) | exact True.intro)))
  · have u' : i < ops.length := by simpa using u
    obtain ⟨o, hx⟩ := get_lt u'
    have hok := ho o (List.mem_of_getElem? hx)
    have hnext := s9At_next hx
    have hstep := inv9_step hI (by omega) hok
    refine idxB hx ?_
    ((conv => whnf); (repeat (first | ((first | refine z1 ?_ | refine z2 ?_ | refine z3 ?_ | refine idxB_at (by decide) rfl ?_ | refine atB_at (by decide) (by decide) ?_ | refine getB_lit _ rfl ?_ | refine z7 ?_); conv => whnf) | exact True.intro)))
    have hsz := hL.sz (by omega)
    obtain ⟨c1, c2, c3, c4⟩ := popG_cost hL.rel.good hsz
    have hpl := lpot_le (s9At ops i).l
    have hlen := hL.rel.perm.length_eq
    have hsl := hL.len
    have hcst := hL.cost
    have hml := hL.mlow
    rcases hstep with ⟨hp, e, hv⟩ | ⟨hp, hS, e1, e, hv⟩ | ⟨x, T, hp, hS, e1, e, hv⟩
    · rw [hp]
      ((conv => whnf); (repeat (first | ((first | refine z1 ?_ | refine z2 ?_ | refine z3 ?_ | refine idxB_at (by decide) rfl ?_ | refine atB_at (by decide) (by decide) ?_ | refine getB_lit _ rfl ?_ | refine z7 ?_); conv => whnf) | exact True.intro)))
      refine idxB hx ?_
      ((conv => whnf); (repeat (first | ((first | refine z1 ?_ | refine z2 ?_ | refine z3 ?_ | refine idxB_at (by decide) rfl ?_ | refine atB_at (by decide) (by decide) ?_ | refine getB_lit _ rfl ?_ | refine z7 ?_); conv => whnf) | exact True.intro)))
      refine dcallB (timeC o hok (s9At ops i).last hI.last) ?_
      ((conv => whnf); (repeat (first | ((first | refine z1 ?_ | refine z2 ?_ | refine z3 ?_ | refine idxB_at (by decide) rfl ?_ | refine atB_at (by decide) (by decide) ?_ | refine getB_lit _ rfl ?_ | refine z7 ?_); conv => whnf) | exact True.intro)))
      refine dcallB (insertC8 hL (by omega) (it := it9 (s9At ops i) i o) (timeO_ok hok hI.last) (Int.le_refl _)) ?_
      ((conv => whnf); (repeat (first | ((first | refine z1 ?_ | refine z2 ?_ | refine z3 ?_ | refine idxB_at (by decide) rfl ?_ | refine atB_at (by decide) (by decide) ?_ | refine getB_lit _ rfl ?_ | refine z7 ?_); conv => whnf) | exact True.intro)))
      refine .mk [] (i + 1) (by omega) (by omega) ?_
      rw [hnext, e]
      ((conv => whnf); (repeat (first | ((first | refine z1 ?_ | refine z2 ?_ | refine z3 ?_ | refine idxB_at (by decide) rfl ?_ | refine atB_at (by decide) (by decide) ?_ | refine getB_lit _ rfl ?_ | refine z7 ?_); conv => whnf) | exact True.intro)))
    · rw [hp]
      ((conv => whnf); (repeat (first | ((first | refine z1 ?_ | refine z2 ?_ | refine z3 ?_ | refine idxB_at (by decide) rfl ?_ | refine atB_at (by decide) (by decide) ?_ | refine getB_lit _ rfl ?_ | refine z7 ?_); conv => whnf) | exact True.intro)))
      refine callB (popC8 hL (by omega)) ?_
      ((conv => whnf); (repeat (first | ((first | refine z1 ?_ | refine z2 ?_ | refine z3 ?_ | refine idxB_at (by decide) rfl ?_ | refine atB_at (by decide) (by decide) ?_ | refine getB_lit _ rfl ?_ | refine z7 ?_); conv => whnf) | exact True.intro)))
      rw [show decide ((popG (s9At ops i).l).1.moves < (s9At ops i).l.moves) = false from decide_eq_false (by omega)]
      ((conv => whnf); (repeat (first | ((first | refine z1 ?_ | refine z2 ?_ | refine z3 ?_ | refine idxB_at (by decide) rfl ?_ | refine atB_at (by decide) (by decide) ?_ | refine getB_lit _ rfl ?_ | refine z7 ?_); conv => whnf) | exact True.intro)))
      refine dcallB (lenC8 hL (by omega)) ?_
      ((conv => whnf); (repeat (first | ((first | refine z1 ?_ | refine z2 ?_ | refine z3 ?_ | refine idxB_at (by decide) rfl ?_ | refine atB_at (by decide) (by decide) ?_ | refine getB_lit _ rfl ?_ | refine z7 ?_); conv => whnf) | exact True.intro)))
      rw [show decide (5 * (S.length : Int) < (popG (s9At ops i).l).1.moves - (s9At ops i).l.moves) = false from decide_eq_false (by omega)]
      ((conv => whnf); (repeat (first | ((first | refine z1 ?_ | refine z2 ?_ | refine z3 ?_ | refine idxB_at (by decide) rfl ?_ | refine atB_at (by decide) (by decide) ?_ | refine getB_lit _ rfl ?_ | refine z7 ?_); conv => whnf) | exact True.intro)))
      rw [show (!decide ((popG (s9At ops i).l).1.compares = (s9At ops i).l.compares)) = false from by rw [c3]; simp]
      ((conv => whnf); (repeat (first | ((first | refine z1 ?_ | refine z2 ?_ | refine z3 ?_ | refine idxB_at (by decide) rfl ?_ | refine atB_at (by decide) (by decide) ?_ | refine getB_lit _ rfl ?_ | refine z7 ?_); conv => whnf) | exact True.intro)))
      rw [e1]
      ((conv => whnf); (repeat (first | ((first | refine z1 ?_ | refine z2 ?_ | refine z3 ?_ | refine idxB_at (by decide) rfl ?_ | refine atB_at (by decide) (by decide) ?_ | refine getB_lit _ rfl ?_ | refine z7 ?_); conv => whnf) | exact True.intro)))
      refine .mk [] (i + 1) (by omega) (by omega) ?_
      rw [hnext, e]
      ((conv => whnf); (repeat (first | ((first | refine z1 ?_ | refine z2 ?_ | refine z3 ?_ | refine idxB_at (by decide) rfl ?_ | refine atB_at (by decide) (by decide) ?_ | refine getB_lit _ rfl ?_ | refine z7 ?_); conv => whnf) | exact True.intro)))
    · rw [hp]
      ((conv => whnf); (repeat (first | ((first | refine z1 ?_ | refine z2 ?_ | refine z3 ?_ | refine idxB_at (by decide) rfl ?_ | refine atB_at (by decide) (by decide) ?_ | refine getB_lit _ rfl ?_ | refine z7 ?_); conv => whnf) | exact True.intro)))
      refine callB (popC8 hL (by omega)) ?_
      ((conv => whnf); (repeat (first | ((first | refine z1 ?_ | refine z2 ?_ | refine z3 ?_ | refine idxB_at (by decide) rfl ?_ | refine atB_at (by decide) (by decide) ?_ | refine getB_lit _ rfl ?_ | refine z7 ?_); conv => whnf) | exact True.intro)))
      rw [show decide ((popG (s9At ops i).l).1.moves < (s9At ops i).l.moves) = false from decide_eq_false (by omega)]
      ((conv => whnf); (repeat (first | ((first | refine z1 ?_ | refine z2 ?_ | refine z3 ?_ | refine idxB_at (by decide) rfl ?_ | refine atB_at (by decide) (by decide) ?_ | refine getB_lit _ rfl ?_ | refine z7 ?_); conv => whnf) | exact True.intro)))
      refine dcallB (lenC8 hL (by omega)) ?_
      ((conv => whnf); (repeat (first | ((first | refine z1 ?_ | refine z2 ?_ | refine z3 ?_ | refine idxB_at (by decide) rfl ?_ | refine atB_at (by decide) (by decide) ?_ | refine getB_lit _ rfl ?_ | refine z7 ?_); conv => whnf) | exact True.intro)))
      rw [show decide (5 * (S.length : Int) < (popG (s9At ops i).l).1.moves - (s9At ops i).l.moves) = false from decide_eq_false (by omega)]
      ((conv => whnf); (repeat (first | ((first | refine z1 ?_ | refine z2 ?_ | refine z3 ?_ | refine idxB_at (by decide) rfl ?_ | refine atB_at (by decide) (by decide) ?_ | refine getB_lit _ rfl ?_ | refine z7 ?_); conv => whnf) | exact True.intro)))
      rw [show (!decide ((popG (s9At ops i).l).1.compares = (s9At ops i).l.compares)) = false from by rw [c3]; simp]
      ((conv => whnf); (repeat (first | ((first | refine z1 ?_ | refine z2 ?_ | refine z3 ?_ | refine idxB_at (by decide) rfl ?_ | refine atB_at (by decide) (by decide) ?_ | refine getB_lit _ rfl ?_ | refine z7 ?_); conv => whnf) | exact True.intro)))
      have e2 : (popG (s9At ops i).l).2.2 = true := by rw [e1]
      have e3 : (popG (s9At ops i).l).2.1 = x := by rw [e1]
      rw [e2]
      ((conv => whnf); (repeat (first | ((first | refine z1 ?_ | refine z2 ?_ | refine z3 ?_ | refine idxB_at (by decide) rfl ?_ | refine atB_at (by decide) (by decide) ?_ | refine getB_lit _ rfl ?_ | refine z7 ?_); conv => whnf) | exact True.intro)))
      refine .mk [] (i + 1) (by omega) (by omega) ?_
      rw [hnext, e, e3]
      ((conv => whnf); (repeat (first | ((first | refine z1 ?_ | refine z2 ?_ | refine z3 ?_ | refine idxB_at (by decide) rfl ?_ | refine atB_at (by decide) (by decide) ?_ | refine getB_lit _ rfl ?_ | refine z7 ?_); conv => whnf) | exact True.intro)))
  · have e : i = ops.length := by simp at u; omega
    subst e
    have hcp := hL.comp
    rw [show decide (((s9At ops ops.length).n : Int) ≤ (s9At ops ops.length).l.moves) = true from decide_eq_true (by have := hL.mlow; omega)]
    ((conv => whnf); (repeat (first | ((first | refine z1 ?_ | refine z2 ?_ | refine z3 ?_ | refine idxB_at (by decide) rfl ?_ | refine atB_at (by decide) (by decide) ?_ | refine getB_lit _ rfl ?_ | refine z7 ?_); conv => whnf) | exact True.intro)))
    rw [show decide ((s9At ops ops.length).l.moves ≤ 6 * ((s9At ops ops.length).n : Int)) = true from decide_eq_true (by have := hL.cost; omega)]
    ((conv => whnf); (repeat (first | ((first | refine z1 ?_ | refine z2 ?_ | refine z3 ?_ | refine idxB_at (by decide) rfl ?_ | refine atB_at (by decide) (by decide) ?_ | refine getB_lit _ rfl ?_ | refine z7 ?_); conv => whnf) | exact True.intro)))
    rw [show decide (((s9At ops ops.length).n : Int) ≤ (s9At ops ops.length).l.compares) = true from decide_eq_true (by omega)]
    ((conv => whnf); (repeat (first | ((first | refine z1 ?_ | refine z2 ?_ | refine z3 ?_ | refine idxB_at (by decide) rfl ?_ | refine atB_at (by decide) (by decide) ?_ | refine getB_lit _ rfl ?_ | refine z7 ?_); conv => whnf) | exact True.intro)))
    exact .same (congrArg (fun b => V.c (.bool b)) (decide_eq_true (by omega)))
end Go.Proofs.Ytmihhkcbbdpnaaa.Abs
