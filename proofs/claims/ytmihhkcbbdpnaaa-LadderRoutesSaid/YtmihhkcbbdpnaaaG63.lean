/- Scripts of law08: their data, the time of an insertion, the queue that a script makes. -/
import Derived.Test.YtmihhkcbbdpnaaaG62
namespace Go.Proofs.Ytmihhkcbbdpnaaa.Abs
open Go.Proofs
set_option maxRecDepth 10000
set_option linter.unusedSimpArgs false
set_option linter.unusedVariables false
theorem good_time {l : Lad} (h : l.Good) {x : Item} (hx : x ∈ l.items) : 0 ≤ x.time ∧ x.time ≤ 1152921504606846976 := by
  have hts := h.ts
  unfold Lad.items at hx
  rcases List.mem_append.1 hx with hx | hx
  · have := h.top x hx; omega
  rcases List.mem_append.1 hx with hx | hx
  · have := h.bot x hx
    have := bnd_le l.rungs l.topStart
    omega
  · unfold Lad.rest at hx
    obtain ⟨L, hL, hx⟩ := List.mem_flatten.1 hx
    obtain ⟨r, hr, rfl⟩ := List.mem_map.1 hL
    obtain ⟨b', k', g1, _⟩ := chain_mem h.chain r hr
    have := good_item g1 hx
    omega
structure Op8 where
  pop : Bool
  at' : Int
  near : Bool
def Op8.v (o : Op8) : V := .agg [V.bool o.pop, .c (.int .u64 o.at'), V.bool o.near]
def Op8.row (o : Op8) : List D := [.c (.bool o.pop), .c (.int .u64 o.at'), .c (.bool o.near)]
def ops8V (l : List Op8) : V := .lst 3 (l.map Op8.row) false
def Op8.Ok (o : Op8) : Prop := 0 ≤ o.at' ∧ o.at' ≤ 18446744073709551615
def timeO (o : Op8) (last : Int) : Int :=
  if o.near = true then (if 1152921504606846976 < last + o.at'.tmod 50 then 1152921504606846976 else last + o.at'.tmod 50) else o.at'.tmod 1152921504606846977
theorem timeO_ok {o : Op8} (h : o.Ok) {last : Int} (hl : 0 ≤ last ∧ last ≤ 1152921504606846976) : 0 ≤ timeO o last ∧ timeO o last ≤ 1152921504606846976 := by
  have h1 := h.1
  have k1 := Int.tmod_nonneg (b := 50) h1
  have k2 := Int.tmod_nonneg (b := 1152921504606846977) h1
  have k3 := tmod_bounds o.at' 50 (by omega)
  have k4 := tmod_bounds o.at' 1152921504606846977 (by omega)
  unfold timeO
  split
  · split <;> omega
  · omega
theorem timeC (o : Op8) (h : o.Ok) (last : Int) (hl : 0 ≤ last ∧ last ≤ 1152921504606846976) : PSpec Try.prog 50 [o.v, V.int last] (V.int (timeO o last)) := by
  have h1 := h.1
  have k1 := Int.tmod_nonneg (b := 50) h1
  have k2 := Int.tmod_nonneg (b := 1152921504606846977) h1
  have k3 := tmod_bounds o.at' 50 (by omega)
  have k4 := tmod_bounds o.at' 1152921504606846977 (by omega)
  obtain ⟨p, a, nr⟩ := o
  refine pspec tab_ok mix Try.func50 (by kernel_rfl) rfl rfl ?_
  dsimp only at *
  cases nr
  · ((conv => whnf); (repeat (first | ((first | refine z1 ?_ | refine z2 ?_ | refine z3 ?_ | refine idxB_at (by decide) rfl ?_ | refine atB_at (by decide) (by decide) ?_ | refine getB_lit _ rfl ?_ | refine z7 ?_); conv => whnf) | exact True.intro)))
    refine wrB (by dsimp only; omega) ?_
    ((conv => whnf); (repeat (first | ((first | refine z1 ?_ | refine z2 ?_ | refine z3 ?_ | refine idxB_at (by decide) rfl ?_ | refine atB_at (by decide) (by decide) ?_ | refine getB_lit _ rfl ?_ | refine z7 ?_); conv => whnf) | exact True.intro)))
    exact .same rfl
  · ((conv => whnf); (repeat (first | ((first | refine z1 ?_ | refine z2 ?_ | refine z3 ?_ | refine idxB_at (by decide) rfl ?_ | refine atB_at (by decide) (by decide) ?_ | refine getB_lit _ rfl ?_ | refine z7 ?_); conv => whnf) | exact True.intro)))
    refine wrB (by dsimp only; omega) ?_
    ((conv => whnf); (repeat (first | ((first | refine z1 ?_ | refine z2 ?_ | refine z3 ?_ | refine idxB_at (by decide) rfl ?_ | refine atB_at (by decide) (by decide) ?_ | refine getB_lit _ rfl ?_ | refine z7 ?_); conv => whnf) | exact True.intro)))
    refine wrB (by dsimp only; omega) ?_
    ((conv => whnf); (repeat (first | ((first | refine z1 ?_ | refine z2 ?_ | refine z3 ?_ | refine idxB_at (by decide) rfl ?_ | refine atB_at (by decide) (by decide) ?_ | refine getB_lit _ rfl ?_ | refine z7 ?_); conv => whnf) | exact True.intro)))
    exact .same rfl
/-- the queue, the next number and the last popped time -/
structure St8 where
  l : Lad
  seq : Int
  last : Int
def st0 : St8 := ⟨⟨0, [], [], [], 0, 0⟩, 0, 0⟩
def stIt (s : St8) (i : Nat) (o : Op8) : Item := ⟨timeO o s.last, s.seq, (i : Int).tmod 64⟩
def stStep (s : St8) (i : Nat) (o : Op8) : St8 :=
  if o.pop = true then ⟨(popG s.l).1, s.seq, if (popG s.l).2.2 = true then (popG s.l).2.1.time else s.last⟩
  else ⟨insLad s.l (stIt s i o), s.seq + 1, s.last⟩
def s8At (ops : List Op8) : Nat → St8
  | 0 => st0
  | i + 1 => match ops[i]? with
    | some o => stStep (s8At ops i) i o
    | none => s8At ops i
theorem s8At_next {ops : List Op8} {i : Nat} {o : Op8} (h : ops[i]? = some o) : s8At ops (i + 1) = stStep (s8At ops i) i o := by rw [s8At, h]
structure Inv8 (s : St8) (i : Nat) (S : List Item) : Prop where
  rel : Rel s.l S
  seqs : ∀ x ∈ S, 0 ≤ x.seq ∧ x.seq < s.seq
  seq : 0 ≤ s.seq ∧ s.seq ≤ i
  last : 0 ≤ s.last ∧ s.last ≤ 1152921504606846976
  len : (S.length : Int) ≤ s.seq
  cost : s.l.moves + s.l.pot ≤ 6 * s.seq
  mlow : s.seq ≤ s.l.moves
  comp : s.seq ≤ s.l.compares ∧ s.l.compares ≤ 5 * s.seq
theorem Inv8.sz {s : St8} {i : Nat} {S : List Item} (h : Inv8 s i S) (hi : i ≤ 1000) : s.l.Sz := by
  have h1 := h.rel.perm.length_eq
  have h2 := h.len
  have h3 := h.cost
  have h4 := h.comp
  have h5 := h.seq
  exact ⟨by omega, by omega, by omega⟩
theorem Inv8.uq {s : St8} {i : Nat} {S : List Item} (h : Inv8 s i S) (t sl : Int) : ∀ x ∈ S, Uq x ⟨t, s.seq, sl⟩ := fun x hx => by
  have := h.seqs x hx
  unfold Uq
  rw [Ne, cmpItem_zero]
  dsimp only; omega
theorem inv8_zero : Inv8 st0 0 [] :=
  ⟨⟨⟨⟨by decide, by decide⟩, fun x hx => by simp [st0] at hx, trivial, by decide, fun x hx => by simp [st0] at hx, .nil, .nil, ⟨by decide, by decide⟩⟩, .nil, .nil⟩, fun x hx => by simp at hx, by decide, by decide, by decide, by decide, by decide, by decide⟩
theorem insI_mem8 {S : List Item} {it x : Item} : x ∈ insI S it ↔ x = it ∨ x ∈ S := by
  rw [(insI_perm S it).mem_iff]; simp
/-- a step of a script, seen as a step of a sorted list -/
theorem inv8_step {s : St8} {i : Nat} {S : List Item} (h : Inv8 s i S) (hi : i ≤ 1000) {o : Op8} (ho : o.Ok) :
    (o.pop = false ∧ Inv8 (stStep s i o) (i + 1) (insI S (stIt s i o))) ∨
    (o.pop = true ∧ S = [] ∧ (popG s.l).2.2 = false ∧ Inv8 (stStep s i o) (i + 1) []) ∨
    ∃ x T, o.pop = true ∧ S = x :: T ∧ (popG s.l).2.2 = true ∧ (popG s.l).2.1 = x ∧ Inv8 (stStep s i o) (i + 1) T := by
  have hs := h.sz hi
  have ht := timeO_ok ho h.last
  have hseq := h.seq
  have hlen := h.len
  have hcost := h.cost
  have hcomp := h.comp
  have hmlow := h.mlow
  cases hp : o.pop with
  | false =>
    refine .inl ⟨rfl, ?_⟩
    obtain ⟨r1, r2, _⟩ := rel_ins h.rel (it := stIt s i o) ht (h.uq _ _)
    have m1 := r2.moves
    have m2 := r2.pot
    have m3 := r2.comp
    unfold stStep
    rw [hp, if_neg (by simp)]
    refine ⟨r1, fun x hx => ?_, by dsimp only; omega, h.last, by have := (insI_perm S (stIt s i o)).length_eq; rw [List.length_cons] at this; dsimp only; omega, by dsimp only; omega, by dsimp only; omega, by dsimp only; omega⟩
    rcases insI_mem8.1 hx with rfl | hx
    · show 0 ≤ s.seq ∧ s.seq < s.seq + 1; omega
    · have := h.seqs x hx; dsimp only; omega
  | true =>
    obtain ⟨c1, c2, c3, c4⟩ := popG_cost h.rel.good hs
    rcases rel_pop h.rel hs with ⟨rfl, e1, _, e3⟩ | ⟨x, T, rfl, e1, _, _, e3⟩
    · refine .inr (.inl ⟨rfl, rfl, by rw [e1], ?_⟩)
      unfold stStep
      rw [hp, if_pos rfl]
      exact ⟨e3, fun x hx => by simp at hx, by dsimp only; omega, by rw [e1]; exact h.last, by dsimp only; simp; omega, by dsimp only; omega, by dsimp only; omega, by dsimp only; omega⟩
    · have e2 : (popG s.l).2.1 = x := by rw [e1]
      have e4 : (popG s.l).2.2 = true := by rw [e1]
      refine .inr (.inr ⟨x, T, rfl, rfl, e4, e2, ?_⟩)
      unfold stStep
      rw [hp, if_pos rfl]
      have hx := h.rel.good
      refine ⟨e3, fun y hy => h.seqs y (List.mem_cons_of_mem _ hy), by dsimp only; omega, ?_, by rw [List.length_cons] at hlen; dsimp only; omega, by dsimp only; omega, by dsimp only; omega, by dsimp only; omega⟩
      dsimp only
      rw [e4, if_pos rfl, e2]
      exact good_time h.rel.good (h.rel.perm.mem_iff.1 (List.mem_cons_self))
theorem inv8_all {ops : List Op8} (ho : ∀ o ∈ ops, o.Ok) : ∀ i, i ≤ ops.length → i ≤ 1000 → ∃ S, Inv8 (s8At ops i) i S
  | 0, _, _ => ⟨[], inv8_zero⟩
  | i + 1, hi, hm => by
    obtain ⟨S, h⟩ := inv8_all ho i (by omega) (by omega)
    obtain ⟨o, hx⟩ := get_lt (show i < ops.length by omega)
    rw [s8At_next hx]
    rcases inv8_step h (by omega) (ho o (List.mem_of_getElem? hx)) with ⟨_, h⟩ | ⟨_, _, _, h⟩ | ⟨_, T, _, _, _, _, h⟩
    · exact ⟨_, h⟩
    · exact ⟨_, h⟩
    · exact ⟨_, h⟩
end Go.Proofs.Ytmihhkcbbdpnaaa.Abs
