/- Valid models: what both functions say. -/
import Derived.Test.YtmihhkcbbdpnaaaF10
namespace Go.Proofs.Ytmihhkcbbdpnaaa.Abs
open Go.Proofs
set_option maxRecDepth 10000
set_option linter.unusedSimpArgs false
set_option linter.unusedVariables false

structure EntOk (m : Mod) (e : Ent) : Prop where
  t0 : 0 ≤ e.time
  t1 : e.time ≤ 1152921504606846976
  s0 : 0 ≤ e.seq
  s1 : e.seq < m.next
  h : e.handle ∈ m.iss
def leE (x y : Ent) : Prop := ¬ cmpEnt y x < 0
structure Mod.Ok (m : Mod) : Prop where
  c0 : 1 ≤ m.cap
  c1 : m.cap ≤ 64
  len : (m.ents.length : Int) ≤ m.cap
  next : m.next = m.iss.length
  ent : ∀ e ∈ m.ents, EntOk m e
  iss : ∀ h ∈ m.iss, handOk h
  seqs : (m.ents.map Ent.seq).Nodup
  hands : (m.ents.map Ent.handle).Nodup
  issN : m.iss.Nodup
  sorted : sortedE m.ents = true
theorem leE_iff (x y : Ent) : leE x y ↔ x.time < y.time ∨ (x.time = y.time ∧ x.seq ≤ y.seq) := by
  unfold leE cmpEnt or2 cmpI
  repeat' split
  all_goals omega
theorem leE_trans {x y z : Ent} (h : leE x y) (g : leE y z) : leE x z := by
  rw [leE_iff] at *; omega
theorem pair_of_adj {α : Type} {R : α → α → Prop} (tr : ∀ a b c, R a b → R b c → R a c) : ∀ {l : List α}, (∀ (i : Nat) (x y : α), l[i]? = some x → l[i + 1]? = some y → R x y) → l.Pairwise R
  | [], _ => .nil
  | a :: l, h => by
    refine List.pairwise_cons.2 ⟨?_, pair_of_adj tr fun i x y h1 h2 => h (i + 1) x y (by simpa using h1) (by simpa using h2)⟩
    have key : ∀ (j : Nat) (y : α), l[j]? = some y → R a y := by
      intro j
      induction j with
      | zero => intro y hy; exact h 0 a y rfl (by simpa using hy)
      | succ j ih =>
        intro y hy
        have hj := (List.getElem?_eq_some_iff.1 hy).1
        obtain ⟨x, hx⟩ := get_lt (show j < l.length by omega)
        exact tr a x y (ih x hx) (h (j + 1) x y (by simpa using hx) (by simpa using hy))
    intro y hy
    obtain ⟨j, hj⟩ := List.getElem?_of_mem hy
    exact key j y hj
theorem sortedE_pair {l : List Ent} : sortedE l = true ↔ l.Pairwise leE := by
  rw [sortedE_iff]
  constructor
  · intro h; exact pair_of_adj (R := leE) (l := l) (fun a b c h g => leE_trans h g) h
  · intro h i x y hx hy
    rw [List.pairwise_iff_getElem] at h
    obtain ⟨h1, rfl⟩ := List.getElem?_eq_some_iff.1 hx
    obtain ⟨h2, rfl⟩ := List.getElem?_eq_some_iff.1 hy
    exact h i (i + 1) h1 h2 (by omega)
noncomputable def okM (m : Mod) : Bool := @decide m.Ok (Classical.propDecidable _)
theorem okM_iff (m : Mod) : okM m = true ↔ m.Ok := by unfold okM; exact @decide_eq_true_iff _ (Classical.propDecidable _)
theorem okM_no {m : Mod} (h : ¬ m.Ok) : okM m = false := Bool.eq_false_iff.2 fun g => h ((okM_iff m).1 g)
theorem okM_yes {m : Mod} (h : m.Ok) : okM m = true := (okM_iff m).2 h
theorem validC (m : Mod) (l1 : m.ents.length < 1000000) (l2 : m.iss.length < 1000000) : PSpec Try.prog 22 [m.v] (V.bool (okM m)) := by
  refine pspec tab_ok mix Try.func22 (by kernel_rfl) rfl rfl ?_
  ((conv => whnf); (repeat (first | ((first | refine z1 ?_ | refine z2 ?_ | refine z3 ?_ | refine idxB_at (by decide) rfl ?_ | refine atB_at (by decide) (by decide) ?_ | refine getB_lit _ rfl ?_ | refine z7 ?_); conv => whnf) | trivial)))
  refine br_dec (fun g => ?_) (fun g1 => ?_) <;> ((conv => whnf); (repeat (first | ((first | refine z1 ?_ | refine z2 ?_ | refine z3 ?_ | refine idxB_at (by decide) rfl ?_ | refine atB_at (by decide) (by decide) ?_ | refine getB_lit _ rfl ?_ | refine z7 ?_); conv => whnf) | trivial)))
  · exact .same (by rw [okM_no fun h => by have := h.c0; omega])
  refine br_dec (fun g => ?_) (fun g2 => ?_) <;> ((conv => whnf); (repeat (first | ((first | refine z1 ?_ | refine z2 ?_ | refine z3 ?_ | refine idxB_at (by decide) rfl ?_ | refine atB_at (by decide) (by decide) ?_ | refine getB_lit _ rfl ?_ | refine z7 ?_); conv => whnf) | trivial)))
  · exact .same (by rw [okM_no fun h => by have := h.c1; omega])
  refine br_dec (fun g => ?_) (fun g3 => ?_) <;> ((conv => whnf); (repeat (first | ((first | refine z1 ?_ | refine z2 ?_ | refine z3 ?_ | refine idxB_at (by decide) rfl ?_ | refine atB_at (by decide) (by decide) ?_ | refine getB_lit _ rfl ?_ | refine z7 ?_); conv => whnf) | trivial)))
  · exact .same (by rw [okM_no fun h => by have := h.len; simp at g; omega])
  refine br_ndec (fun g => ?_) (fun g4 => ?_) <;> ((conv => whnf); (repeat (first | ((first | refine z1 ?_ | refine z2 ?_ | refine z3 ?_ | refine idxB_at (by decide) rfl ?_ | refine atB_at (by decide) (by decide) ?_ | refine getB_lit _ rfl ?_ | refine z7 ?_); conv => whnf) | trivial)))
  · exact .same (by rw [okM_no fun h => by have := h.next; simp at g; omega])
  have g3 : (m.ents.length : Int) ≤ m.cap := by simp at g3; omega
  have g4 : m.next = m.iss.length := by simp at g4; omega
  refine loopB tab_ok mix [1, 33, 34] [0] (fun i : Nat => [(35, V.int i)]) (fun i => []) (fun i => i ≤ m.ents.length ∧ ∀ e ∈ m.ents.take i, EntOk m e) (fun i => m.ents.length - i) [] 0 rfl ⟨by omega, by simp⟩ (by ((conv => whnf); (repeat (first | ((first | refine z1 ?_ | refine z2 ?_ | refine z3 ?_ | refine idxB_at (by decide) rfl ?_ | refine atB_at (by decide) (by decide) ?_ | refine getB_lit _ rfl ?_ | refine z7 ?_); conv => whnf) | trivial)))) ?_
  rintro i ⟨h1, h2⟩
  ((conv => whnf); (repeat (first | ((first | refine z1 ?_ | refine z2 ?_ | refine z3 ?_ | refine idxB_at (by decide) rfl ?_ | refine atB_at (by decide) (by decide) ?_ | refine getB_lit _ rfl ?_ | refine z7 ?_); conv => whnf) | trivial)))
  refine br_dec (fun g => ?_) (fun g => ?_) <;> ((conv => whnf); (repeat (first | ((first | refine z1 ?_ | refine z2 ?_ | refine z3 ?_ | refine idxB_at (by decide) rfl ?_ | refine atB_at (by decide) (by decide) ?_ | refine getB_lit _ rfl ?_ | refine z7 ?_); conv => whnf) | trivial)))
  · simp at g
    obtain ⟨x, hx⟩ := get_lt g
    have hxm := List.mem_of_getElem? hx
    refine idxB hx ?_
    ((conv => whnf); (repeat (first | ((first | refine z1 ?_ | refine z2 ?_ | refine z3 ?_ | refine idxB_at (by decide) rfl ?_ | refine atB_at (by decide) (by decide) ?_ | refine getB_lit _ rfl ?_ | refine z7 ?_); conv => whnf) | trivial)))
    refine br_dec (fun k => ?_) (fun k1 => ?_) <;> ((conv => whnf); (repeat (first | ((first | refine z1 ?_ | refine z2 ?_ | refine z3 ?_ | refine idxB_at (by decide) rfl ?_ | refine atB_at (by decide) (by decide) ?_ | refine getB_lit _ rfl ?_ | refine z7 ?_); conv => whnf) | trivial)))
    · exact .same (by rw [okM_no fun h => by have := (h.ent x hxm).t0; omega])
    refine br_dec (fun k => ?_) (fun k2 => ?_) <;> ((conv => whnf); (repeat (first | ((first | refine z1 ?_ | refine z2 ?_ | refine z3 ?_ | refine idxB_at (by decide) rfl ?_ | refine atB_at (by decide) (by decide) ?_ | refine getB_lit _ rfl ?_ | refine z7 ?_); conv => whnf) | trivial)))
    · exact .same (by rw [okM_no fun h => by have := (h.ent x hxm).t1; omega])
    refine br_dec (fun k => ?_) (fun k3 => ?_) <;> ((conv => whnf); (repeat (first | ((first | refine z1 ?_ | refine z2 ?_ | refine z3 ?_ | refine idxB_at (by decide) rfl ?_ | refine atB_at (by decide) (by decide) ?_ | refine getB_lit _ rfl ?_ | refine z7 ?_); conv => whnf) | trivial)))
    · exact .same (by rw [okM_no fun h => by have := (h.ent x hxm).s0; omega])
    refine br_dec (fun k => ?_) (fun k4 => ?_) <;> ((conv => whnf); (repeat (first | ((first | refine z1 ?_ | refine z2 ?_ | refine z3 ?_ | refine idxB_at (by decide) rfl ?_ | refine atB_at (by decide) (by decide) ?_ | refine getB_lit _ rfl ?_ | refine z7 ?_); conv => whnf) | trivial)))
    · exact .same (by rw [okM_no fun h => by have := (h.ent x hxm).s1; omega])
    refine callB (containsC m.iss x.handle (by omega)) ?_
    ((conv => whnf); (repeat (first | ((first | refine z1 ?_ | refine z2 ?_ | refine z3 ?_ | refine idxB_at (by decide) rfl ?_ | refine atB_at (by decide) (by decide) ?_ | refine getB_lit _ rfl ?_ | refine z7 ?_); conv => whnf) | trivial)))
    refine br_dec (fun k5 => ?_) (fun k => ?_) <;> ((conv => whnf); (repeat (first | ((first | refine z1 ?_ | refine z2 ?_ | refine z3 ?_ | refine idxB_at (by decide) rfl ?_ | refine atB_at (by decide) (by decide) ?_ | refine getB_lit _ rfl ?_ | refine z7 ?_); conv => whnf) | trivial)))
    · refine .mk [] (i + 1) ⟨by omega, ?_⟩ (by omega) ?_
      · rw [List.take_add_one, hx]
        intro y hy
        rcases List.mem_append.1 hy with hy | hy
        · exact h2 y hy
        · simp at hy; subst hy
          exact ⟨by omega, by omega, by omega, by omega, k5⟩
      · ((conv => whnf); (repeat (first | ((first | refine z1 ?_ | refine z2 ?_ | refine z3 ?_ | refine idxB_at (by decide) rfl ?_ | refine atB_at (by decide) (by decide) ?_ | refine getB_lit _ rfl ?_ | refine z7 ?_); conv => whnf) | trivial)))
    · exact .same (by rw [okM_no fun h => by have := (h.ent x hxm).h; exact k this])
  have e : i = m.ents.length := by simp at g; omega
  subst e
  rw [List.take_length] at h2
  refine loopB tab_ok mix [1, 69, 70] [0] (fun i : Nat => [(71, V.int i)]) (fun i => []) (fun i => i ≤ m.iss.length ∧ ∀ e ∈ m.iss.take i, handOk e) (fun i => m.iss.length - i) [] 0 rfl ⟨by omega, by simp⟩ (by ((conv => whnf); (repeat (first | ((first | refine z1 ?_ | refine z2 ?_ | refine z3 ?_ | refine idxB_at (by decide) rfl ?_ | refine atB_at (by decide) (by decide) ?_ | refine getB_lit _ rfl ?_ | refine z7 ?_); conv => whnf) | trivial)))) ?_
  rintro i ⟨h3, h4⟩
  ((conv => whnf); (repeat (first | ((first | refine z1 ?_ | refine z2 ?_ | refine z3 ?_ | refine idxB_at (by decide) rfl ?_ | refine atB_at (by decide) (by decide) ?_ | refine getB_lit _ rfl ?_ | refine z7 ?_); conv => whnf) | trivial)))
  refine br_dec (fun g => ?_) (fun g => ?_) <;> ((conv => whnf); (repeat (first | ((first | refine z1 ?_ | refine z2 ?_ | refine z3 ?_ | refine idxB_at (by decide) rfl ?_ | refine atB_at (by decide) (by decide) ?_ | refine getB_lit _ rfl ?_ | refine z7 ?_); conv => whnf) | trivial)))
  · simp at g
    obtain ⟨x, hx⟩ := get_lt g
    have hxm := List.mem_of_getElem? hx
    refine idxB hx ?_
    ((conv => whnf); (repeat (first | ((first | refine z1 ?_ | refine z2 ?_ | refine z3 ?_ | refine idxB_at (by decide) rfl ?_ | refine atB_at (by decide) (by decide) ?_ | refine getB_lit _ rfl ?_ | refine z7 ?_); conv => whnf) | trivial)))
    refine callB (handleValidC x) ?_
    ((conv => whnf); (repeat (first | ((first | refine z1 ?_ | refine z2 ?_ | refine z3 ?_ | refine idxB_at (by decide) rfl ?_ | refine atB_at (by decide) (by decide) ?_ | refine getB_lit _ rfl ?_ | refine z7 ?_); conv => whnf) | trivial)))
    refine br_dec (fun k5 => ?_) (fun k => ?_) <;> ((conv => whnf); (repeat (first | ((first | refine z1 ?_ | refine z2 ?_ | refine z3 ?_ | refine idxB_at (by decide) rfl ?_ | refine atB_at (by decide) (by decide) ?_ | refine getB_lit _ rfl ?_ | refine z7 ?_); conv => whnf) | trivial)))
    · refine .mk [] (i + 1) ⟨by omega, ?_⟩ (by omega) ?_
      · rw [List.take_add_one, hx]
        intro y hy
        rcases List.mem_append.1 hy with hy | hy
        · exact h4 y hy
        · simp at hy; subst hy; exact k5
      · ((conv => whnf); (repeat (first | ((first | refine z1 ?_ | refine z2 ?_ | refine z3 ?_ | refine idxB_at (by decide) rfl ?_ | refine atB_at (by decide) (by decide) ?_ | refine getB_lit _ rfl ?_ | refine z7 ?_); conv => whnf) | trivial)))
    · exact .same (by rw [okM_no fun h => k (h.iss x hxm)])
  have e : i = m.iss.length := by simp at g; omega
  subst e
  rw [List.take_length] at h4
  refine callB (distinctEnts seqC m.ents (by omega)) ?_
  ((conv => whnf); (repeat (first | ((first | refine z1 ?_ | refine z2 ?_ | refine z3 ?_ | refine idxB_at (by decide) rfl ?_ | refine atB_at (by decide) (by decide) ?_ | refine getB_lit _ rfl ?_ | refine z7 ?_); conv => whnf) | trivial)))
  refine br_dec (fun k1 => ?_) (fun k1 => ?_) <;> ((conv => whnf); (repeat (first | ((first | refine z1 ?_ | refine z2 ?_ | refine z3 ?_ | refine idxB_at (by decide) rfl ?_ | refine atB_at (by decide) (by decide) ?_ | refine getB_lit _ rfl ?_ | refine z7 ?_); conv => whnf) | trivial)))
  · refine callB (distinctEnts handC m.ents (by omega)) ?_
    ((conv => whnf); (repeat (first | ((first | refine z1 ?_ | refine z2 ?_ | refine z3 ?_ | refine idxB_at (by decide) rfl ?_ | refine atB_at (by decide) (by decide) ?_ | refine getB_lit _ rfl ?_ | refine z7 ?_); conv => whnf) | trivial)))
    refine br_dec (fun k2 => ?_) (fun k2 => ?_) <;> ((conv => whnf); (repeat (first | ((first | refine z1 ?_ | refine z2 ?_ | refine z3 ?_ | refine idxB_at (by decide) rfl ?_ | refine atB_at (by decide) (by decide) ?_ | refine getB_lit _ rfl ?_ | refine z7 ?_); conv => whnf) | trivial)))
    · refine callB (distinctInts m.iss (by omega)) ?_
      ((conv => whnf); (repeat (first | ((first | refine z1 ?_ | refine z2 ?_ | refine z3 ?_ | refine idxB_at (by decide) rfl ?_ | refine atB_at (by decide) (by decide) ?_ | refine getB_lit _ rfl ?_ | refine z7 ?_); conv => whnf) | trivial)))
      refine br_dec (fun k3 => ?_) (fun k3 => ?_) <;> ((conv => whnf); (repeat (first | ((first | refine z1 ?_ | refine z2 ?_ | refine z3 ?_ | refine idxB_at (by decide) rfl ?_ | refine atB_at (by decide) (by decide) ?_ | refine getB_lit _ rfl ?_ | refine z7 ?_); conv => whnf) | trivial)))
      · refine callB (isSortedC m.ents (by omega)) ?_
        ((conv => whnf); (repeat (first | ((first | refine z1 ?_ | refine z2 ?_ | refine z3 ?_ | refine idxB_at (by decide) rfl ?_ | refine atB_at (by decide) (by decide) ?_ | refine getB_lit _ rfl ?_ | refine z7 ?_); conv => whnf) | trivial)))
        refine .same ?_
        by_cases k4 : sortedE m.ents = true
        · rw [k4, okM_yes ⟨by omega, by omega, g3, g4, h2, h4, k1, k2, k3, k4⟩]
        · rw [Bool.eq_false_iff.2 k4, okM_no fun h => k4 h.sorted]
      · exact .same (by rw [okM_no fun h => k3 h.issN])
    · exact .same (by rw [okM_no fun h => k2 h.hands])
  · exact .same (by rw [okM_no fun h => k1 h.seqs])
/-- what the reference asks of an entry and a later one -/
def pairE (f e : Ent) : Prop := f.seq ≠ e.seq ∧ f.handle ≠ e.handle ∧ f.time ≤ e.time ∧ (f.time = e.time → f.seq ≤ e.seq)
theorem pairs_iff (l : List Ent) : l.Pairwise pairE ↔ (l.map Ent.seq).Nodup ∧ (l.map Ent.handle).Nodup ∧ sortedE l = true := by
  rw [sortedE_pair]
  unfold List.Nodup
  rw [List.pairwise_map, List.pairwise_map, ← List.pairwise_and_iff, ← List.pairwise_and_iff]
  refine ⟨fun h => h.imp fun {a b} g => ⟨g.1, g.2.1, (leE_iff _ _).2 (by have := g.2.2; omega)⟩, fun h => h.imp fun {a b} g => ⟨g.1, g.2.1, by have := (leE_iff _ _).1 g.2.2; omega⟩⟩
theorem pairs_take {l : List Ent} {i : Nat} {x : Ent} (hx : l[i]? = some x) : (l.take (i + 1)).Pairwise pairE ↔ (l.take i).Pairwise pairE ∧ ∀ f ∈ l.take i, pairE f x := by
  rw [List.take_add_one, hx, Option.toList_some, List.pairwise_append]
  simp
set_option maxHeartbeats 2000000 in
theorem refValidC (m : Mod) (l1 : m.ents.length < 1000000) (l2 : m.iss.length < 1000000) : PSpec Try.prog 23 [m.v] (V.bool (okM m)) := by
  refine pspec tab_ok mix Try.func23 (by kernel_rfl) rfl rfl ?_
  ((conv => whnf); (repeat (first | ((first | refine z1 ?_ | refine z2 ?_ | refine z3 ?_ | refine idxB_at (by decide) rfl ?_ | refine atB_at (by decide) (by decide) ?_ | refine getB_lit _ rfl ?_ | refine z7 ?_); conv => whnf) | trivial)))
  refine br_dec (fun g => ?_) (fun g1 => ?_) <;> ((conv => whnf); (repeat (first | ((first | refine z1 ?_ | refine z2 ?_ | refine z3 ?_ | refine idxB_at (by decide) rfl ?_ | refine atB_at (by decide) (by decide) ?_ | refine getB_lit _ rfl ?_ | refine z7 ?_); conv => whnf) | trivial)))
  · exact .same (by rw [okM_no fun h => by have := h.c0; omega])
  refine br_dec (fun g => ?_) (fun g2 => ?_) <;> ((conv => whnf); (repeat (first | ((first | refine z1 ?_ | refine z2 ?_ | refine z3 ?_ | refine idxB_at (by decide) rfl ?_ | refine atB_at (by decide) (by decide) ?_ | refine getB_lit _ rfl ?_ | refine z7 ?_); conv => whnf) | trivial)))
  · exact .same (by rw [okM_no fun h => by have := h.c1; omega])
  refine br_dec (fun g => ?_) (fun g3 => ?_) <;> ((conv => whnf); (repeat (first | ((first | refine z1 ?_ | refine z2 ?_ | refine z3 ?_ | refine idxB_at (by decide) rfl ?_ | refine atB_at (by decide) (by decide) ?_ | refine getB_lit _ rfl ?_ | refine z7 ?_); conv => whnf) | trivial)))
  · exact .same (by rw [okM_no fun h => by have := h.len; simp at g; omega])
  refine br_ndec (fun g => ?_) (fun g4 => ?_) <;> ((conv => whnf); (repeat (first | ((first | refine z1 ?_ | refine z2 ?_ | refine z3 ?_ | refine idxB_at (by decide) rfl ?_ | refine atB_at (by decide) (by decide) ?_ | refine getB_lit _ rfl ?_ | refine z7 ?_); conv => whnf) | trivial)))
  · exact .same (by rw [okM_no fun h => by have := h.next; simp at g; omega])
  have g3 : (m.ents.length : Int) ≤ m.cap := by simp at g3; omega
  have g4 : m.next = m.iss.length := by simp at g4; omega
  have hpa : m.Ok → m.ents.Pairwise pairE := fun h => (pairs_iff _).2 ⟨h.seqs, h.hands, h.sorted⟩
  refine loopB tab_ok mix [1] [0] (fun i : Nat => [(3, V.int i)]) (fun i => []) (fun i => i ≤ m.ents.length ∧ (∀ e ∈ m.ents.take i, EntOk m e) ∧ (m.ents.take i).Pairwise pairE) (fun i => m.ents.length - i) [] 0 rfl ⟨by omega, by simp, by simp⟩ (by ((conv => whnf); (repeat (first | ((first | refine z1 ?_ | refine z2 ?_ | refine z3 ?_ | refine idxB_at (by decide) rfl ?_ | refine atB_at (by decide) (by decide) ?_ | refine getB_lit _ rfl ?_ | refine z7 ?_); conv => whnf) | trivial)))) ?_
  rintro i ⟨h1, h2, h2'⟩
  ((conv => whnf); (repeat (first | ((first | refine z1 ?_ | refine z2 ?_ | refine z3 ?_ | refine idxB_at (by decide) rfl ?_ | refine atB_at (by decide) (by decide) ?_ | refine getB_lit _ rfl ?_ | refine z7 ?_); conv => whnf) | trivial)))
  refine br_dec (fun g => ?_) (fun g => ?_) <;> ((conv => whnf); (repeat (first | ((first | refine z1 ?_ | refine z2 ?_ | refine z3 ?_ | refine idxB_at (by decide) rfl ?_ | refine atB_at (by decide) (by decide) ?_ | refine getB_lit _ rfl ?_ | refine z7 ?_); conv => whnf) | trivial)))
  · simp at g
    obtain ⟨x, hx⟩ := get_lt g
    have hxm := List.mem_of_getElem? hx
    refine idxB hx ?_
    ((conv => whnf); (repeat (first | ((first | refine z1 ?_ | refine z2 ?_ | refine z3 ?_ | refine idxB_at (by decide) rfl ?_ | refine atB_at (by decide) (by decide) ?_ | refine getB_lit _ rfl ?_ | refine z7 ?_); conv => whnf) | trivial)))
    refine br_dec (fun k => ?_) (fun k1 => ?_) <;> ((conv => whnf); (repeat (first | ((first | refine z1 ?_ | refine z2 ?_ | refine z3 ?_ | refine idxB_at (by decide) rfl ?_ | refine atB_at (by decide) (by decide) ?_ | refine getB_lit _ rfl ?_ | refine z7 ?_); conv => whnf) | trivial)))
    · exact .same (by rw [okM_no fun h => by have := (h.ent x hxm).t0; omega])
    refine br_dec (fun k => ?_) (fun k2 => ?_) <;> ((conv => whnf); (repeat (first | ((first | refine z1 ?_ | refine z2 ?_ | refine z3 ?_ | refine idxB_at (by decide) rfl ?_ | refine atB_at (by decide) (by decide) ?_ | refine getB_lit _ rfl ?_ | refine z7 ?_); conv => whnf) | trivial)))
    · exact .same (by rw [okM_no fun h => by have := (h.ent x hxm).t1; omega])
    refine br_dec (fun k => ?_) (fun k3 => ?_) <;> ((conv => whnf); (repeat (first | ((first | refine z1 ?_ | refine z2 ?_ | refine z3 ?_ | refine idxB_at (by decide) rfl ?_ | refine atB_at (by decide) (by decide) ?_ | refine getB_lit _ rfl ?_ | refine z7 ?_); conv => whnf) | trivial)))
    · exact .same (by rw [okM_no fun h => by have := (h.ent x hxm).s0; omega])
    refine br_dec (fun k => ?_) (fun k4 => ?_) <;> ((conv => whnf); (repeat (first | ((first | refine z1 ?_ | refine z2 ?_ | refine z3 ?_ | refine idxB_at (by decide) rfl ?_ | refine atB_at (by decide) (by decide) ?_ | refine getB_lit _ rfl ?_ | refine z7 ?_); conv => whnf) | trivial)))
    · exact .same (by rw [okM_no fun h => by have := (h.ent x hxm).s1; omega])
    refine callB (hasC m.iss x.handle (by omega)) ?_
    ((conv => whnf); (repeat (first | ((first | refine z1 ?_ | refine z2 ?_ | refine z3 ?_ | refine idxB_at (by decide) rfl ?_ | refine atB_at (by decide) (by decide) ?_ | refine getB_lit _ rfl ?_ | refine z7 ?_); conv => whnf) | trivial)))
    refine br_dec (fun k5 => ?_) (fun k => ?_) <;> ((conv => whnf); (repeat (first | ((first | refine z1 ?_ | refine z2 ?_ | refine z3 ?_ | refine idxB_at (by decide) rfl ?_ | refine atB_at (by decide) (by decide) ?_ | refine getB_lit _ rfl ?_ | refine z7 ?_); conv => whnf) | trivial)))
    rotate_left
    · exact .same (by rw [okM_no fun h => by have := (h.ent x hxm).h; exact k this])
    have key : ¬ (∀ f ∈ m.ents.take i, pairE f x) → okM m = false := fun hn => okM_no fun h => hn ((pairs_take hx).1 ((hpa h).sublist (List.take_sublist _ _))).2
    refine loopB tab_ok mix [1, 3, 4] [0, 2368] (fun k : Nat => [(5, V.int k)]) (fun k => []) (fun k => k ≤ i ∧ ∀ f ∈ m.ents.take k, pairE f x) (fun k => i - k) [] 0 rfl ⟨by omega, by simp⟩ (by ((conv => whnf); (repeat (first | ((first | refine z1 ?_ | refine z2 ?_ | refine z3 ?_ | refine idxB_at (by decide) rfl ?_ | refine atB_at (by decide) (by decide) ?_ | refine getB_lit _ rfl ?_ | refine z7 ?_); conv => whnf) | trivial)))) ?_
    rintro j ⟨r1, r2⟩
    ((conv => whnf); (repeat (first | ((first | refine z1 ?_ | refine z2 ?_ | refine z3 ?_ | refine idxB_at (by decide) rfl ?_ | refine atB_at (by decide) (by decide) ?_ | refine getB_lit _ rfl ?_ | refine z7 ?_); conv => whnf) | trivial)))
    refine br_dec (fun u => ?_) (fun u => ?_) <;> ((conv => whnf); (repeat (first | ((first | refine z1 ?_ | refine z2 ?_ | refine z3 ?_ | refine idxB_at (by decide) rfl ?_ | refine atB_at (by decide) (by decide) ?_ | refine getB_lit _ rfl ?_ | refine z7 ?_); conv => whnf) | trivial)))
    · obtain ⟨f, hf⟩ := get_lt (show j < m.ents.length by omega)
      have hfm : f ∈ m.ents.take i := by
        obtain ⟨q1, rfl⟩ := List.getElem?_eq_some_iff.1 hf
        exact List.mem_take_iff_getElem.2 ⟨j, by omega, rfl⟩
      refine idxB hf ?_
      ((conv => whnf); (repeat (first | ((first | refine z1 ?_ | refine z2 ?_ | refine z3 ?_ | refine idxB_at (by decide) rfl ?_ | refine atB_at (by decide) (by decide) ?_ | refine getB_lit _ rfl ?_ | refine z7 ?_); conv => whnf) | trivial)))
      refine br_dec (fun v => ?_) (fun v1 => ?_) <;> ((conv => whnf); (repeat (first | ((first | refine z1 ?_ | refine z2 ?_ | refine z3 ?_ | refine idxB_at (by decide) rfl ?_ | refine atB_at (by decide) (by decide) ?_ | refine getB_lit _ rfl ?_ | refine z7 ?_); conv => whnf) | trivial)))
      · exact .same (by rw [key fun h => (h f hfm).1 v])
      refine br_dec (fun v => ?_) (fun v2 => ?_) <;> ((conv => whnf); (repeat (first | ((first | refine z1 ?_ | refine z2 ?_ | refine z3 ?_ | refine idxB_at (by decide) rfl ?_ | refine atB_at (by decide) (by decide) ?_ | refine getB_lit _ rfl ?_ | refine z7 ?_); conv => whnf) | trivial)))
      · exact .same (by rw [key fun h => (h f hfm).2.1 v])
      refine br_dec (fun v => ?_) (fun v3 => ?_) <;> ((conv => whnf); (repeat (first | ((first | refine z1 ?_ | refine z2 ?_ | refine z3 ?_ | refine idxB_at (by decide) rfl ?_ | refine atB_at (by decide) (by decide) ?_ | refine getB_lit _ rfl ?_ | refine z7 ?_); conv => whnf) | trivial)))
      · exact .same (by rw [key fun h => by have := (h f hfm).2.2.1; omega])
      have next : (f.time = x.time → f.seq ≤ x.seq) → ∀ f ∈ m.ents.take (j + 1), pairE f x := by
        intro hn y hy
        rw [List.take_add_one, hf] at hy
        rcases List.mem_append.1 hy with hy | hy
        · exact r2 y hy
        · simp at hy; subst hy
          exact ⟨v1, v2, by omega, hn⟩
      refine br_dec (fun v4 => ?_) (fun v4 => ?_) <;> ((conv => whnf); (repeat (first | ((first | refine z1 ?_ | refine z2 ?_ | refine z3 ?_ | refine idxB_at (by decide) rfl ?_ | refine atB_at (by decide) (by decide) ?_ | refine getB_lit _ rfl ?_ | refine z7 ?_); conv => whnf) | trivial)))
      · refine br_dec (fun v5 => ?_) (fun v5 => ?_) <;> ((conv => whnf); (repeat (first | ((first | refine z1 ?_ | refine z2 ?_ | refine z3 ?_ | refine idxB_at (by decide) rfl ?_ | refine atB_at (by decide) (by decide) ?_ | refine getB_lit _ rfl ?_ | refine z7 ?_); conv => whnf) | trivial)))
        · exact .same (by rw [key fun h => by have := (h f hfm).2.2.2 v4; omega])
        · refine .mk [] (j + 1) ⟨by omega, next fun _ => by omega⟩ (by omega) ?_
          ((conv => whnf); (repeat (first | ((first | refine z1 ?_ | refine z2 ?_ | refine z3 ?_ | refine idxB_at (by decide) rfl ?_ | refine atB_at (by decide) (by decide) ?_ | refine getB_lit _ rfl ?_ | refine z7 ?_); conv => whnf) | trivial)))
      · refine .mk [] (j + 1) ⟨by omega, next fun q => absurd q v4⟩ (by omega) ?_
        ((conv => whnf); (repeat (first | ((first | refine z1 ?_ | refine z2 ?_ | refine z3 ?_ | refine idxB_at (by decide) rfl ?_ | refine atB_at (by decide) (by decide) ?_ | refine getB_lit _ rfl ?_ | refine z7 ?_); conv => whnf) | trivial)))
    · have e : j = i := by omega
      subst e
      refine .mk [] (j + 1) ⟨by omega, ?_, (pairs_take hx).2 ⟨h2', r2⟩⟩ (by omega) ?_
      · rw [List.take_add_one, hx]
        intro y hy
        rcases List.mem_append.1 hy with hy | hy
        · exact h2 y hy
        · simp at hy; subst hy
          exact ⟨by omega, by omega, by omega, by omega, k5⟩
      · ((conv => whnf); (repeat (first | ((first | refine z1 ?_ | refine z2 ?_ | refine z3 ?_ | refine idxB_at (by decide) rfl ?_ | refine atB_at (by decide) (by decide) ?_ | refine getB_lit _ rfl ?_ | refine z7 ?_); conv => whnf) | trivial)))
  have e : i = m.ents.length := by simp at g; omega
  subst e
  rw [List.take_length] at h2 h2'
  refine loopB tab_ok mix [1] [0] (fun i : Nat => [(7, V.int i)]) (fun i => []) (fun i => i ≤ m.iss.length ∧ (∀ e ∈ m.iss.take i, handOk e) ∧ (m.iss.take i).Nodup) (fun i => m.iss.length - i) [] 0 rfl ⟨by omega, by simp, by simp⟩ (by ((conv => whnf); (repeat (first | ((first | refine z1 ?_ | refine z2 ?_ | refine z3 ?_ | refine idxB_at (by decide) rfl ?_ | refine atB_at (by decide) (by decide) ?_ | refine getB_lit _ rfl ?_ | refine z7 ?_); conv => whnf) | trivial)))) ?_
  rintro i ⟨h3, h4, h5⟩
  ((conv => whnf); (repeat (first | ((first | refine z1 ?_ | refine z2 ?_ | refine z3 ?_ | refine idxB_at (by decide) rfl ?_ | refine atB_at (by decide) (by decide) ?_ | refine getB_lit _ rfl ?_ | refine z7 ?_); conv => whnf) | trivial)))
  refine br_dec (fun g => ?_) (fun g => ?_) <;> ((conv => whnf); (repeat (first | ((first | refine z1 ?_ | refine z2 ?_ | refine z3 ?_ | refine idxB_at (by decide) rfl ?_ | refine atB_at (by decide) (by decide) ?_ | refine getB_lit _ rfl ?_ | refine z7 ?_); conv => whnf) | trivial)))
  · simp at g
    obtain ⟨x, hx⟩ := get_lt g
    have hxm := List.mem_of_getElem? hx
    refine idxB hx ?_
    ((conv => whnf); (repeat (first | ((first | refine z1 ?_ | refine z2 ?_ | refine z3 ?_ | refine idxB_at (by decide) rfl ?_ | refine atB_at (by decide) (by decide) ?_ | refine getB_lit _ rfl ?_ | refine z7 ?_); conv => whnf) | trivial)))
    refine dcallB (refHandleValidC x) ?_
    ((conv => whnf); (repeat (first | ((first | refine z1 ?_ | refine z2 ?_ | refine z3 ?_ | refine idxB_at (by decide) rfl ?_ | refine atB_at (by decide) (by decide) ?_ | refine getB_lit _ rfl ?_ | refine z7 ?_); conv => whnf) | trivial)))
    refine br_dec (fun k5 => ?_) (fun k => ?_) <;> ((conv => whnf); (repeat (first | ((first | refine z1 ?_ | refine z2 ?_ | refine z3 ?_ | refine idxB_at (by decide) rfl ?_ | refine atB_at (by decide) (by decide) ?_ | refine getB_lit _ rfl ?_ | refine z7 ?_); conv => whnf) | trivial)))
    · refine slB 0 i rfl rfl (by simp; omega) ?_
      ((conv => whnf); (repeat (first | ((first | refine z1 ?_ | refine z2 ?_ | refine z3 ?_ | refine idxB_at (by decide) rfl ?_ | refine atB_at (by decide) (by decide) ?_ | refine getB_lit _ rfl ?_ | refine z7 ?_); conv => whnf) | trivial)))
      refine idxB hx ?_
      ((conv => whnf); (repeat (first | ((first | refine z1 ?_ | refine z2 ?_ | refine z3 ?_ | refine idxB_at (by decide) rfl ?_ | refine atB_at (by decide) (by decide) ?_ | refine getB_lit _ rfl ?_ | refine z7 ?_); conv => whnf) | trivial)))
      refine dcallC (hasC (m.iss.take i) x (by rw [List.length_take]; omega)) ?_
      ((conv => whnf); (repeat (first | ((first | refine z1 ?_ | refine z2 ?_ | refine z3 ?_ | refine idxB_at (by decide) rfl ?_ | refine atB_at (by decide) (by decide) ?_ | refine getB_lit _ rfl ?_ | refine z7 ?_); conv => whnf) | trivial)))
      refine br_dec (fun k6 => ?_) (fun k6 => ?_) <;> ((conv => whnf); (repeat (first | ((first | refine z1 ?_ | refine z2 ?_ | refine z3 ?_ | refine idxB_at (by decide) rfl ?_ | refine atB_at (by decide) (by decide) ?_ | refine getB_lit _ rfl ?_ | refine z7 ?_); conv => whnf) | trivial)))
      · exact .same (by rw [okM_no fun h => by
          have := h.issN.sublist (List.take_sublist (i + 1) _)
          rw [List.take_add_one, hx, Option.toList_some, List.nodup_append] at this
          exact this.2.2 x k6 x (by simp) rfl])
      · refine .mk [] (i + 1) ⟨by omega, ?_, ?_⟩ (by omega) ?_
        · rw [List.take_add_one, hx]
          intro y hy
          rcases List.mem_append.1 hy with hy | hy
          · exact h4 y hy
          · simp at hy; subst hy; exact k5
        · rw [List.take_add_one, hx, Option.toList_some, List.nodup_append]
          exact ⟨h5, by simp, by rintro a ha b hb rfl; simp at hb; subst hb; exact k6 ha⟩
        · ((conv => whnf); (repeat (first | ((first | refine z1 ?_ | refine z2 ?_ | refine z3 ?_ | refine idxB_at (by decide) rfl ?_ | refine atB_at (by decide) (by decide) ?_ | refine getB_lit _ rfl ?_ | refine z7 ?_); conv => whnf) | trivial)))
    · exact .same (by rw [okM_no fun h => k (h.iss x hxm)])
  have e : i = m.iss.length := by simp at g; omega
  subst e
  rw [List.take_length] at h4 h5
  refine .same ?_
  obtain ⟨q1, q2, q3⟩ := (pairs_iff _).1 h2'
  rw [okM_yes ⟨by omega, by omega, g3, g4, h2, h4, q1, q2, h5, q3⟩]
end Go.Proofs.Ytmihhkcbbdpnaaa.Abs
