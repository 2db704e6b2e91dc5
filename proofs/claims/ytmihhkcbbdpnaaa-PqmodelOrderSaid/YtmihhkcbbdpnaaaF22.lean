/- The law of a batch's order, as a contract. -/
import Derived.Test.YtmihhkcbbdpnaaaF20
namespace Go.Proofs.Ytmihhkcbbdpnaaa.Abs
open Go.Proofs
set_option maxRecDepth 10000
set_option linter.unusedSimpArgs false
set_option linter.unusedVariables false

theorem batchL_max (b x : Int) : ∀ (l : List Ent) (out : List Evt), (out.length : Int) ≤ x → ((batchL b x l out).2.length : Int) ≤ x
  | [], out, h => h
  | e :: l, out, h => by
    rw [batchL]
    split
    · next g =>
      have h2 : (if e.dead = true then out else out ++ [⟨e.time, e.handle⟩]).length ≤ out.length + 1 := by split <;> simp
      exact batchL_max b x l _ (by omega)
    · exact h
def liveL (l : List Ent) : List Evt := (l.filter fun e => !e.dead).map toEvt
theorem next_live : ∀ (L : List Ent) (y : Evt) (rest : List Evt), liveL L = y :: rest → ∃ (a : Nat) (e : Ent), L[a]? = some e ∧ e.dead = false ∧ toEvt e = y ∧ rest = liveL (L.drop (a + 1))
  | [], y, rest, h => by cases h
  | e :: L, y, rest, h => by
    cases hd : e.dead with
    | true =>
      have h' : liveL L = y :: rest := by simpa [liveL, hd] using h
      obtain ⟨a, e', h1, h2, h3, h4⟩ := next_live L y rest h'
      exact ⟨a + 1, e', by simpa using h1, h2, h3, by simpa using h4⟩
    | false =>
      have h' : toEvt e :: liveL L = y :: rest := by simpa [liveL, hd] using h
      cases h'
      exact ⟨0, e, rfl, hd, rfl, by simp⟩
theorem hand_idx {l : List Ent} (h : (l.map Ent.handle).Nodup) {i j : Nat} {x y : Ent} (hx : l[i]? = some x) (hy : l[j]? = some y) (e : x.handle = y.handle) : i = j := by
  obtain ⟨h1, rfl⟩ := List.getElem?_eq_some_iff.1 hx
  obtain ⟨h2, rfl⟩ := List.getElem?_eq_some_iff.1 hy
  exact (List.getElem_inj (xs := l.map Ent.handle) (i := i) (j := j) (h₀ := by simpa using h1) (h₁ := by simpa using h2) h).1 (by simpa using e)
set_option maxHeartbeats 2000000 in
theorem pqOrder (k : Int) (l : List Stp) (most bound : Int) (hk : 0 ≤ k ∧ k ≤ 255) (hmost : 0 ≤ most ∧ most ≤ 255) : PSpec Try.prog 5 [.c (.int .u8 k), stpsV l, .c (.int .u8 most), V.int bound] (V.bool true) := by
  have hm := madeM_ok hk l
  have hi := madeM_iss k l
  have hf := hm.fits (by omega)
  have hK : 0 ≤ most.tmod 65 ∧ most.tmod 65 ≤ 64 := by rw [Int.tmod_eq_emod_of_nonneg hmost.1]; omega
  refine pspec tab_ok mix Try.func5 (by kernel_rfl) rfl rfl ?_
  ((conv => whnf); (repeat (first | ((first | refine z1 ?_ | refine z2 ?_ | refine z3 ?_ | refine idxB_at (by decide) rfl ?_ | refine atB_at (by decide) (by decide) ?_ | refine getB_lit _ rfl ?_ | refine z7 ?_); conv => whnf) | trivial)))
  refine callB headC10 ?_
  ((conv => whnf); (repeat (first | ((first | refine z1 ?_ | refine z2 ?_ | refine z3 ?_ | refine idxB_at (by decide) rfl ?_ | refine atB_at (by decide) (by decide) ?_ | refine getB_lit _ rfl ?_ | refine z7 ?_); conv => whnf) | trivial)))
  refine callB (madeC k l hk) ?_
  ((conv => whnf); (repeat (first | ((first | refine z1 ?_ | refine z2 ?_ | refine z3 ?_ | refine idxB_at (by decide) rfl ?_ | refine atB_at (by decide) (by decide) ?_ | refine getB_lit _ rfl ?_ | refine z7 ?_); conv => whnf) | trivial)))
  generalize madeM k l = m at *
  generalize most.tmod 65 = K at *
  refine callB (doMC m ⟨3, 0, 0, K, bound⟩ 0 hf (hm.ins _ _).mono) ?_
  obtain ⟨p, hp1, hp2, hp3, hp4, hp5⟩ := batchL_char bound K m.ents []
  have hmax := batchL_max bound K m.ents [] (by simpa using hK.1)
  have hd : doM m ⟨3, 0, 0, K, bound⟩ 0 = (⟨m.cap, m.ents.drop p, m.next, m.iss⟩, ⟨0, 0, false, (batchL bound K m.ents []).2⟩) := by
    show batchM m ⟨3, 0, 0, K, bound⟩ = _
    unfold batchM
    rw [if_neg (by dsimp only; omega)]
    dsimp only
    rw [hp2]
  rw [hd]
  rw [List.nil_append] at hp3
  generalize (batchL bound K m.ents []).2 = evs at *
  have hevs : evs = liveL ((m.ents.take p).drop 0) := hp3
  have hme : m.ents.length ≤ 64 := by have := hm.len; have := hm.c1; omega
  ((conv => whnf); (repeat (first | ((first | refine z1 ?_ | refine z2 ?_ | refine z3 ?_ | refine idxB_at (by decide) rfl ?_ | refine atB_at (by decide) (by decide) ?_ | refine getB_lit _ rfl ?_ | refine z7 ?_); conv => whnf) | trivial)))
  refine br_dec (fun g => absurd g (by simp; omega)) (fun _ => ?_)
  ((conv => whnf); (repeat (first | ((first | refine z1 ?_ | refine z2 ?_ | refine z3 ?_ | refine idxB_at (by decide) rfl ?_ | refine atB_at (by decide) (by decide) ?_ | refine getB_lit _ rfl ?_ | refine z7 ?_); conv => whnf) | trivial)))
  refine loopB2 tab_ok mix [3, 9, 10, 11, 12, 13] [384, 1280, 1344] (fun (i q : Nat) => [(14, V.int ((q : Int) - 1)), (15, V.int i)]) (fun i q => []) (fun i q => i ≤ evs.length ∧ q ≤ p ∧ evs.drop i = liveL ((m.ents.take p).drop q)) (fun i q => evs.length - i) [] 0 0 rfl ⟨by omega, by omega, hevs⟩ (by ((conv => whnf); (repeat (first | ((first | refine z1 ?_ | refine z2 ?_ | refine z3 ?_ | refine idxB_at (by decide) rfl ?_ | refine atB_at (by decide) (by decide) ?_ | refine getB_lit _ rfl ?_ | refine z7 ?_); conv => whnf) | trivial)))) ?_
  rintro i q ⟨h1, h2, h3⟩
  ((conv => whnf); (repeat (first | ((first | refine z1 ?_ | refine z2 ?_ | refine z3 ?_ | refine idxB_at (by decide) rfl ?_ | refine atB_at (by decide) (by decide) ?_ | refine getB_lit _ rfl ?_ | refine z7 ?_); conv => whnf) | trivial)))
  refine br_dec (fun g => ?_) (fun g => ?_) <;> ((conv => whnf); (repeat (first | ((first | refine z1 ?_ | refine z2 ?_ | refine z3 ?_ | refine idxB_at (by decide) rfl ?_ | refine atB_at (by decide) (by decide) ?_ | refine getB_lit _ rfl ?_ | refine z7 ?_); conv => whnf) | trivial)))
  · simp at g
    obtain ⟨x, hx⟩ := get_lt g
    rw [drop_get hx] at h3
    obtain ⟨a', e, e1, e2, e3, e4⟩ := next_live _ _ _ h3.symm
    rw [List.getElem?_drop] at e1
    have hap : q + a' < p := by
      have := (List.getElem?_eq_some_iff.1 e1).1
      rw [List.length_take] at this
      omega
    have ea : m.ents[q + a']? = some e := by rw [List.getElem?_take_of_lt hap] at e1; exact e1
    have etime : e.time < bound := hp4 e (List.mem_of_getElem? e1)
    rw [List.drop_drop] at e4
    obtain ⟨a, rfl⟩ : ∃ a, a = q + a' := ⟨_, rfl⟩
    have hal := (List.getElem?_eq_some_iff.1 ea).1
    subst e3
    refine loopB tab_ok mix [3, 9, 10, 11, 12, 13, 14, 15] [384, 1280, 1344] (fun j : Nat => [(16, V.int (if q + a' < j then ((q + a' : Nat) : Int) else -1)), (17, V.int j)]) (fun j => []) (fun j => j ≤ m.ents.length) (fun j => m.ents.length - j) [] 0 rfl (by omega) (by ((conv => whnf); (repeat (first | ((first | refine z1 ?_ | refine z2 ?_ | refine z3 ?_ | refine idxB_at (by decide) rfl ?_ | refine atB_at (by decide) (by decide) ?_ | refine getB_lit _ rfl ?_ | refine z7 ?_); conv => whnf) | trivial)))) ?_
    rintro j hj
    ((conv => whnf); (repeat (first | ((first | refine z1 ?_ | refine z2 ?_ | refine z3 ?_ | refine idxB_at (by decide) rfl ?_ | refine atB_at (by decide) (by decide) ?_ | refine getB_lit _ rfl ?_ | refine z7 ?_); conv => whnf) | trivial)))
    refine br_dec (fun u => ?_) (fun u => ?_) <;> ((conv => whnf); (repeat (first | ((first | refine z1 ?_ | refine z2 ?_ | refine z3 ?_ | refine idxB_at (by decide) rfl ?_ | refine atB_at (by decide) (by decide) ?_ | refine getB_lit _ rfl ?_ | refine z7 ?_); conv => whnf) | trivial)))
    · simp at u
      obtain ⟨y, hy⟩ := get_lt u
      have skip : j ≠ q + a' → (if q + a' < j + 1 then ((q + a' : Nat) : Int) else -1) = (if q + a' < j then ((q + a' : Nat) : Int) else -1) := fun hne => by
        split <;> split <;> first | rfl | omega
      refine idxB hy ?_
      ((conv => whnf); (repeat (first | ((first | refine z1 ?_ | refine z2 ?_ | refine z3 ?_ | refine idxB_at (by decide) rfl ?_ | refine atB_at (by decide) (by decide) ?_ | refine getB_lit _ rfl ?_ | refine z7 ?_); conv => whnf) | trivial)))
      refine idxB hx ?_
      ((conv => whnf); (repeat (first | ((first | refine z1 ?_ | refine z2 ?_ | refine z3 ?_ | refine idxB_at (by decide) rfl ?_ | refine atB_at (by decide) (by decide) ?_ | refine getB_lit _ rfl ?_ | refine z7 ?_); conv => whnf) | trivial)))
      refine br_dec (fun v => ?_) (fun v => ?_) <;> ((conv => whnf); (repeat (first | ((first | refine z1 ?_ | refine z2 ?_ | refine z3 ?_ | refine idxB_at (by decide) rfl ?_ | refine atB_at (by decide) (by decide) ?_ | refine getB_lit _ rfl ?_ | refine z7 ?_); conv => whnf) | trivial)))
      · have hje : j = q + a' := hand_idx hm.hands hy ea v
        subst hje
        rw [ea] at hy
        cases hy
        refine idxB ea ?_
        ((conv => whnf); (repeat (first | ((first | refine z1 ?_ | refine z2 ?_ | refine z3 ?_ | refine idxB_at (by decide) rfl ?_ | refine atB_at (by decide) (by decide) ?_ | refine getB_lit _ rfl ?_ | refine z7 ?_); conv => whnf) | trivial)))
        refine brK_mk (fun w => absurd w (by simp [e2])) (fun _ => ?_)
        ((conv => whnf); (repeat (first | ((first | refine z1 ?_ | refine z2 ?_ | refine z3 ?_ | refine idxB_at (by decide) rfl ?_ | refine atB_at (by decide) (by decide) ?_ | refine getB_lit _ rfl ?_ | refine z7 ?_); conv => whnf) | trivial)))
        refine idxB ea ?_
        ((conv => whnf); (repeat (first | ((first | refine z1 ?_ | refine z2 ?_ | refine z3 ?_ | refine idxB_at (by decide) rfl ?_ | refine atB_at (by decide) (by decide) ?_ | refine getB_lit _ rfl ?_ | refine z7 ?_); conv => whnf) | trivial)))
        refine idxB hx ?_
        ((conv => whnf); (repeat (first | ((first | refine z1 ?_ | refine z2 ?_ | refine z3 ?_ | refine idxB_at (by decide) rfl ?_ | refine atB_at (by decide) (by decide) ?_ | refine getB_lit _ rfl ?_ | refine z7 ?_); conv => whnf) | trivial)))
        refine br_dec (fun _ => ?_) (fun w => absurd rfl w)
        ((conv => whnf); (repeat (first | ((first | refine z1 ?_ | refine z2 ?_ | refine z3 ?_ | refine idxB_at (by decide) rfl ?_ | refine atB_at (by decide) (by decide) ?_ | refine getB_lit _ rfl ?_ | refine z7 ?_); conv => whnf) | trivial)))
        refine .mk [] (q + a' + 1) (by omega) (by omega) ?_
        ((conv => whnf); (repeat (first | ((first | refine z1 ?_ | refine z2 ?_ | refine z3 ?_ | refine idxB_at (by decide) rfl ?_ | refine atB_at (by decide) (by decide) ?_ | refine getB_lit _ rfl ?_ | refine z7 ?_); conv => whnf) | trivial)))
        all_goals exact cb (by rw [if_pos (by omega)]) (by ((conv => whnf); (repeat (first | ((first | refine z1 ?_ | refine z2 ?_ | refine z3 ?_ | refine idxB_at (by decide) rfl ?_ | refine atB_at (by decide) (by decide) ?_ | refine getB_lit _ rfl ?_ | refine z7 ?_); conv => whnf) | trivial))))
      · have hne : j ≠ q + a' := by
          rintro rfl
          rw [ea] at hy
          cases hy
          exact v rfl
        refine .mk [] (j + 1) (by omega) (by omega) ?_
        ((conv => whnf); (repeat (first | ((first | refine z1 ?_ | refine z2 ?_ | refine z3 ?_ | refine idxB_at (by decide) rfl ?_ | refine atB_at (by decide) (by decide) ?_ | refine getB_lit _ rfl ?_ | refine z7 ?_); conv => whnf) | trivial)))
        all_goals exact cb (skip hne).symm (by ((conv => whnf); (repeat (first | ((first | refine z1 ?_ | refine z2 ?_ | refine z3 ?_ | refine idxB_at (by decide) rfl ?_ | refine atB_at (by decide) (by decide) ?_ | refine getB_lit _ rfl ?_ | refine z7 ?_); conv => whnf) | trivial))))
    · have ej : j = m.ents.length := by simp at u; omega
      subst ej
      rw [if_pos hal]
      refine br_dec (fun w => absurd w (by omega)) (fun _ => ?_)
      ((conv => whnf); (repeat (first | ((first | refine z1 ?_ | refine z2 ?_ | refine z3 ?_ | refine idxB_at (by decide) rfl ?_ | refine atB_at (by decide) (by decide) ?_ | refine getB_lit _ rfl ?_ | refine z7 ?_); conv => whnf) | trivial)))
      refine idxB hx ?_
      ((conv => whnf); (repeat (first | ((first | refine z1 ?_ | refine z2 ?_ | refine z3 ?_ | refine idxB_at (by decide) rfl ?_ | refine atB_at (by decide) (by decide) ?_ | refine getB_lit _ rfl ?_ | refine z7 ?_); conv => whnf) | trivial)))
      refine br_dec (fun w => absurd w (by show ¬ bound ≤ e.time; omega)) (fun _ => ?_)
      ((conv => whnf); (repeat (first | ((first | refine z1 ?_ | refine z2 ?_ | refine z3 ?_ | refine idxB_at (by decide) rfl ?_ | refine atB_at (by decide) (by decide) ?_ | refine getB_lit _ rfl ?_ | refine z7 ?_); conv => whnf) | trivial)))
      refine .mk [] (i + 1) (q + a' + 1) ⟨by omega, by omega, e4⟩ (by dsimp only; omega) ?_
      ((conv => whnf); (repeat (first | ((first | refine z1 ?_ | refine z2 ?_ | refine z3 ?_ | refine idxB_at (by decide) rfl ?_ | refine atB_at (by decide) (by decide) ?_ | refine getB_lit _ rfl ?_ | refine z7 ?_); conv => whnf) | trivial)))
  have hstop : (evs.length : Int) < K → ∀ y ∈ m.ents.drop p, ¬ y.time < bound := by
    intro hlt y hy ht
    obtain ⟨j, hj⟩ := List.getElem?_of_mem hy
    rw [List.getElem?_drop] at hj
    have hjl := (List.getElem?_eq_some_iff.1 hj).1
    obtain ⟨e0, he0⟩ := get_lt (show p < m.ents.length by omega)
    refine hp5 e0 he0 ⟨?_, hlt⟩
    have hs := sortedE_pair.1 hm.sorted
    rw [List.pairwise_iff_getElem] at hs
    obtain ⟨q1, q2⟩ := List.getElem?_eq_some_iff.1 he0
    obtain ⟨q3, q4⟩ := List.getElem?_eq_some_iff.1 hj
    by_cases hz : j = 0
    · subst hz
      rw [Nat.add_zero] at hj
      rw [he0] at hj; cases hj; exact ht
    · have := (leE_iff _ _).1 (hs p (p + j) q1 q3 (by omega))
      rw [q2, q4] at this
      omega
  refine loopB tab_ok mix [3, 9, 10, 11, 12, 13] [384, 1280, 1344] (fun t : Nat => [(18, V.int t)]) (fun t => []) (fun t => t ≤ (m.ents.drop p).length) (fun t => (m.ents.drop p).length - t) [] 0 rfl (by omega) (by ((conv => whnf); (repeat (first | ((first | refine z1 ?_ | refine z2 ?_ | refine z3 ?_ | refine idxB_at (by decide) rfl ?_ | refine atB_at (by decide) (by decide) ?_ | refine getB_lit _ rfl ?_ | refine z7 ?_); conv => whnf) | trivial)))) ?_
  rintro t ht
  have hdl : (m.ents.drop p).length ≤ 64 := by rw [List.length_drop]; omega
  ((conv => whnf); (repeat (first | ((first | refine z1 ?_ | refine z2 ?_ | refine z3 ?_ | refine idxB_at (by decide) rfl ?_ | refine atB_at (by decide) (by decide) ?_ | refine getB_lit _ rfl ?_ | refine z7 ?_); conv => whnf) | trivial)))
  refine br_dec (fun u => ?_) (fun u => ?_) <;> ((conv => whnf); (repeat (first | ((first | refine z1 ?_ | refine z2 ?_ | refine z3 ?_ | refine idxB_at (by decide) rfl ?_ | refine atB_at (by decide) (by decide) ?_ | refine getB_lit _ rfl ?_ | refine z7 ?_); conv => whnf) | trivial)))
  · have u' : t < (m.ents.drop p).length := by simp only [List.length_drop]; simp at u; omega
    obtain ⟨y, hy⟩ := get_lt u'
    refine br_dec (fun v => ?_) (fun v => ?_) <;> ((conv => whnf); (repeat (first | ((first | refine z1 ?_ | refine z2 ?_ | refine z3 ?_ | refine idxB_at (by decide) rfl ?_ | refine atB_at (by decide) (by decide) ?_ | refine getB_lit _ rfl ?_ | refine z7 ?_); conv => whnf) | trivial)))
    · refine idxB hy ?_
      ((conv => whnf); (repeat (first | ((first | refine z1 ?_ | refine z2 ?_ | refine z3 ?_ | refine idxB_at (by decide) rfl ?_ | refine atB_at (by decide) (by decide) ?_ | refine getB_lit _ rfl ?_ | refine z7 ?_); conv => whnf) | trivial)))
      refine br_dec (fun w => absurd w (hstop (by simpa using v) y (List.mem_of_getElem? hy))) (fun _ => ?_)
      ((conv => whnf); (repeat (first | ((first | refine z1 ?_ | refine z2 ?_ | refine z3 ?_ | refine idxB_at (by decide) rfl ?_ | refine atB_at (by decide) (by decide) ?_ | refine getB_lit _ rfl ?_ | refine z7 ?_); conv => whnf) | trivial)))
      refine .mk [] (t + 1) (by omega) (by omega) ?_
      ((conv => whnf); (repeat (first | ((first | refine z1 ?_ | refine z2 ?_ | refine z3 ?_ | refine idxB_at (by decide) rfl ?_ | refine atB_at (by decide) (by decide) ?_ | refine getB_lit _ rfl ?_ | refine z7 ?_); conv => whnf) | trivial)))
    · refine .mk [] (t + 1) (by omega) (by omega) ?_
      ((conv => whnf); (repeat (first | ((first | refine z1 ?_ | refine z2 ?_ | refine z3 ?_ | refine idxB_at (by decide) rfl ?_ | refine atB_at (by decide) (by decide) ?_ | refine getB_lit _ rfl ?_ | refine z7 ?_); conv => whnf) | trivial)))
  · exact .same (by simp)
theorem specOrder (rows : List (List D)) (h : AllR (ShapeD tab 6) [5, 26, 5, 3] rows) : PSpec Try.prog 5 (List.zipWith (argV tab) [5, 26, 5, 3] rows) (V.bool true) := by
  obtain ⟨_, _, rfl, h1, h⟩ := h.cons
  obtain ⟨_, _, rfl, h2, h⟩ := h.cons
  obtain ⟨_, _, rfl, h3, h⟩ := h.cons
  obtain ⟨_, _, rfl, h4, h⟩ := h.cons
  cases h.nil
  obtain ⟨k, rfl, hk⟩ := u8Of h1
  obtain ⟨l, rfl⟩ := stpsOf h2
  obtain ⟨t, rfl, ht⟩ := u8Of h3
  obtain ⟨b, rfl, _⟩ := intOf h4
  exact pqOrder k l t b hk ht
end Go.Proofs.Ytmihhkcbbdpnaaa.Abs
