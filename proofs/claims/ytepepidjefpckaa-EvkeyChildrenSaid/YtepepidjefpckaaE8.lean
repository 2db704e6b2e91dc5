/- The law of package evkey on children, as a contract. -/
import Derived.Test.YtepepidjefpckaaE5
import Derived.Test.YtepepidjefpckaaE4
namespace Go.Proofs.Ytepepidjefpckaa.Abs
open Go.Proofs
set_option maxRecDepth 10000
set_option linter.unusedSimpArgs false
set_option linter.unusedVariables false

theorem cmpK_child : ∀ (a : List Int) (i : Int), cmpK a (a ++ [i]) = -1
  | [], i => rfl
  | x :: xs, i => by
    rw [List.cons_append, cmpK_cons, if_pos (cmpI_zero.2 rfl)]
    exact cmpK_child xs i
theorem cmpK_children : ∀ (a : List Int) (i k : Int), cmpK (a ++ [i]) (a ++ [k]) = cmpI i k
  | [], i, k => by
    show cmpK (i :: []) (k :: []) = _
    rw [cmpK_cons]
    split
    · next h => rw [h]; rfl
    · rfl
  | x :: xs, i, k => by
    rw [List.cons_append, List.cons_append, cmpK_cons, if_pos (cmpI_zero.2 rfl)]
    exact cmpK_children xs i k
theorem cmpK_below : ∀ (a b : List Int), ¬ a <+: b → cmpK a b = -1 → ∀ c d, cmpK (a ++ c) (b ++ d) = -1
  | [], b, h, _, c, d => absurd (List.nil_prefix) h
  | x :: xs, [], _, h, c, d => by simp [cmpK] at h
  | x :: xs, y :: ys, hp, h, c, d => by
    rw [List.cons_append, List.cons_append, cmpK_cons]
    rw [cmpK_cons] at h
    split
    · next e =>
      rw [if_pos e] at h
      refine cmpK_below xs ys (fun h' => hp ?_) h c d
      rw [cmpI_zero.1 e]
      exact List.cons_prefix_cons.2 ⟨rfl, h'⟩
    · next e =>
      rw [if_neg e] at h
      exact h
theorem evkeyChildren (a b : List Int) (i k : Int) : PSpec Try.prog 11 [keyV a, keyV b, V.int i, V.int k] (V.bool true) := by
  have hm : (a.map intD).length = a.length := List.length_map _
  have hn : (b.map intD).length = b.length := List.length_map _
  have c1 := cmpK_child a i
  have c2 := cmpK_children a i k
  refine pspec tab_ok mix Try.func11 (by kernel_rfl) rfl rfl ?_
  ((conv => whnf); (repeat first | (refine wrB (by omega) ?_; conv => whnf) | (refine okB (by kernel_rfl) ?_; conv => whnf) | (refine cb (by first | rfl | omega | (simp; done) | (simp; omega)) ?_; conv => whnf) | (refine idxB_at (by decide) rfl ?_; conv => whnf) | (refine atB_at (by decide) (by decide) ?_; conv => whnf) | (refine getB_lit _ rfl ?_; conv => whnf) | trivial))
  refine callB headC ?_
  ((conv => whnf); (repeat first | (refine wrB (by omega) ?_; conv => whnf) | (refine okB (by kernel_rfl) ?_; conv => whnf) | (refine cb (by first | rfl | omega | (simp; done) | (simp; omega)) ?_; conv => whnf) | (refine idxB_at (by decide) rfl ?_; conv => whnf) | (refine atB_at (by decide) (by decide) ?_; conv => whnf) | (refine getB_lit _ rfl ?_; conv => whnf) | trivial))
  refine br_dec (fun h => ?_) (fun h => ?_) <;> ((conv => whnf); (repeat first | (refine wrB (by omega) ?_; conv => whnf) | (refine okB (by kernel_rfl) ?_; conv => whnf) | (refine cb (by first | rfl | omega | (simp; done) | (simp; omega)) ?_; conv => whnf) | (refine idxB_at (by decide) rfl ?_; conv => whnf) | (refine atB_at (by decide) (by decide) ?_; conv => whnf) | (refine getB_lit _ rfl ?_; conv => whnf) | trivial))
  · exact .same rfl
  refine br_dec (fun h' => ?_) (fun h' => ?_) <;> ((conv => whnf); (repeat first | (refine wrB (by omega) ?_; conv => whnf) | (refine okB (by kernel_rfl) ?_; conv => whnf) | (refine cb (by first | rfl | omega | (simp; done) | (simp; omega)) ?_; conv => whnf) | (refine idxB_at (by decide) rfl ?_; conv => whnf) | (refine atB_at (by decide) (by decide) ?_; conv => whnf) | (refine getB_lit _ rfl ?_; conv => whnf) | trivial))
  · exact .same rfl
  rw [hm] at h
  rw [hn] at h'
  refine callN (child a i (by omega)) ?_
  ((conv => whnf); (repeat first | (refine wrB (by omega) ?_; conv => whnf) | (refine okB (by kernel_rfl) ?_; conv => whnf) | (refine cb (by first | rfl | omega | (simp; done) | (simp; omega)) ?_; conv => whnf) | (refine idxB_at (by decide) rfl ?_; conv => whnf) | (refine atB_at (by decide) (by decide) ?_; conv => whnf) | (refine getB_lit _ rfl ?_; conv => whnf) | trivial))
  refine callN (child a k (by omega)) ?_
  ((conv => whnf); (repeat first | (refine wrB (by omega) ?_; conv => whnf) | (refine okB (by kernel_rfl) ?_; conv => whnf) | (refine cb (by first | rfl | omega | (simp; done) | (simp; omega)) ?_; conv => whnf) | (refine idxB_at (by decide) rfl ?_; conv => whnf) | (refine atB_at (by decide) (by decide) ?_; conv => whnf) | (refine getB_lit _ rfl ?_; conv => whnf) | trivial))
  refine callB (compareKeys a (a ++ [i]) (by omega)) ?_
  ((conv => whnf); (repeat first | (refine wrB (by omega) ?_; conv => whnf) | (refine okB (by kernel_rfl) ?_; conv => whnf) | (refine cb (by first | rfl | omega | (simp; done) | (simp; omega)) ?_; conv => whnf) | (refine idxB_at (by decide) rfl ?_; conv => whnf) | (refine atB_at (by decide) (by decide) ?_; conv => whnf) | (refine getB_lit _ rfl ?_; conv => whnf) | trivial))
  refine br_ndec (fun g => absurd c1 g) (fun _ => ?_)
  ((conv => whnf); (repeat first | (refine wrB (by omega) ?_; conv => whnf) | (refine okB (by kernel_rfl) ?_; conv => whnf) | (refine cb (by first | rfl | omega | (simp; done) | (simp; omega)) ?_; conv => whnf) | (refine idxB_at (by decide) rfl ?_; conv => whnf) | (refine atB_at (by decide) (by decide) ?_; conv => whnf) | (refine getB_lit _ rfl ?_; conv => whnf) | trivial))
  refine callB (compareKeys (a ++ [i]) (a ++ [k]) (by simp; omega)) ?_
  ((conv => whnf); (repeat first | (refine wrB (by omega) ?_; conv => whnf) | (refine okB (by kernel_rfl) ?_; conv => whnf) | (refine cb (by first | rfl | omega | (simp; done) | (simp; omega)) ?_; conv => whnf) | (refine idxB_at (by decide) rfl ?_; conv => whnf) | (refine atB_at (by decide) (by decide) ?_; conv => whnf) | (refine getB_lit _ rfl ?_; conv => whnf) | trivial))
  refine callB (refCompare i k) ?_
  ((conv => whnf); (repeat first | (refine wrB (by omega) ?_; conv => whnf) | (refine okB (by kernel_rfl) ?_; conv => whnf) | (refine cb (by first | rfl | omega | (simp; done) | (simp; omega)) ?_; conv => whnf) | (refine idxB_at (by decide) rfl ?_; conv => whnf) | (refine atB_at (by decide) (by decide) ?_; conv => whnf) | (refine getB_lit _ rfl ?_; conv => whnf) | trivial))
  refine br_ndec (fun g => absurd c2 g) (fun _ => ?_)
  ((conv => whnf); (repeat first | (refine wrB (by omega) ?_; conv => whnf) | (refine okB (by kernel_rfl) ?_; conv => whnf) | (refine cb (by first | rfl | omega | (simp; done) | (simp; omega)) ?_; conv => whnf) | (refine idxB_at (by decide) rfl ?_; conv => whnf) | (refine atB_at (by decide) (by decide) ?_; conv => whnf) | (refine getB_lit _ rfl ?_; conv => whnf) | trivial))
  refine br_ndec (fun g => absurd (by simp) g) (fun _ => ?_)
  ((conv => whnf); (repeat first | (refine wrB (by omega) ?_; conv => whnf) | (refine okB (by kernel_rfl) ?_; conv => whnf) | (refine cb (by first | rfl | omega | (simp; done) | (simp; omega)) ?_; conv => whnf) | (refine idxB_at (by decide) rfl ?_; conv => whnf) | (refine atB_at (by decide) (by decide) ?_; conv => whnf) | (refine getB_lit _ rfl ?_; conv => whnf) | trivial))
  refine loopB2 tab_ok mix [0, 1, 3, 9, 10] [] (fun (n : Nat) (s : Bool) => [(12, V.bool s), (13, V.int n)]) (fun n s => [])
    (fun n s => n ≤ a.length ∧ (s = true ↔ a.length ≤ b.length ∧ a.take n = b.take n)) (fun n s => a.length - n) [] 0 (decide (a.length ≤ b.length)) rfl ⟨by omega, by simp⟩ (by ((conv => whnf); (repeat first | (refine wrB (by omega) ?_; conv => whnf) | (refine okB (by kernel_rfl) ?_; conv => whnf) | (refine cb (by first | rfl | omega | (simp; done) | (simp; omega)) ?_; conv => whnf) | (refine idxB_at (by decide) rfl ?_; conv => whnf) | (refine atB_at (by decide) (by decide) ?_; conv => whnf) | (refine getB_lit _ rfl ?_; conv => whnf) | trivial))) ?_
  rintro n s ⟨h1, h2⟩
  have fin : ¬ (n < a.length ∧ s = true) → (s = true ↔ a <+: b) := by
    intro hn
    rw [List.prefix_iff_eq_take]
    by_cases hs : s = true
    · have hi : a.length ≤ n := by by_cases hi : n < a.length; exact absurd ⟨hi, hs⟩ hn; omega
      have : n = a.length := by omega
      subst this
      obtain ⟨g1, g2⟩ := h2.1 hs
      rw [List.take_length] at g2
      simp [hs, ← g2]
    · refine ⟨fun e => absurd e hs, fun e => ?_⟩
      have hl : a.length ≤ b.length := by
        have := congrArg List.length e
        rw [List.length_take] at this
        omega
      refine h2.2 ⟨hl, ?_⟩
      have := congrArg (List.take n) e
      rw [List.take_take, Nat.min_eq_left h1] at this
      exact this
  ((conv => whnf); (repeat first | (refine wrB (by omega) ?_; conv => whnf) | (refine okB (by kernel_rfl) ?_; conv => whnf) | (refine cb (by first | rfl | omega | (simp; done) | (simp; omega)) ?_; conv => whnf) | (refine idxB_at (by decide) rfl ?_; conv => whnf) | (refine atB_at (by decide) (by decide) ?_; conv => whnf) | (refine getB_lit _ rfl ?_; conv => whnf) | trivial))
  refine br_dec (fun g => ?_) (fun g => ?_) <;> ((conv => whnf); (repeat first | (refine wrB (by omega) ?_; conv => whnf) | (refine okB (by kernel_rfl) ?_; conv => whnf) | (refine cb (by first | rfl | omega | (simp; done) | (simp; omega)) ?_; conv => whnf) | (refine idxB_at (by decide) rfl ?_; conv => whnf) | (refine atB_at (by decide) (by decide) ?_; conv => whnf) | (refine getB_lit _ rfl ?_; conv => whnf) | trivial))
  · simp at g
    refine brK_mk (fun hs => ?_) (fun hs => ?_) <;> ((conv => whnf); (repeat first | (refine wrB (by omega) ?_; conv => whnf) | (refine okB (by kernel_rfl) ?_; conv => whnf) | (refine cb (by first | rfl | omega | (simp; done) | (simp; omega)) ?_; conv => whnf) | (refine idxB_at (by decide) rfl ?_; conv => whnf) | (refine atB_at (by decide) (by decide) ?_; conv => whnf) | (refine getB_lit _ rfl ?_; conv => whnf) | trivial))
    · obtain ⟨g1, g2⟩ := h2.1 hs
      obtain ⟨x, hx⟩ := get_lt g
      obtain ⟨y, hy⟩ := get_lt (show n < b.length by omega)
      refine idxB hx ?_
      ((conv => whnf); (repeat first | (refine wrB (by omega) ?_; conv => whnf) | (refine okB (by kernel_rfl) ?_; conv => whnf) | (refine cb (by first | rfl | omega | (simp; done) | (simp; omega)) ?_; conv => whnf) | (refine idxB_at (by decide) rfl ?_; conv => whnf) | (refine atB_at (by decide) (by decide) ?_; conv => whnf) | (refine getB_lit _ rfl ?_; conv => whnf) | trivial))
      refine idxB hy ?_
      ((conv => whnf); (repeat first | (refine wrB (by omega) ?_; conv => whnf) | (refine okB (by kernel_rfl) ?_; conv => whnf) | (refine cb (by first | rfl | omega | (simp; done) | (simp; omega)) ?_; conv => whnf) | (refine idxB_at (by decide) rfl ?_; conv => whnf) | (refine atB_at (by decide) (by decide) ?_; conv => whnf) | (refine getB_lit _ rfl ?_; conv => whnf) | trivial))
      refine .mk [] (n + 1) (decide (x = y)) ⟨by omega, ?_⟩ (by dsimp only; omega) ?_
      · rw [List.take_add_one, List.take_add_one, hx, hy, g2]
        simp [g1]
      · ((conv => whnf); (repeat first | (refine wrB (by omega) ?_; conv => whnf) | (refine okB (by kernel_rfl) ?_; conv => whnf) | (refine cb (by first | rfl | omega | (simp; done) | (simp; omega)) ?_; conv => whnf) | (refine idxB_at (by decide) rfl ?_; conv => whnf) | (refine atB_at (by decide) (by decide) ?_; conv => whnf) | (refine getB_lit _ rfl ?_; conv => whnf) | trivial))
    · have e := fin (fun h => by rw [hs] at h; exact absurd h.2 (by simp))
      refine brK_mk (fun hs => ?_) (fun hs => ?_) <;> ((conv => whnf); (repeat first | (refine wrB (by omega) ?_; conv => whnf) | (refine okB (by kernel_rfl) ?_; conv => whnf) | (refine cb (by first | rfl | omega | (simp; done) | (simp; omega)) ?_; conv => whnf) | (refine idxB_at (by decide) rfl ?_; conv => whnf) | (refine atB_at (by decide) (by decide) ?_; conv => whnf) | (refine getB_lit _ rfl ?_; conv => whnf) | trivial))
      · exact .same rfl
      refine callB (compareKeys a b (by omega)) ?_
      ((conv => whnf); (repeat first | (refine wrB (by omega) ?_; conv => whnf) | (refine okB (by kernel_rfl) ?_; conv => whnf) | (refine cb (by first | rfl | omega | (simp; done) | (simp; omega)) ?_; conv => whnf) | (refine idxB_at (by decide) rfl ?_; conv => whnf) | (refine atB_at (by decide) (by decide) ?_; conv => whnf) | (refine getB_lit _ rfl ?_; conv => whnf) | trivial))
      refine br_ndec (fun g1 => ?_) (fun g1 => ?_) <;> ((conv => whnf); (repeat first | (refine wrB (by omega) ?_; conv => whnf) | (refine okB (by kernel_rfl) ?_; conv => whnf) | (refine cb (by first | rfl | omega | (simp; done) | (simp; omega)) ?_; conv => whnf) | (refine idxB_at (by decide) rfl ?_; conv => whnf) | (refine atB_at (by decide) (by decide) ?_; conv => whnf) | (refine getB_lit _ rfl ?_; conv => whnf) | trivial))
      · exact .same rfl
      have np : ¬ a <+: b := fun hp => by have := e.2 hp; rw [hs] at this; cases this
      have q1 := cmpK_below a b np g1 [i] []
      have q2 := cmpK_below a b np g1 [i] [k]
      rw [List.append_nil] at q1
      refine callB (compareKeys (a ++ [i]) b (by simp; omega)) ?_
      ((conv => whnf); (repeat first | (refine wrB (by omega) ?_; conv => whnf) | (refine okB (by kernel_rfl) ?_; conv => whnf) | (refine cb (by first | rfl | omega | (simp; done) | (simp; omega)) ?_; conv => whnf) | (refine idxB_at (by decide) rfl ?_; conv => whnf) | (refine atB_at (by decide) (by decide) ?_; conv => whnf) | (refine getB_lit _ rfl ?_; conv => whnf) | trivial))
      refine br_dec (fun g2 => ?_) (fun g2 => absurd q1 g2)
      ((conv => whnf); (repeat first | (refine wrB (by omega) ?_; conv => whnf) | (refine okB (by kernel_rfl) ?_; conv => whnf) | (refine cb (by first | rfl | omega | (simp; done) | (simp; omega)) ?_; conv => whnf) | (refine idxB_at (by decide) rfl ?_; conv => whnf) | (refine atB_at (by decide) (by decide) ?_; conv => whnf) | (refine getB_lit _ rfl ?_; conv => whnf) | trivial))
      refine callN (child b k (by omega)) ?_
      ((conv => whnf); (repeat first | (refine wrB (by omega) ?_; conv => whnf) | (refine okB (by kernel_rfl) ?_; conv => whnf) | (refine cb (by first | rfl | omega | (simp; done) | (simp; omega)) ?_; conv => whnf) | (refine idxB_at (by decide) rfl ?_; conv => whnf) | (refine atB_at (by decide) (by decide) ?_; conv => whnf) | (refine getB_lit _ rfl ?_; conv => whnf) | trivial))
      refine callB (compareKeys (a ++ [i]) (b ++ [k]) (by simp; omega)) ?_
      ((conv => whnf); (repeat first | (refine wrB (by omega) ?_; conv => whnf) | (refine okB (by kernel_rfl) ?_; conv => whnf) | (refine cb (by first | rfl | omega | (simp; done) | (simp; omega)) ?_; conv => whnf) | (refine idxB_at (by decide) rfl ?_; conv => whnf) | (refine atB_at (by decide) (by decide) ?_; conv => whnf) | (refine getB_lit _ rfl ?_; conv => whnf) | trivial))
      exact .same (by simp [q2])
  · have e := fin (fun h => g (by simpa using h.1))
    refine brK_mk (fun hs => ?_) (fun hs => ?_) <;> ((conv => whnf); (repeat first | (refine wrB (by omega) ?_; conv => whnf) | (refine okB (by kernel_rfl) ?_; conv => whnf) | (refine cb (by first | rfl | omega | (simp; done) | (simp; omega)) ?_; conv => whnf) | (refine idxB_at (by decide) rfl ?_; conv => whnf) | (refine atB_at (by decide) (by decide) ?_; conv => whnf) | (refine getB_lit _ rfl ?_; conv => whnf) | trivial))
    · exact .same rfl
    refine callB (compareKeys a b (by omega)) ?_
    ((conv => whnf); (repeat first | (refine wrB (by omega) ?_; conv => whnf) | (refine okB (by kernel_rfl) ?_; conv => whnf) | (refine cb (by first | rfl | omega | (simp; done) | (simp; omega)) ?_; conv => whnf) | (refine idxB_at (by decide) rfl ?_; conv => whnf) | (refine atB_at (by decide) (by decide) ?_; conv => whnf) | (refine getB_lit _ rfl ?_; conv => whnf) | trivial))
    refine br_ndec (fun g1 => ?_) (fun g1 => ?_) <;> ((conv => whnf); (repeat first | (refine wrB (by omega) ?_; conv => whnf) | (refine okB (by kernel_rfl) ?_; conv => whnf) | (refine cb (by first | rfl | omega | (simp; done) | (simp; omega)) ?_; conv => whnf) | (refine idxB_at (by decide) rfl ?_; conv => whnf) | (refine atB_at (by decide) (by decide) ?_; conv => whnf) | (refine getB_lit _ rfl ?_; conv => whnf) | trivial))
    · exact .same rfl
    have np : ¬ a <+: b := fun hp => by have := e.2 hp; rw [hs] at this; cases this
    have q1 := cmpK_below a b np g1 [i] []
    have q2 := cmpK_below a b np g1 [i] [k]
    rw [List.append_nil] at q1
    refine callB (compareKeys (a ++ [i]) b (by simp; omega)) ?_
    ((conv => whnf); (repeat first | (refine wrB (by omega) ?_; conv => whnf) | (refine okB (by kernel_rfl) ?_; conv => whnf) | (refine cb (by first | rfl | omega | (simp; done) | (simp; omega)) ?_; conv => whnf) | (refine idxB_at (by decide) rfl ?_; conv => whnf) | (refine atB_at (by decide) (by decide) ?_; conv => whnf) | (refine getB_lit _ rfl ?_; conv => whnf) | trivial))
    refine br_dec (fun g2 => ?_) (fun g2 => absurd q1 g2)
    ((conv => whnf); (repeat first | (refine wrB (by omega) ?_; conv => whnf) | (refine okB (by kernel_rfl) ?_; conv => whnf) | (refine cb (by first | rfl | omega | (simp; done) | (simp; omega)) ?_; conv => whnf) | (refine idxB_at (by decide) rfl ?_; conv => whnf) | (refine atB_at (by decide) (by decide) ?_; conv => whnf) | (refine getB_lit _ rfl ?_; conv => whnf) | trivial))
    refine callN (child b k (by omega)) ?_
    ((conv => whnf); (repeat first | (refine wrB (by omega) ?_; conv => whnf) | (refine okB (by kernel_rfl) ?_; conv => whnf) | (refine cb (by first | rfl | omega | (simp; done) | (simp; omega)) ?_; conv => whnf) | (refine idxB_at (by decide) rfl ?_; conv => whnf) | (refine atB_at (by decide) (by decide) ?_; conv => whnf) | (refine getB_lit _ rfl ?_; conv => whnf) | trivial))
    refine callB (compareKeys (a ++ [i]) (b ++ [k]) (by simp; omega)) ?_
    ((conv => whnf); (repeat first | (refine wrB (by omega) ?_; conv => whnf) | (refine okB (by kernel_rfl) ?_; conv => whnf) | (refine cb (by first | rfl | omega | (simp; done) | (simp; omega)) ?_; conv => whnf) | (refine idxB_at (by decide) rfl ?_; conv => whnf) | (refine atB_at (by decide) (by decide) ?_; conv => whnf) | (refine getB_lit _ rfl ?_; conv => whnf) | trivial))
    exact .same (by simp [q2])
theorem specChildren (rows : List (List D)) (h : AllR (ShapeD tab 5) [33, 33, 3, 3] rows) : PSpec Try.prog 11 (List.zipWith (argV tab) [33, 33, 3, 3] rows) (V.bool true) := by
  obtain ⟨_, _, rfl, h1, h⟩ := h.cons
  obtain ⟨_, _, rfl, h2, h⟩ := h.cons
  obtain ⟨_, _, rfl, h3, h⟩ := h.cons
  obtain ⟨_, _, rfl, h4, h⟩ := h.cons
  cases h.nil
  obtain ⟨x, rfl, hx⟩ := keyOf h1
  obtain ⟨y, rfl, hy⟩ := keyOf h2
  obtain ⟨i, rfl, hi⟩ := intOf h3
  obtain ⟨k, rfl, hk⟩ := intOf h4
  exact evkeyChildren x y i k
end Go.Proofs.Ytepepidjefpckaa.Abs
