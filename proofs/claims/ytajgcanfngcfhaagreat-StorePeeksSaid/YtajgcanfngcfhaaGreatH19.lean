/- Laws of stores as contracts: handles. -/
import Derived.Test.YtajgcanfngcfhaaGreatH18
namespace Go.Proofs.YtajgcanfngcfhaaGreat.Abs
open Go.Proofs
set_option maxRecDepth 10000
set_option linter.unusedSimpArgs false
set_option linter.unusedVariables false
def liveN (l : List Slt) : Nat := (l.filter fun x => decide (x.state ≠ 0)).length
theorem liveC (l : List Slt) (idle : List Int) (next : Int) (hl : l.length < 1000000) : PSpec Tryz.prog 28 [arenaV l idle next] (V.int (liveN l)) := by
  have hle : ∀ i, liveN (l.take i) ≤ l.length := fun i => by
    have h1 := List.length_filter_le (fun x : Slt => decide (x.state ≠ 0)) (l.take i)
    unfold liveN
    have h2 := List.length_take_le i l
    rw [List.length_take] at h1
    omega
  refine pspec tab_ok mix Tryz.func28 (by kernel_rfl) rfl rfl ?_
  ((conv => whnf); (repeat (first | ((first | refine z1 ?_ | refine z2 ?_ | refine z3 ?_ | refine idxB_at (by decide) rfl ?_ | refine atB_at (by decide) (by decide) ?_ | refine getB_lit _ rfl ?_ | refine z7 ?_); conv => whnf) | exact True.intro)))
  refine loopB tab_ok mix [1] [0] (fun i : Nat => [(3, V.int (liveN (l.take i))), (4, V.int i)]) (fun i => []) (fun i => i ≤ l.length) (fun i => l.length - i) [] 0 rfl (by omega) (by ((conv => whnf); (repeat (first | ((first | refine z1 ?_ | refine z2 ?_ | refine z3 ?_ | refine idxB_at (by decide) rfl ?_ | refine atB_at (by decide) (by decide) ?_ | refine getB_lit _ rfl ?_ | refine z7 ?_); conv => whnf) | exact True.intro)))) ?_
  rintro i hi
  have hli := hle i
  have hli2 := hle (i + 1)
  ((conv => whnf); (repeat (first | ((first | refine z1 ?_ | refine z2 ?_ | refine z3 ?_ | refine idxB_at (by decide) rfl ?_ | refine atB_at (by decide) (by decide) ?_ | refine getB_lit _ rfl ?_ | refine z7 ?_); conv => whnf) | exact True.intro)))
  refine br_dec (fun u => ?_) (fun u => ?_) <;> ((conv => whnf); (repeat (first | ((first | refine z1 ?_ | refine z2 ?_ | refine z3 ?_ | refine idxB_at (by decide) rfl ?_ | refine atB_at (by decide) (by decide) ?_ | refine getB_lit _ rfl ?_ | refine z7 ?_); conv => whnf) | exact True.intro)))
  · have u' : i < l.length := by simpa using u
    obtain ⟨x, hx⟩ := get_lt u'
    have hs : liveN (l.take (i + 1)) = liveN (l.take i) + (if x.state ≠ 0 then 1 else 0) := by
      unfold liveN
      rw [List.take_add_one, hx, Option.toList_some, List.filter_append, List.length_append]
      by_cases c : x.state ≠ 0
      · simp [c]
      · simp [c]
    refine idxB hx ?_
    ((conv => whnf); (repeat (first | ((first | refine z1 ?_ | refine z2 ?_ | refine z3 ?_ | refine idxB_at (by decide) rfl ?_ | refine atB_at (by decide) (by decide) ?_ | refine getB_lit _ rfl ?_ | refine z7 ?_); conv => whnf) | exact True.intro)))
    by_cases c : x.state = 0
    · rw [if_neg (by simp [c])] at hs
      rw [show (!decide (x.state = 0)) = false by simp [c]]
      ((conv => whnf); (repeat (first | ((first | refine z1 ?_ | refine z2 ?_ | refine z3 ?_ | refine idxB_at (by decide) rfl ?_ | refine atB_at (by decide) (by decide) ?_ | refine getB_lit _ rfl ?_ | refine z7 ?_); conv => whnf) | exact True.intro)))
      refine .mk [] (i + 1) (by omega) (by omega) ?_
      rw [hs]
      ((conv => whnf); (repeat (first | ((first | refine z1 ?_ | refine z2 ?_ | refine z3 ?_ | refine idxB_at (by decide) rfl ?_ | refine atB_at (by decide) (by decide) ?_ | refine getB_lit _ rfl ?_ | refine z7 ?_); conv => whnf) | exact True.intro)))
    · rw [if_pos c] at hs
      rw [show (!decide (x.state = 0)) = true by simp [c]]
      ((conv => whnf); (repeat (first | ((first | refine z1 ?_ | refine z2 ?_ | refine z3 ?_ | refine idxB_at (by decide) rfl ?_ | refine atB_at (by decide) (by decide) ?_ | refine getB_lit _ rfl ?_ | refine z7 ?_); conv => whnf) | exact True.intro)))
      refine .mk [] (i + 1) (by omega) (by omega) ?_
      rw [hs]
      ((conv => whnf); (repeat (first | ((first | refine z1 ?_ | refine z2 ?_ | refine z3 ?_ | refine idxB_at (by decide) rfl ?_ | refine atB_at (by decide) (by decide) ?_ | refine getB_lit _ rfl ?_ | refine z7 ?_); conv => whnf) | exact True.intro)))
  · have e : i = l.length := by simp at u; omega
    subst e
    rw [List.take_length]
    exact .same rfl
end Go.Proofs.YtajgcanfngcfhaaGreat.Abs
